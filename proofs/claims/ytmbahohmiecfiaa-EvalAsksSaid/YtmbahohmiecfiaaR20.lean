/-
  EvalAsks: from the first run on. There are at most 5000 orders.
-/
import Derived.Test.YtmbahohmiecfiaaR19
namespace Go.Proofs.Ytmbahohmiecfiaa
open Go.RowKit sym
set_option linter.unusedVariables false
set_option linter.unusedSimpArgs false
set_option maxRecDepth 100000
structure lbP where
  Q : List Int
  ak : Nat
  an : Bool
  ac : Nat
  Q2 : List Int
  bk : Nat
  bn : Bool
  bc : Nat
  vx : Int
  vf : Int
  vy : Int
  vg : Int
structure lbX where
  i : Nat
structure lbY where
structure lbZ where
  u : Bool
def lbSt  : lbP → lbX → ASt := fun ⟨Q, ak, an, ac, Q2, bk, bn, bc, vx, vf, vy, vg⟩ ⟨i⟩ => ⟨slots (List.replicate 160 .any) [(8, .v (.one (.ptr 4 0))), (13, .v (.one (.int false .i64 vx))), (14, .v (.one (.int false .i64 vf))), (16, .v (.one (.gs 7 an 1 0 ak ac))), (17, .v (.one (.int false .i64 vy))), (18, .v (.one (.int false .i64 vg))), (138, .v (.one (.int false .i64 (ak : Int)))), (139, .v (.one (.int false .i64 (i : Int))))], [⟨[.dead], 28⟩, ⟨[.dead], 28⟩, ⟨[.dead], 60⟩, ⟨[.dead], 50⟩, ⟨[.gs 9 bn 1 0 bk bc], 47⟩, ⟨[.dead], 48⟩, ⟨[.dead], 38⟩, ⟨[.row an [.u16] Q ac], 23⟩, ⟨[.dead], 38⟩, ⟨[.row bn [.u16] Q2 bc], 23⟩]⟩
def lbFin  : lbP → lbY → ASt := fun ⟨Q, ak, an, ac, Q2, bk, bn, bc, vx, vf, vy, vg⟩ ⟨⟩ => ⟨slots (List.replicate 160 .any) [(13, .v (.one (.int false .i64 vx))), (14, .v (.one (.int false .i64 vf))), (17, .v (.one (.int false .i64 vy))), (18, .v (.one (.int false .i64 vg)))], [⟨[.dead], 28⟩, ⟨[.dead], 28⟩, ⟨[.dead], 60⟩, ⟨[.dead], 50⟩, ⟨[.dead], 47⟩, ⟨[.dead], 48⟩, ⟨[.dead], 38⟩, ⟨[.dead], 23⟩, ⟨[.dead], 38⟩, ⟨[.dead], 23⟩]⟩
def lbBck  : lbP → lbZ → ASt := fun ⟨Q, ak, an, ac, Q2, bk, bn, bc, vx, vf, vy, vg⟩ ⟨u⟩ => ⟨slots (List.replicate 160 .any) [], [⟨[.dead], 28⟩, ⟨[.dead], 28⟩, ⟨[.dead], 60⟩, ⟨[.dead], 50⟩, ⟨[.dead], 47⟩, ⟨[.dead], 48⟩, ⟨[.dead], 38⟩, ⟨[.dead], 23⟩, ⟨[.dead], 38⟩, ⟨[.dead], 23⟩]⟩
def lbNxP : ASt → Option lbP := fun s => match sym.gX s 16 with | none => none | some Q => match sym.gL s 16 with | none => none | some ak => match sym.gN s 16 with | none => none | some an => match sym.gC s 16 with | none => none | some ac => match hgX s 4 0 with | none => none | some Q2 => match hgL s 4 0 with | none => none | some bk => match hgN s 4 0 with | none => none | some bn => match hgC s 4 0 with | none => none | some bc => match sym.gI s 13 with | none => none | some vx => match sym.gI s 14 with | none => none | some vf => match sym.gI s 17 with | none => none | some vy => match sym.gI s 18 with | none => none | some vg => some ⟨Q, ak, an, ac, Q2, bk, bn, bc, vx, vf, vy, vg⟩
def lbNxX : ASt → Option lbX := fun s => match (sym.gI s 139).map Int.toNat with | none => none | some i => some ⟨i⟩
def lbNxY : ASt → Option lbY := fun s => some ⟨⟩
def lbNxZ : ASt → Option lbZ := fun s => match some true with | none => none | some u => some ⟨u⟩
def lbRo : ASt → List (Option Nat) := (fun _ => [])
def lbRf : ASt → List (Option Nat) := (fun _ => [])
def lbRb : ASt → List (Option Nat) := (fun _ => [])
structure lbInv  (p : lbP) (x : lbX) : Prop where
  i1 : x.i ≤ p.ak
  big : p.ak ≤ 1000000
  e1 : p.Q.length = p.ak ∧ p.Q2.length = p.bk ∧ p.Q2 = p.Q ∧ (p.an = true → p.ak = 0) ∧ (p.bn = true → p.bk = 0)
structure lbPost  (p : lbP) (x : lbY) : Prop where
  tr : True
structure lbBack  (p : lbP) (x : lbZ) : Prop where
  no : False
def lbLp  : Lp := ⟨5, 2, fun s => match lbNxP s with
  | some p => match lbNxX s with
    | some x => some (loopT 2 10 true lbRo (lbSt  p) (lbFin  p) (lbBck  p) (lbInv  p) (lbPost  p) (lbBack  p) s x)
    | none => none
  | none => none⟩
structure ctX where
  ln : Bool
  L : List Int
  m : Nat
  cap : Nat
  vx : Int
  vf : Int
  Q : List Int
  ak : Nat
  an : Bool
  ac : Nat
  wad : Int
  wva : Int
  wsp : Int
  wqb : Int
structure ctZ where
  r : Bool
def ctSt (qa qf qb qc qd qe qh ql sp pc : Int) (ad va ki ba : Int) (AB : Option Addr) (Bx : List Int) (nb cb : Nat) (oqa oqf oqb oqc oqd oqe oqh oql osp opc oad ova oki oba : Int) (AC : Option Addr) (Cx : List Int) (nc cc : Nat) : ctX → ASt := fun ⟨ln, L, m, cap, vx, vf, Q, ak, an, ac, wad, wva, wsp, wqb⟩ => ⟨slots (List.replicate 160 .any) [(7, .v (.one (.gs 3 ln 2 0 m cap))), (8, .v (.one (.ptr 4 0))), (13, .v (.one (.int false .i64 vx))), (14, .v (.one (.int false .i64 vf))), (15, .v (.one (.ptr 8 0)))], [⟨[.int false .u8 qa, .int false .u8 qf, .int false .u8 qb, .int false .u8 qc, .int false .u8 qd, .int false .u8 qe, .int false .u8 qh, .int false .u8 ql, .int false .u16 sp, .int false .u16 pc, .int false .i64 ad, .int false .i64 va, .int false .i64 ki, .int false .i64 ba, .xr AB [.u8] Bx nb cb], 28⟩, ⟨[.dead], 28⟩, ⟨[.dead], 60⟩, ⟨[.row ln [.i64, .i64] L cap], 50⟩, ⟨[.gs 7 an 1 0 ak ac], 47⟩, ⟨[.dead], 48⟩, ⟨[.dead], 38⟩, ⟨[.row an [.u16] Q ac], 23⟩, ⟨[.int false .u8 qa, .int false .u8 qf, .int false .u8 wqb, .int false .u8 qc, .int false .u8 qd, .int false .u8 qe, .int false .u8 qh, .int false .u8 ql, .int false .u16 wsp, .int false .u16 pc, .int false .i64 wad, .int false .i64 wva, .int false .i64 ki, .int false .i64 ba, .fn 16 [(4, 0), (0, 0)]], 38⟩]⟩
def ctBck (qa qf qb qc qd qe qh ql sp pc : Int) (ad va ki ba : Int) (AB : Option Addr) (Bx : List Int) (nb cb : Nat) (oqa oqf oqb oqc oqd oqe oqh oql osp opc oad ova oki oba : Int) (AC : Option Addr) (Cx : List Int) (nc cc : Nat) : ctZ → ASt := fun ⟨r⟩ => ⟨slots (List.replicate 160 .any) [(6, .v (.one (.bool false r)))], [⟨[.dead], 28⟩, ⟨[.dead], 28⟩, ⟨[.dead], 60⟩, ⟨[.dead], 50⟩, ⟨[.dead], 47⟩, ⟨[.dead], 48⟩, ⟨[.dead], 38⟩, ⟨[.dead], 23⟩, ⟨[.dead], 38⟩]⟩
def ctNxX : ASt → Option ctX := fun s => match sym.gN s 7 with | none => none | some ln => match sym.gX s 7 with | none => none | some L => match sym.gL s 7 with | none => none | some m => match sym.gC s 7 with | none => none | some cap => match sym.gI s 13 with | none => none | some vx => match sym.gI s 14 with | none => none | some vf => match hgX s 4 0 with | none => none | some Q => match hgL s 4 0 with | none => none | some ak => match hgN s 4 0 with | none => none | some an => match hgC s 4 0 with | none => none | some ac => match hI s 8 10 with | none => none | some wad => match hI s 8 11 with | none => none | some wva => match hI s 8 8 with | none => none | some wsp => match hI s 8 2 with | none => none | some wqb => some ⟨ln, L, m, cap, vx, vf, Q, ak, an, ac, wad, wva, wsp, wqb⟩
def ctNxZ : ASt → Option ctZ := fun s => match sym.gB s 6 with | none => none | some r => some ⟨r⟩
def ctRo : ASt → List (Option Nat) := fun _ => []
def ctRb : ASt → List (Option Nat) := fun _ => []
structure ctInv (qa qf qb qc qd qe qh ql sp pc : Int) (ad va ki ba : Int) (AB : Option Addr) (Bx : List Int) (nb cb : Nat) (oqa oqf oqb oqc oqd oqe oqh oql osp opc oad ova oki oba : Int) (AC : Option Addr) (Cx : List Int) (nc cc : Nat) (x : ctX) : Prop where
  hX : x.L.length = x.m * 2 ∧ x.m ≤ x.cap ∧ (x.ln = true → x.m = 0)
  big : x.m ≤ 5000
  zl : x.Q.length = x.ak
  zd : x.ak ≤ x.ac ∧ x.ac ≤ maxLen
  zn : x.an = true → x.ak = 0 ∧ x.ac = 0
  zb : x.ak ≤ 5000
  eq : evalL (nameL qa qf x.wqb qc qd qe qh ql x.wsp pc x.wad x.wva ki ba) (pkL Bx nb) x.L [] = (x.vx, x.vf)
  aq : x.Q = asksL (nameL qa qf x.wqb qc qd qe qh ql x.wsp pc x.wad x.wva ki ba) (pkL Bx nb) x.L []
structure ctBack (qa qf qb qc qd qe qh ql sp pc : Int) (ad va ki ba : Int) (AB : Option Addr) (Bx : List Int) (nb cb : Nat) (oqa oqf oqb oqc oqd oqe oqh oql osp opc oad ova oki oba : Int) (AC : Option Addr) (Cx : List Int) (nc cc : Nat) (x : ctZ) : Prop where
  so : x.r = true
def ctLp (qa qf qb qc qd qe qh ql sp pc : Int) (ad va ki ba : Int) (AB : Option Addr) (Bx : List Int) (nb cb : Nat) (oqa oqf oqb oqc oqd oqe oqh oql osp opc oad ova oki oba : Int) (AC : Option Addr) (Cx : List Int) (nc cc : Nat) : Lp := ⟨5, 20031, fun s => match ctNxX s with
  | some x => some (cutT 9 ctRo (ctSt qa qf qb qc qd qe qh ql sp pc ad va ki ba AB Bx nb cb oqa oqf oqb oqc oqd oqe oqh oql osp opc oad ova oki oba AC Cx nc cc) (ctBck qa qf qb qc qd qe qh ql sp pc ad va ki ba AB Bx nb cb oqa oqf oqb oqc oqd oqe oqh oql osp opc oad ova oki oba AC Cx nc cc) (ctInv qa qf qb qc qd qe qh ql sp pc ad va ki ba AB Bx nb cb oqa oqf oqb oqc oqd oqe oqh oql osp opc oad ova oki oba AC Cx nc cc) (ctBack qa qf qb qc qd qe qh ql sp pc ad va ki ba AB Bx nb cb oqa oqf oqb oqc oqd oqe oqh oql osp opc oad ova oki oba AC Cx nc cc) s x)
  | none => none⟩
structure cuX where
  ln : Bool
  L : List Int
  m : Nat
  cap : Nat
  vx : Int
  vf : Int
  Q : List Int
  ak : Nat
  an : Bool
  ac : Nat
  b0 : Bool
  b1 : Bool
  b2 : Bool
  b3 : Bool
  b4 : Bool
  b5 : Bool
  b6 : Bool
  b7 : Bool
  b8 : Bool
  b9 : Bool
  b10 : Bool
  b11 : Bool
  b12 : Bool
  b13 : Bool
  b14 : Bool
  b15 : Bool
  b16 : Bool
  b17 : Bool
structure cuZ where
  r : Bool
def cuSt (qa qf qb qc qd qe qh ql sp pc : Int) (ad va ki ba : Int) (AB : Option Addr) (Bx : List Int) (nb cb : Nat) (oqa oqf oqb oqc oqd oqe oqh oql osp opc oad ova oki oba : Int) (AC : Option Addr) (Cx : List Int) (nc cc : Nat) : cuX → ASt := fun ⟨ln, L, m, cap, vx, vf, Q, ak, an, ac, b0, b1, b2, b3, b4, b5, b6, b7, b8, b9, b10, b11, b12, b13, b14, b15, b16, b17⟩ => ⟨slots (List.replicate 160 .any) [(5, .v (.one (.ptr 1 0))), (7, .v (.one (.gs 3 ln 2 0 m cap))), (8, .v (.one (.ptr 4 0))), (9, .v (.one (.ptr 5 0))), (12, .v (.one (.ptr 6 0))), (13, .v (.one (.int false .i64 vx))), (14, .v (.one (.int false .i64 vf)))], [⟨[.int false .u8 qa, .int false .u8 qf, .int false .u8 qb, .int false .u8 qc, .int false .u8 qd, .int false .u8 qe, .int false .u8 qh, .int false .u8 ql, .int false .u16 sp, .int false .u16 pc, .int false .i64 ad, .int false .i64 va, .int false .i64 ki, .int false .i64 ba, .xr AB [.u8] Bx nb cb], 28⟩, ⟨[.int false .u8 oqa, .int false .u8 oqf, .int false .u8 oqb, .int false .u8 oqc, .int false .u8 oqd, .int false .u8 oqe, .int false .u8 oqh, .int false .u8 oql, .int false .u16 osp, .int false .u16 opc, .int false .i64 oad, .int false .i64 ova, .int false .i64 oki, .int false .i64 oba, .xr AC [.u8] Cx nc cc], 28⟩, ⟨[.dead], 60⟩, ⟨[.row ln [.i64, .i64] L cap], 50⟩, ⟨[.gs 7 an 1 0 ak ac], 47⟩, ⟨[.bool false b0, .bool false b1, .bool false b2, .bool false b3, .bool false b4, .bool false b5, .bool false b6, .bool false b7, .bool false b8, .bool false b9, .bool false b10, .bool false b11, .bool false b12, .bool false b13, .bool false b14, .bool false b15, .bool false b16, .bool false b17], 48⟩, ⟨[.int false .u8 qa, .int false .u8 qf, .int false .u8 qb, .int false .u8 qc, .int false .u8 qd, .int false .u8 qe, .int false .u8 qh, .int false .u8 ql, .int false .u16 sp, .int false .u16 pc, .int false .i64 ad, .int false .i64 va, .int false .i64 ki, .int false .i64 ba, .fn 16 [(4, 0), (0, 0)]], 38⟩, ⟨[.row an [.u16] Q ac], 23⟩]⟩
def cuBck (qa qf qb qc qd qe qh ql sp pc : Int) (ad va ki ba : Int) (AB : Option Addr) (Bx : List Int) (nb cb : Nat) (oqa oqf oqb oqc oqd oqe oqh oql osp opc oad ova oki oba : Int) (AC : Option Addr) (Cx : List Int) (nc cc : Nat) : cuZ → ASt := fun ⟨r⟩ => ⟨slots (List.replicate 160 .any) [(6, .v (.one (.bool false r)))], [⟨[.dead], 28⟩, ⟨[.dead], 28⟩, ⟨[.dead], 60⟩, ⟨[.dead], 50⟩, ⟨[.dead], 47⟩, ⟨[.dead], 48⟩, ⟨[.dead], 38⟩, ⟨[.dead], 23⟩]⟩
def cuNxX : ASt → Option cuX := fun s => match sym.gN s 7 with | none => none | some ln => match sym.gX s 7 with | none => none | some L => match sym.gL s 7 with | none => none | some m => match sym.gC s 7 with | none => none | some cap => match sym.gI s 13 with | none => none | some vx => match sym.gI s 14 with | none => none | some vf => match hgX s 4 0 with | none => none | some Q => match hgL s 4 0 with | none => none | some ak => match hgN s 4 0 with | none => none | some an => match hgC s 4 0 with | none => none | some ac => match sym.hB s 5 0 with | none => none | some b0 => match sym.hB s 5 1 with | none => none | some b1 => match sym.hB s 5 2 with | none => none | some b2 => match sym.hB s 5 3 with | none => none | some b3 => match sym.hB s 5 4 with | none => none | some b4 => match sym.hB s 5 5 with | none => none | some b5 => match sym.hB s 5 6 with | none => none | some b6 => match sym.hB s 5 7 with | none => none | some b7 => match sym.hB s 5 8 with | none => none | some b8 => match sym.hB s 5 9 with | none => none | some b9 => match sym.hB s 5 10 with | none => none | some b10 => match sym.hB s 5 11 with | none => none | some b11 => match sym.hB s 5 12 with | none => none | some b12 => match sym.hB s 5 13 with | none => none | some b13 => match sym.hB s 5 14 with | none => none | some b14 => match sym.hB s 5 15 with | none => none | some b15 => match sym.hB s 5 16 with | none => none | some b16 => match sym.hB s 5 17 with | none => none | some b17 => some ⟨ln, L, m, cap, vx, vf, Q, ak, an, ac, b0, b1, b2, b3, b4, b5, b6, b7, b8, b9, b10, b11, b12, b13, b14, b15, b16, b17⟩
def cuNxZ : ASt → Option cuZ := fun s => match sym.gB s 6 with | none => none | some r => some ⟨r⟩
def cuRo : ASt → List (Option Nat) := fun _ => []
def cuRb : ASt → List (Option Nat) := fun _ => []
structure cuInv (qa qf qb qc qd qe qh ql sp pc : Int) (ad va ki ba : Int) (AB : Option Addr) (Bx : List Int) (nb cb : Nat) (oqa oqf oqb oqc oqd oqe oqh oql osp opc oad ova oki oba : Int) (AC : Option Addr) (Cx : List Int) (nc cc : Nat) (x : cuX) : Prop where
  hX : x.L.length = x.m * 2 ∧ x.m ≤ x.cap ∧ (x.ln = true → x.m = 0)
  big : x.m ≤ 5000
  zl : x.Q.length = x.ak
  zd : x.ak ≤ x.ac ∧ x.ac ≤ maxLen
  zn : x.an = true → x.ak = 0 ∧ x.ac = 0
  zb : x.ak ≤ 5000
  eq : evalL (nameL qa qf qb qc qd qe qh ql sp pc ad va ki ba) (pkL Bx nb) x.L [] = (x.vx, x.vf)
  aq : x.Q = asksL (nameL qa qf qb qc qd qe qh ql sp pc ad va ki ba) (pkL Bx nb) x.L []
  nm : ∀ j : Nat, j < x.m → (x.L.getD (j * 2) 0 = 2 → (x.L.getD (j * 2 + 1) 0 = 14 → x.b14 = true) ∧ (x.L.getD (j * 2 + 1) 0 = 15 → x.b15 = true) ∧ (x.L.getD (j * 2 + 1) 0 = 12 → x.b12 = true) ∧ (x.L.getD (j * 2 + 1) 0 = 2 → x.b2 = true) ∧ (x.L.getD (j * 2 + 1) 0 = 9 → x.b9 = true))
structure cuBack (qa qf qb qc qd qe qh ql sp pc : Int) (ad va ki ba : Int) (AB : Option Addr) (Bx : List Int) (nb cb : Nat) (oqa oqf oqb oqc oqd oqe oqh oql osp opc oad ova oki oba : Int) (AC : Option Addr) (Cx : List Int) (nc cc : Nat) (x : cuZ) : Prop where
  so : x.r = true
def cuLp (qa qf qb qc qd qe qh ql sp pc : Int) (ad va ki ba : Int) (AB : Option Addr) (Bx : List Int) (nb cb : Nat) (oqa oqf oqb oqc oqd oqe oqh oql osp opc oad ova oki oba : Int) (AC : Option Addr) (Cx : List Int) (nc cc : Nat) : Lp := ⟨5, 20022, fun s => match cuNxX s with
  | some x => some (cutT 8 cuRo (cuSt qa qf qb qc qd qe qh ql sp pc ad va ki ba AB Bx nb cb oqa oqf oqb oqc oqd oqe oqh oql osp opc oad ova oki oba AC Cx nc cc) (cuBck qa qf qb qc qd qe qh ql sp pc ad va ki ba AB Bx nb cb oqa oqf oqb oqc oqd oqe oqh oql osp opc oad ova oki oba AC Cx nc cc) (cuInv qa qf qb qc qd qe qh ql sp pc ad va ki ba AB Bx nb cb oqa oqf oqb oqc oqd oqe oqh oql osp opc oad ova oki oba AC Cx nc cc) (cuBack qa qf qb qc qd qe qh ql sp pc ad va ki ba AB Bx nb cb oqa oqf oqb oqc oqd oqe oqh oql osp opc oad ova oki oba AC Cx nc cc) s x)
  | none => none⟩
theorem lbstep_tree (w : World)  (Q : List Int) (ak : Nat) (an : Bool) (ac : Nat) (Q2 : List Int) (bk : Nat) (bn : Bool) (bc : Nat) (vx : Int) (vf : Int) (vy : Int) (vg : Int) (i : Nat) :
    roundT Try.prog w (flatT Try.prog) (noCtr) (callT Try.prog w (flatT Try.prog) (noCtr) (noPre) (noLoop) 20) ((noLoop) 5) (roundOf (bodyAt Try.prog 5 2)) 2 10 lbRo lbRf lbRb (lbSt  ⟨Q, ak, an, ac, Q2, bk, bn, bc, vx, vf, vy, vg⟩) (lbFin  ⟨Q, ak, an, ac, Q2, bk, bn, bc, vx, vf, vy, vg⟩) (lbBck  ⟨Q, ak, an, ac, Q2, bk, bn, bc, vx, vf, vy, vg⟩) lbNxX lbNxY lbNxZ ⟨i⟩ =
(.br (decide ((↑i : Int) < (↑ak : Int)))
 (.chk (an = false ∧ (0 : Int) ≤ (↑i : Int) ∧ (↑i : Int) < (↑ak : Int))
 (.chk (an = false ∧ ((0 : Nat) + (↑i : Int).toNat) * (1 : Nat) + (1 : Nat) ≤ Q.length)
 (.chk (bn = false ∧ (0 : Int) ≤ (↑i : Int) ∧ (↑i : Int) < (↑bk : Int))
 (.chk (bn = false ∧ ((0 : Nat) + (↑i : Int).toNat) * (1 : Nat) + (1 : Nat) ≤ Q2.length)
 (.br (Q.getD (((0 : Nat) + (↑i : Int).toNat) * (1 : Nat) + (0 : Nat)) (0 : Int) !=
  Q2.getD (((0 : Nat) + (↑i : Int).toNat) * (1 : Nat) + (0 : Nat)) (0 : Int))
 (.leaf (.inr (.inr ⟨true⟩)))
 (.chk (IntKind.i64 = IntKind.i64 ∧ vx = vx)
 (.chk (IntKind.i64 = IntKind.i64 ∧ vf = vf)
 (.chk (an = an ∧ (1 : Nat) = (1 : Nat) ∧ (0 : Nat) = (0 : Nat) ∧ ak = ak ∧ ac = ac)
 (.chk (IntKind.i64 = IntKind.i64 ∧ vy = vy)
 (.chk (IntKind.i64 = IntKind.i64 ∧ vg = vg)
 (.chk (IntKind.i64 = IntKind.i64 ∧ (↑ak : Int) = (↑ak : Int))
 (.chk (IntKind.i64 = IntKind.i64 ∧
  IntKind.i64.wrap ((↑i : Int) + (1 : Int)) = (↑(IntKind.i64.wrap ((↑i : Int) + (1 : Int))).toNat : Int))
 (.chk (bn = bn ∧ (1 : Nat) = (1 : Nat) ∧ (0 : Nat) = (0 : Nat) ∧ bk = bk ∧ bc = bc)
 (.chk (an = an ∧ [IntKind.u16] = [IntKind.u16] ∧ Q = Q ∧ ac = ac)
 (.chk (bn = bn ∧ [IntKind.u16] = [IntKind.u16] ∧ Q2 = Q2 ∧ bc = bc)
 (.leaf (.inl ⟨(IntKind.i64.wrap ((↑i : Int) + (1 : Int))).toNat⟩)))))))))))))))))
 (.chk (IntKind.i64 = IntKind.i64 ∧ vx = vx)
 (.chk (IntKind.i64 = IntKind.i64 ∧ vf = vf)
 (.chk (IntKind.i64 = IntKind.i64 ∧ vy = vy)
 (.chk (IntKind.i64 = IntKind.i64 ∧ vg = vg)
 (.leaf (.inr (.inl ⟨⟩)))))))) := by kernel_rfl
theorem ctstep_tree (w : World) (qa qf qb qc qd qe qh ql sp pc : Int) (ad va ki ba : Int) (AB : Option Addr) (Bx : List Int) (nb cb : Nat) (oqa oqf oqb oqc oqd oqe oqh oql osp opc oad ova oki oba : Int) (AC : Option Addr) (Cx : List Int) (nc cc : Nat) (ln : Bool) (L : List Int) (m : Nat) (cap : Nat) (vx : Int) (vf : Int) (Q : List Int) (ak : Nat) (an : Bool) (ac : Nat) (wad : Int) (wva : Int) (wsp : Int) (wqb : Int) :
    tailT Try.prog w (flatT Try.prog) (noCtr) (callT Try.prog w (flatT Try.prog) (noCtr) (fpreOf [runA w]) (lpOf Try.prog [lbLp]) 20) ((lpOf Try.prog [lbLp]) 5) (sufAt Try.prog 5 31) 9 ctRb (ctBck qa qf qb qc qd qe qh ql sp pc ad va ki ba AB Bx nb cb oqa oqf oqb oqc oqd oqe oqh oql osp opc oad ova oki oba AC Cx nc cc) ctNxZ (ctSt qa qf qb qc qd qe qh ql sp pc ad va ki ba AB Bx nb cb oqa oqf oqb oqc oqd oqe oqh oql osp opc oad ova oki oba AC Cx nc cc ⟨ln, L, m, cap, vx, vf, Q, ak, an, ac, wad, wva, wsp, wqb⟩) =
(.chk ((ln = ln ∧ cap = cap) ∧
  sym.XR w AB [IntKind.u8] Bx nb ∧
    (L.length = m * (2 : Nat) ∧ m ≤ cap ∧ (ln = true → m = (0 : Nat))) ∧ m ≤ (1000000 : Nat))
(.all fun x : RowR
  (asksL
      (nameL qa qf wqb qc qd qe qh ql wsp pc wad wva ki ba)
      (pkL Bx nb) L []).length =>
 (.br ((↑ak : Int) !=
  (↑(asksL
          (nameL qa qf wqb qc qd qe qh ql wsp pc wad wva ki ba)
          (pkL Bx nb) L []).length :
    Int))
 (.chk (false = false)
 (.leaf ⟨false⟩))
 (.chk (sym.textAt Go.Proofs.Try.prog (5 : Go.FuncId) (2 : Nat) = sym.textAt Go.Proofs.Try.prog (5 : Go.FuncId) (2 : Nat))
 (.chk (IntKind.i64 = IntKind.i64 ∧ vx = vx)
 (.chk (IntKind.i64 = IntKind.i64 ∧ vf = vf)
 (.chk (an = an ∧ (1 : Nat) = (1 : Nat) ∧ (0 : Nat) = (0 : Nat) ∧ ak = ak ∧ ac = ac)
 (.chk (IntKind.i64 = IntKind.i64 ∧
  (evalL
        (nameL qa qf wqb qc qd qe qh ql wsp pc wad wva ki ba)
        (pkL Bx nb) L []).fst =
    (evalL
        (nameL qa qf wqb qc qd qe qh ql wsp pc wad wva ki ba)
        (pkL Bx nb) L []).fst)
 (.chk (IntKind.i64 = IntKind.i64 ∧
  (evalL
        (nameL qa qf wqb qc qd qe qh ql wsp pc wad wva ki ba)
        (pkL Bx nb) L []).snd =
    (evalL
        (nameL qa qf wqb qc qd qe qh ql wsp pc wad wva ki ba)
        (pkL Bx nb) L []).snd)
 (.chk (IntKind.i64 = IntKind.i64 ∧ (↑ak : Int) = (↑ak : Int))
 (.chk (IntKind.i64 = IntKind.i64 ∧ (0 : Int) = (0 : Int))
 (.chk (x.nl = x.nl ∧
  (1 : Nat) = (1 : Nat) ∧
    (0 : Nat) = (0 : Nat) ∧
      (asksL
              (nameL qa qf wqb qc qd qe qh ql wsp pc wad wva ki ba)
              (pkL Bx nb) L []).length =
          (asksL
              (nameL qa qf wqb qc qd qe qh ql wsp pc wad wva ki ba)
              (pkL Bx nb) L []).length ∧
        x.cap = x.cap)
 (.chk (an = an ∧ [IntKind.u16] = [IntKind.u16] ∧ Q = Q ∧ ac = ac)
 (.chk (x.nl = x.nl ∧
  [IntKind.u16] = [IntKind.u16] ∧
    asksL
          (nameL qa qf wqb qc qd qe qh ql wsp pc wad wva ki ba)
          (pkL Bx nb) L [] =
        asksL
          (nameL qa qf wqb qc qd qe qh ql wsp pc wad wva ki ba)
          (pkL Bx nb) L [] ∧
      x.cap = x.cap)
 (.chk (lbInv
  { Q := Q, ak := ak, an := an, ac := ac,
    Q2 :=
      asksL
        (nameL qa qf wqb qc qd qe qh ql wsp pc wad wva ki ba)
        (pkL Bx nb) L [],
    bk :=
      (asksL
          (nameL qa qf wqb qc qd qe qh ql wsp pc wad wva ki ba)
          (pkL Bx nb) L []).length,
    bn := x.nl, bc := x.cap, vx := vx, vf := vf,
    vy :=
      (evalL
          (nameL qa qf wqb qc qd qe qh ql wsp pc wad wva ki ba)
          (pkL Bx nb) L []).fst,
    vg :=
      (evalL
          (nameL qa qf wqb qc qd qe qh ql wsp pc wad wva ki ba)
          (pkL Bx nb) L []).snd }
  { i := (0 : Nat) })
 (.all fun x_1 : Bool =>
 (.br (x_1)
 (.all fun x_2 : sym.Got lbY
  (lbPost
    { Q := Q, ak := ak, an := an, ac := ac,
      Q2 :=
        asksL
          (nameL qa qf wqb qc qd qe qh ql wsp pc wad wva ki ba)
          (pkL Bx nb) L [],
      bk :=
        (asksL
            (nameL qa qf wqb qc qd qe qh ql wsp pc wad wva ki ba)
            (pkL Bx nb) L []).length,
      bn := x.nl, bc := x.cap, vx := vx, vf := vf,
      vy :=
        (evalL
            (nameL qa qf wqb qc qd qe qh ql wsp pc wad wva ki ba)
            (pkL Bx nb) L []).fst,
      vg :=
        (evalL
            (nameL qa qf wqb qc qd qe qh ql wsp pc wad wva ki ba)
            (pkL Bx nb) L []).snd }) =>
 (.br (vx ==
  (evalL
      (nameL qa qf wqb qc qd qe qh ql wsp pc wad wva ki ba)
      (pkL Bx nb) L []).fst)
 (.chk ((vf ==
    (evalL
        (nameL qa qf wqb qc qd qe qh ql wsp pc wad wva ki ba)
        (pkL Bx nb) L []).snd) =
  (vf ==
    (evalL
        (nameL qa qf wqb qc qd qe qh ql wsp pc wad wva ki ba)
        (pkL Bx nb) L []).snd))
 (.leaf ⟨vf ==
  (evalL
      (nameL qa qf wqb qc qd qe qh ql wsp pc wad wva ki ba)
      (pkL Bx nb) L []).snd⟩))
 (.chk (false = false)
 (.leaf ⟨false⟩))))
 (.all fun x_2 : sym.Got lbZ
  (lbBack
    { Q := Q, ak := ak, an := an, ac := ac,
      Q2 :=
        asksL
          (nameL qa qf wqb qc qd qe qh ql wsp pc wad wva ki ba)
          (pkL Bx nb) L [],
      bk :=
        (asksL
            (nameL qa qf wqb qc qd qe qh ql wsp pc wad wva ki ba)
            (pkL Bx nb) L []).length,
      bn := x.nl, bc := x.cap, vx := vx, vf := vf,
      vy :=
        (evalL
            (nameL qa qf wqb qc qd qe qh ql wsp pc wad wva ki ba)
            (pkL Bx nb) L []).fst,
      vg :=
        (evalL
            (nameL qa qf wqb qc qd qe qh ql wsp pc wad wva ki ba)
            (pkL Bx nb) L []).snd }) =>
 (.fail "ret"))))))))))))))))))) := by kernel_rfl
theorem custep_tree (w : World) (qa qf qb qc qd qe qh ql sp pc : Int) (ad va ki ba : Int) (AB : Option Addr) (Bx : List Int) (nb cb : Nat) (oqa oqf oqb oqc oqd oqe oqh oql osp opc oad ova oki oba : Int) (AC : Option Addr) (Cx : List Int) (nc cc : Nat) (ln : Bool) (L : List Int) (m : Nat) (cap : Nat) (vx : Int) (vf : Int) (Q : List Int) (ak : Nat) (an : Bool) (ac : Nat) (b0 : Bool) (b1 : Bool) (b2 : Bool) (b3 : Bool) (b4 : Bool) (b5 : Bool) (b6 : Bool) (b7 : Bool) (b8 : Bool) (b9 : Bool) (b10 : Bool) (b11 : Bool) (b12 : Bool) (b13 : Bool) (b14 : Bool) (b15 : Bool) (b16 : Bool) (b17 : Bool) :
    tailT Try.prog w (flatT Try.prog) (noCtr) (callT Try.prog w (flatT Try.prog) (noCtr) (noPre) (lpOf Try.prog [ctLp qa qf qb qc qd qe qh ql sp pc ad va ki ba AB Bx nb cb oqa oqf oqb oqc oqd oqe oqh oql osp opc oad ova oki oba AC Cx nc cc]) 20) ((lpOf Try.prog [ctLp qa qf qb qc qd qe qh ql sp pc ad va ki ba AB Bx nb cb oqa oqf oqb oqc oqd oqe oqh oql osp opc oad ova oki oba AC Cx nc cc]) 5) (sufAt Try.prog 5 22) 8 cuRb (cuBck qa qf qb qc qd qe qh ql sp pc ad va ki ba AB Bx nb cb oqa oqf oqb oqc oqd oqe oqh oql osp opc oad ova oki oba AC Cx nc cc) cuNxZ (cuSt qa qf qb qc qd qe qh ql sp pc ad va ki ba AB Bx nb cb oqa oqf oqb oqc oqd oqe oqh oql osp opc oad ova oki oba AC Cx nc cc ⟨ln, L, m, cap, vx, vf, Q, ak, an, ac, b0, b1, b2, b3, b4, b5, b6, b7, b8, b9, b10, b11, b12, b13, b14, b15, b16, b17⟩) =
(.br (!b14)
 (.br (!b15)
 (.br (!b12)
 (.br (!b2)
 (.br (!b9)
 (.chk (sym.textAt Go.Proofs.Try.prog (5 : Go.FuncId) (20031 : Nat) = sym.textAt Go.Proofs.Try.prog (5 : Go.FuncId) (20031 : Nat))
 (.chk (ln = ln ∧ (2 : Nat) = (2 : Nat) ∧ (0 : Nat) = (0 : Nat) ∧ m = m ∧ cap = cap)
 (.chk (IntKind.i64 = IntKind.i64 ∧ vx = vx)
 (.chk (IntKind.i64 = IntKind.i64 ∧ vf = vf)
 (.chk (IntKind.u8 = IntKind.u8 ∧ qa = qa)
 (.chk (IntKind.u8 = IntKind.u8 ∧ qf = qf)
 (.chk (IntKind.u8 = IntKind.u8 ∧ qb = qb)
 (.chk (IntKind.u8 = IntKind.u8 ∧ qc = qc)
 (.chk (IntKind.u8 = IntKind.u8 ∧ qd = qd)
 (.chk (IntKind.u8 = IntKind.u8 ∧ qe = qe)
 (.chk (IntKind.u8 = IntKind.u8 ∧ qh = qh)
 (.chk (IntKind.u8 = IntKind.u8 ∧ ql = ql)
 (.chk (IntKind.u16 = IntKind.u16 ∧ sp = sp)
 (.chk (IntKind.u16 = IntKind.u16 ∧ pc = pc)
 (.chk (IntKind.i64 = IntKind.i64 ∧ ad = ad)
 (.chk (IntKind.i64 = IntKind.i64 ∧ va = va)
 (.chk (IntKind.i64 = IntKind.i64 ∧ ki = ki)
 (.chk (IntKind.i64 = IntKind.i64 ∧ ba = ba)
 (.chk (AB = AB ∧ [IntKind.u8] = [IntKind.u8] ∧ Bx = Bx ∧ nb = nb ∧ cb = cb)
 (.chk (ln = ln ∧ [IntKind.i64, IntKind.i64] = [IntKind.i64, IntKind.i64] ∧ L = L ∧ cap = cap)
 (.chk (an = an ∧ (1 : Nat) = (1 : Nat) ∧ (0 : Nat) = (0 : Nat) ∧ ak = ak ∧ ac = ac)
 (.chk (an = an ∧ [IntKind.u16] = [IntKind.u16] ∧ Q = Q ∧ ac = ac)
 (.chk (IntKind.u8 = IntKind.u8 ∧ qa = qa)
 (.chk (IntKind.u8 = IntKind.u8 ∧ qf = qf)
 (.chk (IntKind.u8 = IntKind.u8 ∧ oqb = oqb)
 (.chk (IntKind.u8 = IntKind.u8 ∧ qc = qc)
 (.chk (IntKind.u8 = IntKind.u8 ∧ qd = qd)
 (.chk (IntKind.u8 = IntKind.u8 ∧ qe = qe)
 (.chk (IntKind.u8 = IntKind.u8 ∧ qh = qh)
 (.chk (IntKind.u8 = IntKind.u8 ∧ ql = ql)
 (.chk (IntKind.u16 = IntKind.u16 ∧ osp = osp)
 (.chk (IntKind.u16 = IntKind.u16 ∧ pc = pc)
 (.chk (IntKind.i64 = IntKind.i64 ∧ oad = oad)
 (.chk (IntKind.i64 = IntKind.i64 ∧ ova = ova)
 (.chk (IntKind.i64 = IntKind.i64 ∧ ki = ki)
 (.chk (IntKind.i64 = IntKind.i64 ∧ ba = ba)
 (.chk (ctInv qa qf qb qc qd qe qh ql sp pc ad va ki ba AB Bx nb cb oqa oqf oqb oqc oqd oqe oqh oql
  osp opc oad ova oki oba AC Cx nc cc
  { ln := ln, L := L, m := m, cap := cap, vx := vx, vf := vf, Q := Q, ak := ak, an := an, ac := ac, wad := oad,
    wva := ova, wsp := osp, wqb := oqb })
 (.all fun x : sym.Got ctZ
  (ctBack qa qf qb qc qd qe qh ql sp pc ad va ki ba AB Bx nb cb oqa oqf oqb oqc oqd oqe oqh
    oql osp opc oad ova oki oba AC Cx nc cc) =>
 (.chk (x.1.1 = x.1.1)
 (.leaf ⟨x.1.1⟩))))))))))))))))))))))))))))))))))))))))
 (.chk (sym.textAt Go.Proofs.Try.prog (5 : Go.FuncId) (20031 : Nat) = sym.textAt Go.Proofs.Try.prog (5 : Go.FuncId) (20031 : Nat))
 (.chk (ln = ln ∧ (2 : Nat) = (2 : Nat) ∧ (0 : Nat) = (0 : Nat) ∧ m = m ∧ cap = cap)
 (.chk (IntKind.i64 = IntKind.i64 ∧ vx = vx)
 (.chk (IntKind.i64 = IntKind.i64 ∧ vf = vf)
 (.chk (IntKind.u8 = IntKind.u8 ∧ qa = qa)
 (.chk (IntKind.u8 = IntKind.u8 ∧ qf = qf)
 (.chk (IntKind.u8 = IntKind.u8 ∧ qb = qb)
 (.chk (IntKind.u8 = IntKind.u8 ∧ qc = qc)
 (.chk (IntKind.u8 = IntKind.u8 ∧ qd = qd)
 (.chk (IntKind.u8 = IntKind.u8 ∧ qe = qe)
 (.chk (IntKind.u8 = IntKind.u8 ∧ qh = qh)
 (.chk (IntKind.u8 = IntKind.u8 ∧ ql = ql)
 (.chk (IntKind.u16 = IntKind.u16 ∧ sp = sp)
 (.chk (IntKind.u16 = IntKind.u16 ∧ pc = pc)
 (.chk (IntKind.i64 = IntKind.i64 ∧ ad = ad)
 (.chk (IntKind.i64 = IntKind.i64 ∧ va = va)
 (.chk (IntKind.i64 = IntKind.i64 ∧ ki = ki)
 (.chk (IntKind.i64 = IntKind.i64 ∧ ba = ba)
 (.chk (AB = AB ∧ [IntKind.u8] = [IntKind.u8] ∧ Bx = Bx ∧ nb = nb ∧ cb = cb)
 (.chk (ln = ln ∧ [IntKind.i64, IntKind.i64] = [IntKind.i64, IntKind.i64] ∧ L = L ∧ cap = cap)
 (.chk (an = an ∧ (1 : Nat) = (1 : Nat) ∧ (0 : Nat) = (0 : Nat) ∧ ak = ak ∧ ac = ac)
 (.chk (an = an ∧ [IntKind.u16] = [IntKind.u16] ∧ Q = Q ∧ ac = ac)
 (.chk (IntKind.u8 = IntKind.u8 ∧ qa = qa)
 (.chk (IntKind.u8 = IntKind.u8 ∧ qf = qf)
 (.chk (IntKind.u8 = IntKind.u8 ∧ qb = qb)
 (.chk (IntKind.u8 = IntKind.u8 ∧ qc = qc)
 (.chk (IntKind.u8 = IntKind.u8 ∧ qd = qd)
 (.chk (IntKind.u8 = IntKind.u8 ∧ qe = qe)
 (.chk (IntKind.u8 = IntKind.u8 ∧ qh = qh)
 (.chk (IntKind.u8 = IntKind.u8 ∧ ql = ql)
 (.chk (IntKind.u16 = IntKind.u16 ∧ osp = osp)
 (.chk (IntKind.u16 = IntKind.u16 ∧ pc = pc)
 (.chk (IntKind.i64 = IntKind.i64 ∧ oad = oad)
 (.chk (IntKind.i64 = IntKind.i64 ∧ ova = ova)
 (.chk (IntKind.i64 = IntKind.i64 ∧ ki = ki)
 (.chk (IntKind.i64 = IntKind.i64 ∧ ba = ba)
 (.chk (ctInv qa qf qb qc qd qe qh ql sp pc ad va ki ba AB Bx nb cb oqa oqf oqb oqc oqd oqe oqh oql
  osp opc oad ova oki oba AC Cx nc cc
  { ln := ln, L := L, m := m, cap := cap, vx := vx, vf := vf, Q := Q, ak := ak, an := an, ac := ac, wad := oad,
    wva := ova, wsp := osp, wqb := qb })
 (.all fun x : sym.Got ctZ
  (ctBack qa qf qb qc qd qe qh ql sp pc ad va ki ba AB Bx nb cb oqa oqf oqb oqc oqd oqe oqh
    oql osp opc oad ova oki oba AC Cx nc cc) =>
 (.chk (x.1.1 = x.1.1)
 (.leaf ⟨x.1.1⟩)))))))))))))))))))))))))))))))))))))))))
 (.chk (sym.textAt Go.Proofs.Try.prog (5 : Go.FuncId) (20031 : Nat) = sym.textAt Go.Proofs.Try.prog (5 : Go.FuncId) (20031 : Nat))
 (.chk (ln = ln ∧ (2 : Nat) = (2 : Nat) ∧ (0 : Nat) = (0 : Nat) ∧ m = m ∧ cap = cap)
 (.chk (IntKind.i64 = IntKind.i64 ∧ vx = vx)
 (.chk (IntKind.i64 = IntKind.i64 ∧ vf = vf)
 (.chk (IntKind.u8 = IntKind.u8 ∧ qa = qa)
 (.chk (IntKind.u8 = IntKind.u8 ∧ qf = qf)
 (.chk (IntKind.u8 = IntKind.u8 ∧ qb = qb)
 (.chk (IntKind.u8 = IntKind.u8 ∧ qc = qc)
 (.chk (IntKind.u8 = IntKind.u8 ∧ qd = qd)
 (.chk (IntKind.u8 = IntKind.u8 ∧ qe = qe)
 (.chk (IntKind.u8 = IntKind.u8 ∧ qh = qh)
 (.chk (IntKind.u8 = IntKind.u8 ∧ ql = ql)
 (.chk (IntKind.u16 = IntKind.u16 ∧ sp = sp)
 (.chk (IntKind.u16 = IntKind.u16 ∧ pc = pc)
 (.chk (IntKind.i64 = IntKind.i64 ∧ ad = ad)
 (.chk (IntKind.i64 = IntKind.i64 ∧ va = va)
 (.chk (IntKind.i64 = IntKind.i64 ∧ ki = ki)
 (.chk (IntKind.i64 = IntKind.i64 ∧ ba = ba)
 (.chk (AB = AB ∧ [IntKind.u8] = [IntKind.u8] ∧ Bx = Bx ∧ nb = nb ∧ cb = cb)
 (.chk (ln = ln ∧ [IntKind.i64, IntKind.i64] = [IntKind.i64, IntKind.i64] ∧ L = L ∧ cap = cap)
 (.chk (an = an ∧ (1 : Nat) = (1 : Nat) ∧ (0 : Nat) = (0 : Nat) ∧ ak = ak ∧ ac = ac)
 (.chk (an = an ∧ [IntKind.u16] = [IntKind.u16] ∧ Q = Q ∧ ac = ac)
 (.chk (IntKind.u8 = IntKind.u8 ∧ qa = qa)
 (.chk (IntKind.u8 = IntKind.u8 ∧ qf = qf)
 (.chk (IntKind.u8 = IntKind.u8 ∧ qb = qb)
 (.chk (IntKind.u8 = IntKind.u8 ∧ qc = qc)
 (.chk (IntKind.u8 = IntKind.u8 ∧ qd = qd)
 (.chk (IntKind.u8 = IntKind.u8 ∧ qe = qe)
 (.chk (IntKind.u8 = IntKind.u8 ∧ qh = qh)
 (.chk (IntKind.u8 = IntKind.u8 ∧ ql = ql)
 (.chk (IntKind.u16 = IntKind.u16 ∧ osp = osp)
 (.chk (IntKind.u16 = IntKind.u16 ∧ pc = pc)
 (.chk (IntKind.i64 = IntKind.i64 ∧ oad = oad)
 (.chk (IntKind.i64 = IntKind.i64 ∧ ova = ova)
 (.chk (IntKind.i64 = IntKind.i64 ∧ ki = ki)
 (.chk (IntKind.i64 = IntKind.i64 ∧ ba = ba)
 (.chk (ctInv qa qf qb qc qd qe qh ql sp pc ad va ki ba AB Bx nb cb oqa oqf oqb oqc oqd oqe oqh oql
  osp opc oad ova oki oba AC Cx nc cc
  { ln := ln, L := L, m := m, cap := cap, vx := vx, vf := vf, Q := Q, ak := ak, an := an, ac := ac, wad := oad,
    wva := ova, wsp := osp, wqb := qb })
 (.all fun x : sym.Got ctZ
  (ctBack qa qf qb qc qd qe qh ql sp pc ad va ki ba AB Bx nb cb oqa oqf oqb oqc oqd oqe oqh
    oql osp opc oad ova oki oba AC Cx nc cc) =>
 (.chk (x.1.1 = x.1.1)
 (.leaf ⟨x.1.1⟩)))))))))))))))))))))))))))))))))))))))))
 (.br (!b2)
 (.br (!b9)
 (.chk (sym.textAt Go.Proofs.Try.prog (5 : Go.FuncId) (20031 : Nat) = sym.textAt Go.Proofs.Try.prog (5 : Go.FuncId) (20031 : Nat))
 (.chk (ln = ln ∧ (2 : Nat) = (2 : Nat) ∧ (0 : Nat) = (0 : Nat) ∧ m = m ∧ cap = cap)
 (.chk (IntKind.i64 = IntKind.i64 ∧ vx = vx)
 (.chk (IntKind.i64 = IntKind.i64 ∧ vf = vf)
 (.chk (IntKind.u8 = IntKind.u8 ∧ qa = qa)
 (.chk (IntKind.u8 = IntKind.u8 ∧ qf = qf)
 (.chk (IntKind.u8 = IntKind.u8 ∧ qb = qb)
 (.chk (IntKind.u8 = IntKind.u8 ∧ qc = qc)
 (.chk (IntKind.u8 = IntKind.u8 ∧ qd = qd)
 (.chk (IntKind.u8 = IntKind.u8 ∧ qe = qe)
 (.chk (IntKind.u8 = IntKind.u8 ∧ qh = qh)
 (.chk (IntKind.u8 = IntKind.u8 ∧ ql = ql)
 (.chk (IntKind.u16 = IntKind.u16 ∧ sp = sp)
 (.chk (IntKind.u16 = IntKind.u16 ∧ pc = pc)
 (.chk (IntKind.i64 = IntKind.i64 ∧ ad = ad)
 (.chk (IntKind.i64 = IntKind.i64 ∧ va = va)
 (.chk (IntKind.i64 = IntKind.i64 ∧ ki = ki)
 (.chk (IntKind.i64 = IntKind.i64 ∧ ba = ba)
 (.chk (AB = AB ∧ [IntKind.u8] = [IntKind.u8] ∧ Bx = Bx ∧ nb = nb ∧ cb = cb)
 (.chk (ln = ln ∧ [IntKind.i64, IntKind.i64] = [IntKind.i64, IntKind.i64] ∧ L = L ∧ cap = cap)
 (.chk (an = an ∧ (1 : Nat) = (1 : Nat) ∧ (0 : Nat) = (0 : Nat) ∧ ak = ak ∧ ac = ac)
 (.chk (an = an ∧ [IntKind.u16] = [IntKind.u16] ∧ Q = Q ∧ ac = ac)
 (.chk (IntKind.u8 = IntKind.u8 ∧ qa = qa)
 (.chk (IntKind.u8 = IntKind.u8 ∧ qf = qf)
 (.chk (IntKind.u8 = IntKind.u8 ∧ oqb = oqb)
 (.chk (IntKind.u8 = IntKind.u8 ∧ qc = qc)
 (.chk (IntKind.u8 = IntKind.u8 ∧ qd = qd)
 (.chk (IntKind.u8 = IntKind.u8 ∧ qe = qe)
 (.chk (IntKind.u8 = IntKind.u8 ∧ qh = qh)
 (.chk (IntKind.u8 = IntKind.u8 ∧ ql = ql)
 (.chk (IntKind.u16 = IntKind.u16 ∧ sp = sp)
 (.chk (IntKind.u16 = IntKind.u16 ∧ pc = pc)
 (.chk (IntKind.i64 = IntKind.i64 ∧ oad = oad)
 (.chk (IntKind.i64 = IntKind.i64 ∧ ova = ova)
 (.chk (IntKind.i64 = IntKind.i64 ∧ ki = ki)
 (.chk (IntKind.i64 = IntKind.i64 ∧ ba = ba)
 (.chk (ctInv qa qf qb qc qd qe qh ql sp pc ad va ki ba AB Bx nb cb oqa oqf oqb oqc oqd oqe oqh oql
  osp opc oad ova oki oba AC Cx nc cc
  { ln := ln, L := L, m := m, cap := cap, vx := vx, vf := vf, Q := Q, ak := ak, an := an, ac := ac, wad := oad,
    wva := ova, wsp := sp, wqb := oqb })
 (.all fun x : sym.Got ctZ
  (ctBack qa qf qb qc qd qe qh ql sp pc ad va ki ba AB Bx nb cb oqa oqf oqb oqc oqd oqe oqh
    oql osp opc oad ova oki oba AC Cx nc cc) =>
 (.chk (x.1.1 = x.1.1)
 (.leaf ⟨x.1.1⟩))))))))))))))))))))))))))))))))))))))))
 (.chk (sym.textAt Go.Proofs.Try.prog (5 : Go.FuncId) (20031 : Nat) = sym.textAt Go.Proofs.Try.prog (5 : Go.FuncId) (20031 : Nat))
 (.chk (ln = ln ∧ (2 : Nat) = (2 : Nat) ∧ (0 : Nat) = (0 : Nat) ∧ m = m ∧ cap = cap)
 (.chk (IntKind.i64 = IntKind.i64 ∧ vx = vx)
 (.chk (IntKind.i64 = IntKind.i64 ∧ vf = vf)
 (.chk (IntKind.u8 = IntKind.u8 ∧ qa = qa)
 (.chk (IntKind.u8 = IntKind.u8 ∧ qf = qf)
 (.chk (IntKind.u8 = IntKind.u8 ∧ qb = qb)
 (.chk (IntKind.u8 = IntKind.u8 ∧ qc = qc)
 (.chk (IntKind.u8 = IntKind.u8 ∧ qd = qd)
 (.chk (IntKind.u8 = IntKind.u8 ∧ qe = qe)
 (.chk (IntKind.u8 = IntKind.u8 ∧ qh = qh)
 (.chk (IntKind.u8 = IntKind.u8 ∧ ql = ql)
 (.chk (IntKind.u16 = IntKind.u16 ∧ sp = sp)
 (.chk (IntKind.u16 = IntKind.u16 ∧ pc = pc)
 (.chk (IntKind.i64 = IntKind.i64 ∧ ad = ad)
 (.chk (IntKind.i64 = IntKind.i64 ∧ va = va)
 (.chk (IntKind.i64 = IntKind.i64 ∧ ki = ki)
 (.chk (IntKind.i64 = IntKind.i64 ∧ ba = ba)
 (.chk (AB = AB ∧ [IntKind.u8] = [IntKind.u8] ∧ Bx = Bx ∧ nb = nb ∧ cb = cb)
 (.chk (ln = ln ∧ [IntKind.i64, IntKind.i64] = [IntKind.i64, IntKind.i64] ∧ L = L ∧ cap = cap)
 (.chk (an = an ∧ (1 : Nat) = (1 : Nat) ∧ (0 : Nat) = (0 : Nat) ∧ ak = ak ∧ ac = ac)
 (.chk (an = an ∧ [IntKind.u16] = [IntKind.u16] ∧ Q = Q ∧ ac = ac)
 (.chk (IntKind.u8 = IntKind.u8 ∧ qa = qa)
 (.chk (IntKind.u8 = IntKind.u8 ∧ qf = qf)
 (.chk (IntKind.u8 = IntKind.u8 ∧ qb = qb)
 (.chk (IntKind.u8 = IntKind.u8 ∧ qc = qc)
 (.chk (IntKind.u8 = IntKind.u8 ∧ qd = qd)
 (.chk (IntKind.u8 = IntKind.u8 ∧ qe = qe)
 (.chk (IntKind.u8 = IntKind.u8 ∧ qh = qh)
 (.chk (IntKind.u8 = IntKind.u8 ∧ ql = ql)
 (.chk (IntKind.u16 = IntKind.u16 ∧ sp = sp)
 (.chk (IntKind.u16 = IntKind.u16 ∧ pc = pc)
 (.chk (IntKind.i64 = IntKind.i64 ∧ oad = oad)
 (.chk (IntKind.i64 = IntKind.i64 ∧ ova = ova)
 (.chk (IntKind.i64 = IntKind.i64 ∧ ki = ki)
 (.chk (IntKind.i64 = IntKind.i64 ∧ ba = ba)
 (.chk (ctInv qa qf qb qc qd qe qh ql sp pc ad va ki ba AB Bx nb cb oqa oqf oqb oqc oqd oqe oqh oql
  osp opc oad ova oki oba AC Cx nc cc
  { ln := ln, L := L, m := m, cap := cap, vx := vx, vf := vf, Q := Q, ak := ak, an := an, ac := ac, wad := oad,
    wva := ova, wsp := sp, wqb := qb })
 (.all fun x : sym.Got ctZ
  (ctBack qa qf qb qc qd qe qh ql sp pc ad va ki ba AB Bx nb cb oqa oqf oqb oqc oqd oqe oqh
    oql osp opc oad ova oki oba AC Cx nc cc) =>
 (.chk (x.1.1 = x.1.1)
 (.leaf ⟨x.1.1⟩)))))))))))))))))))))))))))))))))))))))))
 (.chk (sym.textAt Go.Proofs.Try.prog (5 : Go.FuncId) (20031 : Nat) = sym.textAt Go.Proofs.Try.prog (5 : Go.FuncId) (20031 : Nat))
 (.chk (ln = ln ∧ (2 : Nat) = (2 : Nat) ∧ (0 : Nat) = (0 : Nat) ∧ m = m ∧ cap = cap)
 (.chk (IntKind.i64 = IntKind.i64 ∧ vx = vx)
 (.chk (IntKind.i64 = IntKind.i64 ∧ vf = vf)
 (.chk (IntKind.u8 = IntKind.u8 ∧ qa = qa)
 (.chk (IntKind.u8 = IntKind.u8 ∧ qf = qf)
 (.chk (IntKind.u8 = IntKind.u8 ∧ qb = qb)
 (.chk (IntKind.u8 = IntKind.u8 ∧ qc = qc)
 (.chk (IntKind.u8 = IntKind.u8 ∧ qd = qd)
 (.chk (IntKind.u8 = IntKind.u8 ∧ qe = qe)
 (.chk (IntKind.u8 = IntKind.u8 ∧ qh = qh)
 (.chk (IntKind.u8 = IntKind.u8 ∧ ql = ql)
 (.chk (IntKind.u16 = IntKind.u16 ∧ sp = sp)
 (.chk (IntKind.u16 = IntKind.u16 ∧ pc = pc)
 (.chk (IntKind.i64 = IntKind.i64 ∧ ad = ad)
 (.chk (IntKind.i64 = IntKind.i64 ∧ va = va)
 (.chk (IntKind.i64 = IntKind.i64 ∧ ki = ki)
 (.chk (IntKind.i64 = IntKind.i64 ∧ ba = ba)
 (.chk (AB = AB ∧ [IntKind.u8] = [IntKind.u8] ∧ Bx = Bx ∧ nb = nb ∧ cb = cb)
 (.chk (ln = ln ∧ [IntKind.i64, IntKind.i64] = [IntKind.i64, IntKind.i64] ∧ L = L ∧ cap = cap)
 (.chk (an = an ∧ (1 : Nat) = (1 : Nat) ∧ (0 : Nat) = (0 : Nat) ∧ ak = ak ∧ ac = ac)
 (.chk (an = an ∧ [IntKind.u16] = [IntKind.u16] ∧ Q = Q ∧ ac = ac)
 (.chk (IntKind.u8 = IntKind.u8 ∧ qa = qa)
 (.chk (IntKind.u8 = IntKind.u8 ∧ qf = qf)
 (.chk (IntKind.u8 = IntKind.u8 ∧ qb = qb)
 (.chk (IntKind.u8 = IntKind.u8 ∧ qc = qc)
 (.chk (IntKind.u8 = IntKind.u8 ∧ qd = qd)
 (.chk (IntKind.u8 = IntKind.u8 ∧ qe = qe)
 (.chk (IntKind.u8 = IntKind.u8 ∧ qh = qh)
 (.chk (IntKind.u8 = IntKind.u8 ∧ ql = ql)
 (.chk (IntKind.u16 = IntKind.u16 ∧ sp = sp)
 (.chk (IntKind.u16 = IntKind.u16 ∧ pc = pc)
 (.chk (IntKind.i64 = IntKind.i64 ∧ oad = oad)
 (.chk (IntKind.i64 = IntKind.i64 ∧ ova = ova)
 (.chk (IntKind.i64 = IntKind.i64 ∧ ki = ki)
 (.chk (IntKind.i64 = IntKind.i64 ∧ ba = ba)
 (.chk (ctInv qa qf qb qc qd qe qh ql sp pc ad va ki ba AB Bx nb cb oqa oqf oqb oqc oqd oqe oqh oql
  osp opc oad ova oki oba AC Cx nc cc
  { ln := ln, L := L, m := m, cap := cap, vx := vx, vf := vf, Q := Q, ak := ak, an := an, ac := ac, wad := oad,
    wva := ova, wsp := sp, wqb := qb })
 (.all fun x : sym.Got ctZ
  (ctBack qa qf qb qc qd qe qh ql sp pc ad va ki ba AB Bx nb cb oqa oqf oqb oqc oqd oqe oqh
    oql osp opc oad ova oki oba AC Cx nc cc) =>
 (.chk (x.1.1 = x.1.1)
 (.leaf ⟨x.1.1⟩))))))))))))))))))))))))))))))))))))))))))
 (.br (!b12)
 (.br (!b2)
 (.br (!b9)
 (.chk (sym.textAt Go.Proofs.Try.prog (5 : Go.FuncId) (20031 : Nat) = sym.textAt Go.Proofs.Try.prog (5 : Go.FuncId) (20031 : Nat))
 (.chk (ln = ln ∧ (2 : Nat) = (2 : Nat) ∧ (0 : Nat) = (0 : Nat) ∧ m = m ∧ cap = cap)
 (.chk (IntKind.i64 = IntKind.i64 ∧ vx = vx)
 (.chk (IntKind.i64 = IntKind.i64 ∧ vf = vf)
 (.chk (IntKind.u8 = IntKind.u8 ∧ qa = qa)
 (.chk (IntKind.u8 = IntKind.u8 ∧ qf = qf)
 (.chk (IntKind.u8 = IntKind.u8 ∧ qb = qb)
 (.chk (IntKind.u8 = IntKind.u8 ∧ qc = qc)
 (.chk (IntKind.u8 = IntKind.u8 ∧ qd = qd)
 (.chk (IntKind.u8 = IntKind.u8 ∧ qe = qe)
 (.chk (IntKind.u8 = IntKind.u8 ∧ qh = qh)
 (.chk (IntKind.u8 = IntKind.u8 ∧ ql = ql)
 (.chk (IntKind.u16 = IntKind.u16 ∧ sp = sp)
 (.chk (IntKind.u16 = IntKind.u16 ∧ pc = pc)
 (.chk (IntKind.i64 = IntKind.i64 ∧ ad = ad)
 (.chk (IntKind.i64 = IntKind.i64 ∧ va = va)
 (.chk (IntKind.i64 = IntKind.i64 ∧ ki = ki)
 (.chk (IntKind.i64 = IntKind.i64 ∧ ba = ba)
 (.chk (AB = AB ∧ [IntKind.u8] = [IntKind.u8] ∧ Bx = Bx ∧ nb = nb ∧ cb = cb)
 (.chk (ln = ln ∧ [IntKind.i64, IntKind.i64] = [IntKind.i64, IntKind.i64] ∧ L = L ∧ cap = cap)
 (.chk (an = an ∧ (1 : Nat) = (1 : Nat) ∧ (0 : Nat) = (0 : Nat) ∧ ak = ak ∧ ac = ac)
 (.chk (an = an ∧ [IntKind.u16] = [IntKind.u16] ∧ Q = Q ∧ ac = ac)
 (.chk (IntKind.u8 = IntKind.u8 ∧ qa = qa)
 (.chk (IntKind.u8 = IntKind.u8 ∧ qf = qf)
 (.chk (IntKind.u8 = IntKind.u8 ∧ oqb = oqb)
 (.chk (IntKind.u8 = IntKind.u8 ∧ qc = qc)
 (.chk (IntKind.u8 = IntKind.u8 ∧ qd = qd)
 (.chk (IntKind.u8 = IntKind.u8 ∧ qe = qe)
 (.chk (IntKind.u8 = IntKind.u8 ∧ qh = qh)
 (.chk (IntKind.u8 = IntKind.u8 ∧ ql = ql)
 (.chk (IntKind.u16 = IntKind.u16 ∧ osp = osp)
 (.chk (IntKind.u16 = IntKind.u16 ∧ pc = pc)
 (.chk (IntKind.i64 = IntKind.i64 ∧ oad = oad)
 (.chk (IntKind.i64 = IntKind.i64 ∧ va = va)
 (.chk (IntKind.i64 = IntKind.i64 ∧ ki = ki)
 (.chk (IntKind.i64 = IntKind.i64 ∧ ba = ba)
 (.chk (ctInv qa qf qb qc qd qe qh ql sp pc ad va ki ba AB Bx nb cb oqa oqf oqb oqc oqd oqe oqh oql
  osp opc oad ova oki oba AC Cx nc cc
  { ln := ln, L := L, m := m, cap := cap, vx := vx, vf := vf, Q := Q, ak := ak, an := an, ac := ac, wad := oad,
    wva := va, wsp := osp, wqb := oqb })
 (.all fun x : sym.Got ctZ
  (ctBack qa qf qb qc qd qe qh ql sp pc ad va ki ba AB Bx nb cb oqa oqf oqb oqc oqd oqe oqh
    oql osp opc oad ova oki oba AC Cx nc cc) =>
 (.chk (x.1.1 = x.1.1)
 (.leaf ⟨x.1.1⟩))))))))))))))))))))))))))))))))))))))))
 (.chk (sym.textAt Go.Proofs.Try.prog (5 : Go.FuncId) (20031 : Nat) = sym.textAt Go.Proofs.Try.prog (5 : Go.FuncId) (20031 : Nat))
 (.chk (ln = ln ∧ (2 : Nat) = (2 : Nat) ∧ (0 : Nat) = (0 : Nat) ∧ m = m ∧ cap = cap)
 (.chk (IntKind.i64 = IntKind.i64 ∧ vx = vx)
 (.chk (IntKind.i64 = IntKind.i64 ∧ vf = vf)
 (.chk (IntKind.u8 = IntKind.u8 ∧ qa = qa)
 (.chk (IntKind.u8 = IntKind.u8 ∧ qf = qf)
 (.chk (IntKind.u8 = IntKind.u8 ∧ qb = qb)
 (.chk (IntKind.u8 = IntKind.u8 ∧ qc = qc)
 (.chk (IntKind.u8 = IntKind.u8 ∧ qd = qd)
 (.chk (IntKind.u8 = IntKind.u8 ∧ qe = qe)
 (.chk (IntKind.u8 = IntKind.u8 ∧ qh = qh)
 (.chk (IntKind.u8 = IntKind.u8 ∧ ql = ql)
 (.chk (IntKind.u16 = IntKind.u16 ∧ sp = sp)
 (.chk (IntKind.u16 = IntKind.u16 ∧ pc = pc)
 (.chk (IntKind.i64 = IntKind.i64 ∧ ad = ad)
 (.chk (IntKind.i64 = IntKind.i64 ∧ va = va)
 (.chk (IntKind.i64 = IntKind.i64 ∧ ki = ki)
 (.chk (IntKind.i64 = IntKind.i64 ∧ ba = ba)
 (.chk (AB = AB ∧ [IntKind.u8] = [IntKind.u8] ∧ Bx = Bx ∧ nb = nb ∧ cb = cb)
 (.chk (ln = ln ∧ [IntKind.i64, IntKind.i64] = [IntKind.i64, IntKind.i64] ∧ L = L ∧ cap = cap)
 (.chk (an = an ∧ (1 : Nat) = (1 : Nat) ∧ (0 : Nat) = (0 : Nat) ∧ ak = ak ∧ ac = ac)
 (.chk (an = an ∧ [IntKind.u16] = [IntKind.u16] ∧ Q = Q ∧ ac = ac)
 (.chk (IntKind.u8 = IntKind.u8 ∧ qa = qa)
 (.chk (IntKind.u8 = IntKind.u8 ∧ qf = qf)
 (.chk (IntKind.u8 = IntKind.u8 ∧ qb = qb)
 (.chk (IntKind.u8 = IntKind.u8 ∧ qc = qc)
 (.chk (IntKind.u8 = IntKind.u8 ∧ qd = qd)
 (.chk (IntKind.u8 = IntKind.u8 ∧ qe = qe)
 (.chk (IntKind.u8 = IntKind.u8 ∧ qh = qh)
 (.chk (IntKind.u8 = IntKind.u8 ∧ ql = ql)
 (.chk (IntKind.u16 = IntKind.u16 ∧ osp = osp)
 (.chk (IntKind.u16 = IntKind.u16 ∧ pc = pc)
 (.chk (IntKind.i64 = IntKind.i64 ∧ oad = oad)
 (.chk (IntKind.i64 = IntKind.i64 ∧ va = va)
 (.chk (IntKind.i64 = IntKind.i64 ∧ ki = ki)
 (.chk (IntKind.i64 = IntKind.i64 ∧ ba = ba)
 (.chk (ctInv qa qf qb qc qd qe qh ql sp pc ad va ki ba AB Bx nb cb oqa oqf oqb oqc oqd oqe oqh oql
  osp opc oad ova oki oba AC Cx nc cc
  { ln := ln, L := L, m := m, cap := cap, vx := vx, vf := vf, Q := Q, ak := ak, an := an, ac := ac, wad := oad,
    wva := va, wsp := osp, wqb := qb })
 (.all fun x : sym.Got ctZ
  (ctBack qa qf qb qc qd qe qh ql sp pc ad va ki ba AB Bx nb cb oqa oqf oqb oqc oqd oqe oqh
    oql osp opc oad ova oki oba AC Cx nc cc) =>
 (.chk (x.1.1 = x.1.1)
 (.leaf ⟨x.1.1⟩)))))))))))))))))))))))))))))))))))))))))
 (.chk (sym.textAt Go.Proofs.Try.prog (5 : Go.FuncId) (20031 : Nat) = sym.textAt Go.Proofs.Try.prog (5 : Go.FuncId) (20031 : Nat))
 (.chk (ln = ln ∧ (2 : Nat) = (2 : Nat) ∧ (0 : Nat) = (0 : Nat) ∧ m = m ∧ cap = cap)
 (.chk (IntKind.i64 = IntKind.i64 ∧ vx = vx)
 (.chk (IntKind.i64 = IntKind.i64 ∧ vf = vf)
 (.chk (IntKind.u8 = IntKind.u8 ∧ qa = qa)
 (.chk (IntKind.u8 = IntKind.u8 ∧ qf = qf)
 (.chk (IntKind.u8 = IntKind.u8 ∧ qb = qb)
 (.chk (IntKind.u8 = IntKind.u8 ∧ qc = qc)
 (.chk (IntKind.u8 = IntKind.u8 ∧ qd = qd)
 (.chk (IntKind.u8 = IntKind.u8 ∧ qe = qe)
 (.chk (IntKind.u8 = IntKind.u8 ∧ qh = qh)
 (.chk (IntKind.u8 = IntKind.u8 ∧ ql = ql)
 (.chk (IntKind.u16 = IntKind.u16 ∧ sp = sp)
 (.chk (IntKind.u16 = IntKind.u16 ∧ pc = pc)
 (.chk (IntKind.i64 = IntKind.i64 ∧ ad = ad)
 (.chk (IntKind.i64 = IntKind.i64 ∧ va = va)
 (.chk (IntKind.i64 = IntKind.i64 ∧ ki = ki)
 (.chk (IntKind.i64 = IntKind.i64 ∧ ba = ba)
 (.chk (AB = AB ∧ [IntKind.u8] = [IntKind.u8] ∧ Bx = Bx ∧ nb = nb ∧ cb = cb)
 (.chk (ln = ln ∧ [IntKind.i64, IntKind.i64] = [IntKind.i64, IntKind.i64] ∧ L = L ∧ cap = cap)
 (.chk (an = an ∧ (1 : Nat) = (1 : Nat) ∧ (0 : Nat) = (0 : Nat) ∧ ak = ak ∧ ac = ac)
 (.chk (an = an ∧ [IntKind.u16] = [IntKind.u16] ∧ Q = Q ∧ ac = ac)
 (.chk (IntKind.u8 = IntKind.u8 ∧ qa = qa)
 (.chk (IntKind.u8 = IntKind.u8 ∧ qf = qf)
 (.chk (IntKind.u8 = IntKind.u8 ∧ qb = qb)
 (.chk (IntKind.u8 = IntKind.u8 ∧ qc = qc)
 (.chk (IntKind.u8 = IntKind.u8 ∧ qd = qd)
 (.chk (IntKind.u8 = IntKind.u8 ∧ qe = qe)
 (.chk (IntKind.u8 = IntKind.u8 ∧ qh = qh)
 (.chk (IntKind.u8 = IntKind.u8 ∧ ql = ql)
 (.chk (IntKind.u16 = IntKind.u16 ∧ osp = osp)
 (.chk (IntKind.u16 = IntKind.u16 ∧ pc = pc)
 (.chk (IntKind.i64 = IntKind.i64 ∧ oad = oad)
 (.chk (IntKind.i64 = IntKind.i64 ∧ va = va)
 (.chk (IntKind.i64 = IntKind.i64 ∧ ki = ki)
 (.chk (IntKind.i64 = IntKind.i64 ∧ ba = ba)
 (.chk (ctInv qa qf qb qc qd qe qh ql sp pc ad va ki ba AB Bx nb cb oqa oqf oqb oqc oqd oqe oqh oql
  osp opc oad ova oki oba AC Cx nc cc
  { ln := ln, L := L, m := m, cap := cap, vx := vx, vf := vf, Q := Q, ak := ak, an := an, ac := ac, wad := oad,
    wva := va, wsp := osp, wqb := qb })
 (.all fun x : sym.Got ctZ
  (ctBack qa qf qb qc qd qe qh ql sp pc ad va ki ba AB Bx nb cb oqa oqf oqb oqc oqd oqe oqh
    oql osp opc oad ova oki oba AC Cx nc cc) =>
 (.chk (x.1.1 = x.1.1)
 (.leaf ⟨x.1.1⟩)))))))))))))))))))))))))))))))))))))))))
 (.br (!b2)
 (.br (!b9)
 (.chk (sym.textAt Go.Proofs.Try.prog (5 : Go.FuncId) (20031 : Nat) = sym.textAt Go.Proofs.Try.prog (5 : Go.FuncId) (20031 : Nat))
 (.chk (ln = ln ∧ (2 : Nat) = (2 : Nat) ∧ (0 : Nat) = (0 : Nat) ∧ m = m ∧ cap = cap)
 (.chk (IntKind.i64 = IntKind.i64 ∧ vx = vx)
 (.chk (IntKind.i64 = IntKind.i64 ∧ vf = vf)
 (.chk (IntKind.u8 = IntKind.u8 ∧ qa = qa)
 (.chk (IntKind.u8 = IntKind.u8 ∧ qf = qf)
 (.chk (IntKind.u8 = IntKind.u8 ∧ qb = qb)
 (.chk (IntKind.u8 = IntKind.u8 ∧ qc = qc)
 (.chk (IntKind.u8 = IntKind.u8 ∧ qd = qd)
 (.chk (IntKind.u8 = IntKind.u8 ∧ qe = qe)
 (.chk (IntKind.u8 = IntKind.u8 ∧ qh = qh)
 (.chk (IntKind.u8 = IntKind.u8 ∧ ql = ql)
 (.chk (IntKind.u16 = IntKind.u16 ∧ sp = sp)
 (.chk (IntKind.u16 = IntKind.u16 ∧ pc = pc)
 (.chk (IntKind.i64 = IntKind.i64 ∧ ad = ad)
 (.chk (IntKind.i64 = IntKind.i64 ∧ va = va)
 (.chk (IntKind.i64 = IntKind.i64 ∧ ki = ki)
 (.chk (IntKind.i64 = IntKind.i64 ∧ ba = ba)
 (.chk (AB = AB ∧ [IntKind.u8] = [IntKind.u8] ∧ Bx = Bx ∧ nb = nb ∧ cb = cb)
 (.chk (ln = ln ∧ [IntKind.i64, IntKind.i64] = [IntKind.i64, IntKind.i64] ∧ L = L ∧ cap = cap)
 (.chk (an = an ∧ (1 : Nat) = (1 : Nat) ∧ (0 : Nat) = (0 : Nat) ∧ ak = ak ∧ ac = ac)
 (.chk (an = an ∧ [IntKind.u16] = [IntKind.u16] ∧ Q = Q ∧ ac = ac)
 (.chk (IntKind.u8 = IntKind.u8 ∧ qa = qa)
 (.chk (IntKind.u8 = IntKind.u8 ∧ qf = qf)
 (.chk (IntKind.u8 = IntKind.u8 ∧ oqb = oqb)
 (.chk (IntKind.u8 = IntKind.u8 ∧ qc = qc)
 (.chk (IntKind.u8 = IntKind.u8 ∧ qd = qd)
 (.chk (IntKind.u8 = IntKind.u8 ∧ qe = qe)
 (.chk (IntKind.u8 = IntKind.u8 ∧ qh = qh)
 (.chk (IntKind.u8 = IntKind.u8 ∧ ql = ql)
 (.chk (IntKind.u16 = IntKind.u16 ∧ sp = sp)
 (.chk (IntKind.u16 = IntKind.u16 ∧ pc = pc)
 (.chk (IntKind.i64 = IntKind.i64 ∧ oad = oad)
 (.chk (IntKind.i64 = IntKind.i64 ∧ va = va)
 (.chk (IntKind.i64 = IntKind.i64 ∧ ki = ki)
 (.chk (IntKind.i64 = IntKind.i64 ∧ ba = ba)
 (.chk (ctInv qa qf qb qc qd qe qh ql sp pc ad va ki ba AB Bx nb cb oqa oqf oqb oqc oqd oqe oqh oql
  osp opc oad ova oki oba AC Cx nc cc
  { ln := ln, L := L, m := m, cap := cap, vx := vx, vf := vf, Q := Q, ak := ak, an := an, ac := ac, wad := oad,
    wva := va, wsp := sp, wqb := oqb })
 (.all fun x : sym.Got ctZ
  (ctBack qa qf qb qc qd qe qh ql sp pc ad va ki ba AB Bx nb cb oqa oqf oqb oqc oqd oqe oqh
    oql osp opc oad ova oki oba AC Cx nc cc) =>
 (.chk (x.1.1 = x.1.1)
 (.leaf ⟨x.1.1⟩))))))))))))))))))))))))))))))))))))))))
 (.chk (sym.textAt Go.Proofs.Try.prog (5 : Go.FuncId) (20031 : Nat) = sym.textAt Go.Proofs.Try.prog (5 : Go.FuncId) (20031 : Nat))
 (.chk (ln = ln ∧ (2 : Nat) = (2 : Nat) ∧ (0 : Nat) = (0 : Nat) ∧ m = m ∧ cap = cap)
 (.chk (IntKind.i64 = IntKind.i64 ∧ vx = vx)
 (.chk (IntKind.i64 = IntKind.i64 ∧ vf = vf)
 (.chk (IntKind.u8 = IntKind.u8 ∧ qa = qa)
 (.chk (IntKind.u8 = IntKind.u8 ∧ qf = qf)
 (.chk (IntKind.u8 = IntKind.u8 ∧ qb = qb)
 (.chk (IntKind.u8 = IntKind.u8 ∧ qc = qc)
 (.chk (IntKind.u8 = IntKind.u8 ∧ qd = qd)
 (.chk (IntKind.u8 = IntKind.u8 ∧ qe = qe)
 (.chk (IntKind.u8 = IntKind.u8 ∧ qh = qh)
 (.chk (IntKind.u8 = IntKind.u8 ∧ ql = ql)
 (.chk (IntKind.u16 = IntKind.u16 ∧ sp = sp)
 (.chk (IntKind.u16 = IntKind.u16 ∧ pc = pc)
 (.chk (IntKind.i64 = IntKind.i64 ∧ ad = ad)
 (.chk (IntKind.i64 = IntKind.i64 ∧ va = va)
 (.chk (IntKind.i64 = IntKind.i64 ∧ ki = ki)
 (.chk (IntKind.i64 = IntKind.i64 ∧ ba = ba)
 (.chk (AB = AB ∧ [IntKind.u8] = [IntKind.u8] ∧ Bx = Bx ∧ nb = nb ∧ cb = cb)
 (.chk (ln = ln ∧ [IntKind.i64, IntKind.i64] = [IntKind.i64, IntKind.i64] ∧ L = L ∧ cap = cap)
 (.chk (an = an ∧ (1 : Nat) = (1 : Nat) ∧ (0 : Nat) = (0 : Nat) ∧ ak = ak ∧ ac = ac)
 (.chk (an = an ∧ [IntKind.u16] = [IntKind.u16] ∧ Q = Q ∧ ac = ac)
 (.chk (IntKind.u8 = IntKind.u8 ∧ qa = qa)
 (.chk (IntKind.u8 = IntKind.u8 ∧ qf = qf)
 (.chk (IntKind.u8 = IntKind.u8 ∧ qb = qb)
 (.chk (IntKind.u8 = IntKind.u8 ∧ qc = qc)
 (.chk (IntKind.u8 = IntKind.u8 ∧ qd = qd)
 (.chk (IntKind.u8 = IntKind.u8 ∧ qe = qe)
 (.chk (IntKind.u8 = IntKind.u8 ∧ qh = qh)
 (.chk (IntKind.u8 = IntKind.u8 ∧ ql = ql)
 (.chk (IntKind.u16 = IntKind.u16 ∧ sp = sp)
 (.chk (IntKind.u16 = IntKind.u16 ∧ pc = pc)
 (.chk (IntKind.i64 = IntKind.i64 ∧ oad = oad)
 (.chk (IntKind.i64 = IntKind.i64 ∧ va = va)
 (.chk (IntKind.i64 = IntKind.i64 ∧ ki = ki)
 (.chk (IntKind.i64 = IntKind.i64 ∧ ba = ba)
 (.chk (ctInv qa qf qb qc qd qe qh ql sp pc ad va ki ba AB Bx nb cb oqa oqf oqb oqc oqd oqe oqh oql
  osp opc oad ova oki oba AC Cx nc cc
  { ln := ln, L := L, m := m, cap := cap, vx := vx, vf := vf, Q := Q, ak := ak, an := an, ac := ac, wad := oad,
    wva := va, wsp := sp, wqb := qb })
 (.all fun x : sym.Got ctZ
  (ctBack qa qf qb qc qd qe qh ql sp pc ad va ki ba AB Bx nb cb oqa oqf oqb oqc oqd oqe oqh
    oql osp opc oad ova oki oba AC Cx nc cc) =>
 (.chk (x.1.1 = x.1.1)
 (.leaf ⟨x.1.1⟩)))))))))))))))))))))))))))))))))))))))))
 (.chk (sym.textAt Go.Proofs.Try.prog (5 : Go.FuncId) (20031 : Nat) = sym.textAt Go.Proofs.Try.prog (5 : Go.FuncId) (20031 : Nat))
 (.chk (ln = ln ∧ (2 : Nat) = (2 : Nat) ∧ (0 : Nat) = (0 : Nat) ∧ m = m ∧ cap = cap)
 (.chk (IntKind.i64 = IntKind.i64 ∧ vx = vx)
 (.chk (IntKind.i64 = IntKind.i64 ∧ vf = vf)
 (.chk (IntKind.u8 = IntKind.u8 ∧ qa = qa)
 (.chk (IntKind.u8 = IntKind.u8 ∧ qf = qf)
 (.chk (IntKind.u8 = IntKind.u8 ∧ qb = qb)
 (.chk (IntKind.u8 = IntKind.u8 ∧ qc = qc)
 (.chk (IntKind.u8 = IntKind.u8 ∧ qd = qd)
 (.chk (IntKind.u8 = IntKind.u8 ∧ qe = qe)
 (.chk (IntKind.u8 = IntKind.u8 ∧ qh = qh)
 (.chk (IntKind.u8 = IntKind.u8 ∧ ql = ql)
 (.chk (IntKind.u16 = IntKind.u16 ∧ sp = sp)
 (.chk (IntKind.u16 = IntKind.u16 ∧ pc = pc)
 (.chk (IntKind.i64 = IntKind.i64 ∧ ad = ad)
 (.chk (IntKind.i64 = IntKind.i64 ∧ va = va)
 (.chk (IntKind.i64 = IntKind.i64 ∧ ki = ki)
 (.chk (IntKind.i64 = IntKind.i64 ∧ ba = ba)
 (.chk (AB = AB ∧ [IntKind.u8] = [IntKind.u8] ∧ Bx = Bx ∧ nb = nb ∧ cb = cb)
 (.chk (ln = ln ∧ [IntKind.i64, IntKind.i64] = [IntKind.i64, IntKind.i64] ∧ L = L ∧ cap = cap)
 (.chk (an = an ∧ (1 : Nat) = (1 : Nat) ∧ (0 : Nat) = (0 : Nat) ∧ ak = ak ∧ ac = ac)
 (.chk (an = an ∧ [IntKind.u16] = [IntKind.u16] ∧ Q = Q ∧ ac = ac)
 (.chk (IntKind.u8 = IntKind.u8 ∧ qa = qa)
 (.chk (IntKind.u8 = IntKind.u8 ∧ qf = qf)
 (.chk (IntKind.u8 = IntKind.u8 ∧ qb = qb)
 (.chk (IntKind.u8 = IntKind.u8 ∧ qc = qc)
 (.chk (IntKind.u8 = IntKind.u8 ∧ qd = qd)
 (.chk (IntKind.u8 = IntKind.u8 ∧ qe = qe)
 (.chk (IntKind.u8 = IntKind.u8 ∧ qh = qh)
 (.chk (IntKind.u8 = IntKind.u8 ∧ ql = ql)
 (.chk (IntKind.u16 = IntKind.u16 ∧ sp = sp)
 (.chk (IntKind.u16 = IntKind.u16 ∧ pc = pc)
 (.chk (IntKind.i64 = IntKind.i64 ∧ oad = oad)
 (.chk (IntKind.i64 = IntKind.i64 ∧ va = va)
 (.chk (IntKind.i64 = IntKind.i64 ∧ ki = ki)
 (.chk (IntKind.i64 = IntKind.i64 ∧ ba = ba)
 (.chk (ctInv qa qf qb qc qd qe qh ql sp pc ad va ki ba AB Bx nb cb oqa oqf oqb oqc oqd oqe oqh oql
  osp opc oad ova oki oba AC Cx nc cc
  { ln := ln, L := L, m := m, cap := cap, vx := vx, vf := vf, Q := Q, ak := ak, an := an, ac := ac, wad := oad,
    wva := va, wsp := sp, wqb := qb })
 (.all fun x : sym.Got ctZ
  (ctBack qa qf qb qc qd qe qh ql sp pc ad va ki ba AB Bx nb cb oqa oqf oqb oqc oqd oqe oqh
    oql osp opc oad ova oki oba AC Cx nc cc) =>
 (.chk (x.1.1 = x.1.1)
 (.leaf ⟨x.1.1⟩)))))))))))))))))))))))))))))))))))))))))))
 (.br (!b15)
 (.br (!b12)
 (.br (!b2)
 (.br (!b9)
 (.chk (sym.textAt Go.Proofs.Try.prog (5 : Go.FuncId) (20031 : Nat) = sym.textAt Go.Proofs.Try.prog (5 : Go.FuncId) (20031 : Nat))
 (.chk (ln = ln ∧ (2 : Nat) = (2 : Nat) ∧ (0 : Nat) = (0 : Nat) ∧ m = m ∧ cap = cap)
 (.chk (IntKind.i64 = IntKind.i64 ∧ vx = vx)
 (.chk (IntKind.i64 = IntKind.i64 ∧ vf = vf)
 (.chk (IntKind.u8 = IntKind.u8 ∧ qa = qa)
 (.chk (IntKind.u8 = IntKind.u8 ∧ qf = qf)
 (.chk (IntKind.u8 = IntKind.u8 ∧ qb = qb)
 (.chk (IntKind.u8 = IntKind.u8 ∧ qc = qc)
 (.chk (IntKind.u8 = IntKind.u8 ∧ qd = qd)
 (.chk (IntKind.u8 = IntKind.u8 ∧ qe = qe)
 (.chk (IntKind.u8 = IntKind.u8 ∧ qh = qh)
 (.chk (IntKind.u8 = IntKind.u8 ∧ ql = ql)
 (.chk (IntKind.u16 = IntKind.u16 ∧ sp = sp)
 (.chk (IntKind.u16 = IntKind.u16 ∧ pc = pc)
 (.chk (IntKind.i64 = IntKind.i64 ∧ ad = ad)
 (.chk (IntKind.i64 = IntKind.i64 ∧ va = va)
 (.chk (IntKind.i64 = IntKind.i64 ∧ ki = ki)
 (.chk (IntKind.i64 = IntKind.i64 ∧ ba = ba)
 (.chk (AB = AB ∧ [IntKind.u8] = [IntKind.u8] ∧ Bx = Bx ∧ nb = nb ∧ cb = cb)
 (.chk (ln = ln ∧ [IntKind.i64, IntKind.i64] = [IntKind.i64, IntKind.i64] ∧ L = L ∧ cap = cap)
 (.chk (an = an ∧ (1 : Nat) = (1 : Nat) ∧ (0 : Nat) = (0 : Nat) ∧ ak = ak ∧ ac = ac)
 (.chk (an = an ∧ [IntKind.u16] = [IntKind.u16] ∧ Q = Q ∧ ac = ac)
 (.chk (IntKind.u8 = IntKind.u8 ∧ qa = qa)
 (.chk (IntKind.u8 = IntKind.u8 ∧ qf = qf)
 (.chk (IntKind.u8 = IntKind.u8 ∧ oqb = oqb)
 (.chk (IntKind.u8 = IntKind.u8 ∧ qc = qc)
 (.chk (IntKind.u8 = IntKind.u8 ∧ qd = qd)
 (.chk (IntKind.u8 = IntKind.u8 ∧ qe = qe)
 (.chk (IntKind.u8 = IntKind.u8 ∧ qh = qh)
 (.chk (IntKind.u8 = IntKind.u8 ∧ ql = ql)
 (.chk (IntKind.u16 = IntKind.u16 ∧ osp = osp)
 (.chk (IntKind.u16 = IntKind.u16 ∧ pc = pc)
 (.chk (IntKind.i64 = IntKind.i64 ∧ ad = ad)
 (.chk (IntKind.i64 = IntKind.i64 ∧ ova = ova)
 (.chk (IntKind.i64 = IntKind.i64 ∧ ki = ki)
 (.chk (IntKind.i64 = IntKind.i64 ∧ ba = ba)
 (.chk (ctInv qa qf qb qc qd qe qh ql sp pc ad va ki ba AB Bx nb cb oqa oqf oqb oqc oqd oqe oqh oql
  osp opc oad ova oki oba AC Cx nc cc
  { ln := ln, L := L, m := m, cap := cap, vx := vx, vf := vf, Q := Q, ak := ak, an := an, ac := ac, wad := ad,
    wva := ova, wsp := osp, wqb := oqb })
 (.all fun x : sym.Got ctZ
  (ctBack qa qf qb qc qd qe qh ql sp pc ad va ki ba AB Bx nb cb oqa oqf oqb oqc oqd oqe oqh
    oql osp opc oad ova oki oba AC Cx nc cc) =>
 (.chk (x.1.1 = x.1.1)
 (.leaf ⟨x.1.1⟩))))))))))))))))))))))))))))))))))))))))
 (.chk (sym.textAt Go.Proofs.Try.prog (5 : Go.FuncId) (20031 : Nat) = sym.textAt Go.Proofs.Try.prog (5 : Go.FuncId) (20031 : Nat))
 (.chk (ln = ln ∧ (2 : Nat) = (2 : Nat) ∧ (0 : Nat) = (0 : Nat) ∧ m = m ∧ cap = cap)
 (.chk (IntKind.i64 = IntKind.i64 ∧ vx = vx)
 (.chk (IntKind.i64 = IntKind.i64 ∧ vf = vf)
 (.chk (IntKind.u8 = IntKind.u8 ∧ qa = qa)
 (.chk (IntKind.u8 = IntKind.u8 ∧ qf = qf)
 (.chk (IntKind.u8 = IntKind.u8 ∧ qb = qb)
 (.chk (IntKind.u8 = IntKind.u8 ∧ qc = qc)
 (.chk (IntKind.u8 = IntKind.u8 ∧ qd = qd)
 (.chk (IntKind.u8 = IntKind.u8 ∧ qe = qe)
 (.chk (IntKind.u8 = IntKind.u8 ∧ qh = qh)
 (.chk (IntKind.u8 = IntKind.u8 ∧ ql = ql)
 (.chk (IntKind.u16 = IntKind.u16 ∧ sp = sp)
 (.chk (IntKind.u16 = IntKind.u16 ∧ pc = pc)
 (.chk (IntKind.i64 = IntKind.i64 ∧ ad = ad)
 (.chk (IntKind.i64 = IntKind.i64 ∧ va = va)
 (.chk (IntKind.i64 = IntKind.i64 ∧ ki = ki)
 (.chk (IntKind.i64 = IntKind.i64 ∧ ba = ba)
 (.chk (AB = AB ∧ [IntKind.u8] = [IntKind.u8] ∧ Bx = Bx ∧ nb = nb ∧ cb = cb)
 (.chk (ln = ln ∧ [IntKind.i64, IntKind.i64] = [IntKind.i64, IntKind.i64] ∧ L = L ∧ cap = cap)
 (.chk (an = an ∧ (1 : Nat) = (1 : Nat) ∧ (0 : Nat) = (0 : Nat) ∧ ak = ak ∧ ac = ac)
 (.chk (an = an ∧ [IntKind.u16] = [IntKind.u16] ∧ Q = Q ∧ ac = ac)
 (.chk (IntKind.u8 = IntKind.u8 ∧ qa = qa)
 (.chk (IntKind.u8 = IntKind.u8 ∧ qf = qf)
 (.chk (IntKind.u8 = IntKind.u8 ∧ qb = qb)
 (.chk (IntKind.u8 = IntKind.u8 ∧ qc = qc)
 (.chk (IntKind.u8 = IntKind.u8 ∧ qd = qd)
 (.chk (IntKind.u8 = IntKind.u8 ∧ qe = qe)
 (.chk (IntKind.u8 = IntKind.u8 ∧ qh = qh)
 (.chk (IntKind.u8 = IntKind.u8 ∧ ql = ql)
 (.chk (IntKind.u16 = IntKind.u16 ∧ osp = osp)
 (.chk (IntKind.u16 = IntKind.u16 ∧ pc = pc)
 (.chk (IntKind.i64 = IntKind.i64 ∧ ad = ad)
 (.chk (IntKind.i64 = IntKind.i64 ∧ ova = ova)
 (.chk (IntKind.i64 = IntKind.i64 ∧ ki = ki)
 (.chk (IntKind.i64 = IntKind.i64 ∧ ba = ba)
 (.chk (ctInv qa qf qb qc qd qe qh ql sp pc ad va ki ba AB Bx nb cb oqa oqf oqb oqc oqd oqe oqh oql
  osp opc oad ova oki oba AC Cx nc cc
  { ln := ln, L := L, m := m, cap := cap, vx := vx, vf := vf, Q := Q, ak := ak, an := an, ac := ac, wad := ad,
    wva := ova, wsp := osp, wqb := qb })
 (.all fun x : sym.Got ctZ
  (ctBack qa qf qb qc qd qe qh ql sp pc ad va ki ba AB Bx nb cb oqa oqf oqb oqc oqd oqe oqh
    oql osp opc oad ova oki oba AC Cx nc cc) =>
 (.chk (x.1.1 = x.1.1)
 (.leaf ⟨x.1.1⟩)))))))))))))))))))))))))))))))))))))))))
 (.chk (sym.textAt Go.Proofs.Try.prog (5 : Go.FuncId) (20031 : Nat) = sym.textAt Go.Proofs.Try.prog (5 : Go.FuncId) (20031 : Nat))
 (.chk (ln = ln ∧ (2 : Nat) = (2 : Nat) ∧ (0 : Nat) = (0 : Nat) ∧ m = m ∧ cap = cap)
 (.chk (IntKind.i64 = IntKind.i64 ∧ vx = vx)
 (.chk (IntKind.i64 = IntKind.i64 ∧ vf = vf)
 (.chk (IntKind.u8 = IntKind.u8 ∧ qa = qa)
 (.chk (IntKind.u8 = IntKind.u8 ∧ qf = qf)
 (.chk (IntKind.u8 = IntKind.u8 ∧ qb = qb)
 (.chk (IntKind.u8 = IntKind.u8 ∧ qc = qc)
 (.chk (IntKind.u8 = IntKind.u8 ∧ qd = qd)
 (.chk (IntKind.u8 = IntKind.u8 ∧ qe = qe)
 (.chk (IntKind.u8 = IntKind.u8 ∧ qh = qh)
 (.chk (IntKind.u8 = IntKind.u8 ∧ ql = ql)
 (.chk (IntKind.u16 = IntKind.u16 ∧ sp = sp)
 (.chk (IntKind.u16 = IntKind.u16 ∧ pc = pc)
 (.chk (IntKind.i64 = IntKind.i64 ∧ ad = ad)
 (.chk (IntKind.i64 = IntKind.i64 ∧ va = va)
 (.chk (IntKind.i64 = IntKind.i64 ∧ ki = ki)
 (.chk (IntKind.i64 = IntKind.i64 ∧ ba = ba)
 (.chk (AB = AB ∧ [IntKind.u8] = [IntKind.u8] ∧ Bx = Bx ∧ nb = nb ∧ cb = cb)
 (.chk (ln = ln ∧ [IntKind.i64, IntKind.i64] = [IntKind.i64, IntKind.i64] ∧ L = L ∧ cap = cap)
 (.chk (an = an ∧ (1 : Nat) = (1 : Nat) ∧ (0 : Nat) = (0 : Nat) ∧ ak = ak ∧ ac = ac)
 (.chk (an = an ∧ [IntKind.u16] = [IntKind.u16] ∧ Q = Q ∧ ac = ac)
 (.chk (IntKind.u8 = IntKind.u8 ∧ qa = qa)
 (.chk (IntKind.u8 = IntKind.u8 ∧ qf = qf)
 (.chk (IntKind.u8 = IntKind.u8 ∧ qb = qb)
 (.chk (IntKind.u8 = IntKind.u8 ∧ qc = qc)
 (.chk (IntKind.u8 = IntKind.u8 ∧ qd = qd)
 (.chk (IntKind.u8 = IntKind.u8 ∧ qe = qe)
 (.chk (IntKind.u8 = IntKind.u8 ∧ qh = qh)
 (.chk (IntKind.u8 = IntKind.u8 ∧ ql = ql)
 (.chk (IntKind.u16 = IntKind.u16 ∧ osp = osp)
 (.chk (IntKind.u16 = IntKind.u16 ∧ pc = pc)
 (.chk (IntKind.i64 = IntKind.i64 ∧ ad = ad)
 (.chk (IntKind.i64 = IntKind.i64 ∧ ova = ova)
 (.chk (IntKind.i64 = IntKind.i64 ∧ ki = ki)
 (.chk (IntKind.i64 = IntKind.i64 ∧ ba = ba)
 (.chk (ctInv qa qf qb qc qd qe qh ql sp pc ad va ki ba AB Bx nb cb oqa oqf oqb oqc oqd oqe oqh oql
  osp opc oad ova oki oba AC Cx nc cc
  { ln := ln, L := L, m := m, cap := cap, vx := vx, vf := vf, Q := Q, ak := ak, an := an, ac := ac, wad := ad,
    wva := ova, wsp := osp, wqb := qb })
 (.all fun x : sym.Got ctZ
  (ctBack qa qf qb qc qd qe qh ql sp pc ad va ki ba AB Bx nb cb oqa oqf oqb oqc oqd oqe oqh
    oql osp opc oad ova oki oba AC Cx nc cc) =>
 (.chk (x.1.1 = x.1.1)
 (.leaf ⟨x.1.1⟩)))))))))))))))))))))))))))))))))))))))))
 (.br (!b2)
 (.br (!b9)
 (.chk (sym.textAt Go.Proofs.Try.prog (5 : Go.FuncId) (20031 : Nat) = sym.textAt Go.Proofs.Try.prog (5 : Go.FuncId) (20031 : Nat))
 (.chk (ln = ln ∧ (2 : Nat) = (2 : Nat) ∧ (0 : Nat) = (0 : Nat) ∧ m = m ∧ cap = cap)
 (.chk (IntKind.i64 = IntKind.i64 ∧ vx = vx)
 (.chk (IntKind.i64 = IntKind.i64 ∧ vf = vf)
 (.chk (IntKind.u8 = IntKind.u8 ∧ qa = qa)
 (.chk (IntKind.u8 = IntKind.u8 ∧ qf = qf)
 (.chk (IntKind.u8 = IntKind.u8 ∧ qb = qb)
 (.chk (IntKind.u8 = IntKind.u8 ∧ qc = qc)
 (.chk (IntKind.u8 = IntKind.u8 ∧ qd = qd)
 (.chk (IntKind.u8 = IntKind.u8 ∧ qe = qe)
 (.chk (IntKind.u8 = IntKind.u8 ∧ qh = qh)
 (.chk (IntKind.u8 = IntKind.u8 ∧ ql = ql)
 (.chk (IntKind.u16 = IntKind.u16 ∧ sp = sp)
 (.chk (IntKind.u16 = IntKind.u16 ∧ pc = pc)
 (.chk (IntKind.i64 = IntKind.i64 ∧ ad = ad)
 (.chk (IntKind.i64 = IntKind.i64 ∧ va = va)
 (.chk (IntKind.i64 = IntKind.i64 ∧ ki = ki)
 (.chk (IntKind.i64 = IntKind.i64 ∧ ba = ba)
 (.chk (AB = AB ∧ [IntKind.u8] = [IntKind.u8] ∧ Bx = Bx ∧ nb = nb ∧ cb = cb)
 (.chk (ln = ln ∧ [IntKind.i64, IntKind.i64] = [IntKind.i64, IntKind.i64] ∧ L = L ∧ cap = cap)
 (.chk (an = an ∧ (1 : Nat) = (1 : Nat) ∧ (0 : Nat) = (0 : Nat) ∧ ak = ak ∧ ac = ac)
 (.chk (an = an ∧ [IntKind.u16] = [IntKind.u16] ∧ Q = Q ∧ ac = ac)
 (.chk (IntKind.u8 = IntKind.u8 ∧ qa = qa)
 (.chk (IntKind.u8 = IntKind.u8 ∧ qf = qf)
 (.chk (IntKind.u8 = IntKind.u8 ∧ oqb = oqb)
 (.chk (IntKind.u8 = IntKind.u8 ∧ qc = qc)
 (.chk (IntKind.u8 = IntKind.u8 ∧ qd = qd)
 (.chk (IntKind.u8 = IntKind.u8 ∧ qe = qe)
 (.chk (IntKind.u8 = IntKind.u8 ∧ qh = qh)
 (.chk (IntKind.u8 = IntKind.u8 ∧ ql = ql)
 (.chk (IntKind.u16 = IntKind.u16 ∧ sp = sp)
 (.chk (IntKind.u16 = IntKind.u16 ∧ pc = pc)
 (.chk (IntKind.i64 = IntKind.i64 ∧ ad = ad)
 (.chk (IntKind.i64 = IntKind.i64 ∧ ova = ova)
 (.chk (IntKind.i64 = IntKind.i64 ∧ ki = ki)
 (.chk (IntKind.i64 = IntKind.i64 ∧ ba = ba)
 (.chk (ctInv qa qf qb qc qd qe qh ql sp pc ad va ki ba AB Bx nb cb oqa oqf oqb oqc oqd oqe oqh oql
  osp opc oad ova oki oba AC Cx nc cc
  { ln := ln, L := L, m := m, cap := cap, vx := vx, vf := vf, Q := Q, ak := ak, an := an, ac := ac, wad := ad,
    wva := ova, wsp := sp, wqb := oqb })
 (.all fun x : sym.Got ctZ
  (ctBack qa qf qb qc qd qe qh ql sp pc ad va ki ba AB Bx nb cb oqa oqf oqb oqc oqd oqe oqh
    oql osp opc oad ova oki oba AC Cx nc cc) =>
 (.chk (x.1.1 = x.1.1)
 (.leaf ⟨x.1.1⟩))))))))))))))))))))))))))))))))))))))))
 (.chk (sym.textAt Go.Proofs.Try.prog (5 : Go.FuncId) (20031 : Nat) = sym.textAt Go.Proofs.Try.prog (5 : Go.FuncId) (20031 : Nat))
 (.chk (ln = ln ∧ (2 : Nat) = (2 : Nat) ∧ (0 : Nat) = (0 : Nat) ∧ m = m ∧ cap = cap)
 (.chk (IntKind.i64 = IntKind.i64 ∧ vx = vx)
 (.chk (IntKind.i64 = IntKind.i64 ∧ vf = vf)
 (.chk (IntKind.u8 = IntKind.u8 ∧ qa = qa)
 (.chk (IntKind.u8 = IntKind.u8 ∧ qf = qf)
 (.chk (IntKind.u8 = IntKind.u8 ∧ qb = qb)
 (.chk (IntKind.u8 = IntKind.u8 ∧ qc = qc)
 (.chk (IntKind.u8 = IntKind.u8 ∧ qd = qd)
 (.chk (IntKind.u8 = IntKind.u8 ∧ qe = qe)
 (.chk (IntKind.u8 = IntKind.u8 ∧ qh = qh)
 (.chk (IntKind.u8 = IntKind.u8 ∧ ql = ql)
 (.chk (IntKind.u16 = IntKind.u16 ∧ sp = sp)
 (.chk (IntKind.u16 = IntKind.u16 ∧ pc = pc)
 (.chk (IntKind.i64 = IntKind.i64 ∧ ad = ad)
 (.chk (IntKind.i64 = IntKind.i64 ∧ va = va)
 (.chk (IntKind.i64 = IntKind.i64 ∧ ki = ki)
 (.chk (IntKind.i64 = IntKind.i64 ∧ ba = ba)
 (.chk (AB = AB ∧ [IntKind.u8] = [IntKind.u8] ∧ Bx = Bx ∧ nb = nb ∧ cb = cb)
 (.chk (ln = ln ∧ [IntKind.i64, IntKind.i64] = [IntKind.i64, IntKind.i64] ∧ L = L ∧ cap = cap)
 (.chk (an = an ∧ (1 : Nat) = (1 : Nat) ∧ (0 : Nat) = (0 : Nat) ∧ ak = ak ∧ ac = ac)
 (.chk (an = an ∧ [IntKind.u16] = [IntKind.u16] ∧ Q = Q ∧ ac = ac)
 (.chk (IntKind.u8 = IntKind.u8 ∧ qa = qa)
 (.chk (IntKind.u8 = IntKind.u8 ∧ qf = qf)
 (.chk (IntKind.u8 = IntKind.u8 ∧ qb = qb)
 (.chk (IntKind.u8 = IntKind.u8 ∧ qc = qc)
 (.chk (IntKind.u8 = IntKind.u8 ∧ qd = qd)
 (.chk (IntKind.u8 = IntKind.u8 ∧ qe = qe)
 (.chk (IntKind.u8 = IntKind.u8 ∧ qh = qh)
 (.chk (IntKind.u8 = IntKind.u8 ∧ ql = ql)
 (.chk (IntKind.u16 = IntKind.u16 ∧ sp = sp)
 (.chk (IntKind.u16 = IntKind.u16 ∧ pc = pc)
 (.chk (IntKind.i64 = IntKind.i64 ∧ ad = ad)
 (.chk (IntKind.i64 = IntKind.i64 ∧ ova = ova)
 (.chk (IntKind.i64 = IntKind.i64 ∧ ki = ki)
 (.chk (IntKind.i64 = IntKind.i64 ∧ ba = ba)
 (.chk (ctInv qa qf qb qc qd qe qh ql sp pc ad va ki ba AB Bx nb cb oqa oqf oqb oqc oqd oqe oqh oql
  osp opc oad ova oki oba AC Cx nc cc
  { ln := ln, L := L, m := m, cap := cap, vx := vx, vf := vf, Q := Q, ak := ak, an := an, ac := ac, wad := ad,
    wva := ova, wsp := sp, wqb := qb })
 (.all fun x : sym.Got ctZ
  (ctBack qa qf qb qc qd qe qh ql sp pc ad va ki ba AB Bx nb cb oqa oqf oqb oqc oqd oqe oqh
    oql osp opc oad ova oki oba AC Cx nc cc) =>
 (.chk (x.1.1 = x.1.1)
 (.leaf ⟨x.1.1⟩)))))))))))))))))))))))))))))))))))))))))
 (.chk (sym.textAt Go.Proofs.Try.prog (5 : Go.FuncId) (20031 : Nat) = sym.textAt Go.Proofs.Try.prog (5 : Go.FuncId) (20031 : Nat))
 (.chk (ln = ln ∧ (2 : Nat) = (2 : Nat) ∧ (0 : Nat) = (0 : Nat) ∧ m = m ∧ cap = cap)
 (.chk (IntKind.i64 = IntKind.i64 ∧ vx = vx)
 (.chk (IntKind.i64 = IntKind.i64 ∧ vf = vf)
 (.chk (IntKind.u8 = IntKind.u8 ∧ qa = qa)
 (.chk (IntKind.u8 = IntKind.u8 ∧ qf = qf)
 (.chk (IntKind.u8 = IntKind.u8 ∧ qb = qb)
 (.chk (IntKind.u8 = IntKind.u8 ∧ qc = qc)
 (.chk (IntKind.u8 = IntKind.u8 ∧ qd = qd)
 (.chk (IntKind.u8 = IntKind.u8 ∧ qe = qe)
 (.chk (IntKind.u8 = IntKind.u8 ∧ qh = qh)
 (.chk (IntKind.u8 = IntKind.u8 ∧ ql = ql)
 (.chk (IntKind.u16 = IntKind.u16 ∧ sp = sp)
 (.chk (IntKind.u16 = IntKind.u16 ∧ pc = pc)
 (.chk (IntKind.i64 = IntKind.i64 ∧ ad = ad)
 (.chk (IntKind.i64 = IntKind.i64 ∧ va = va)
 (.chk (IntKind.i64 = IntKind.i64 ∧ ki = ki)
 (.chk (IntKind.i64 = IntKind.i64 ∧ ba = ba)
 (.chk (AB = AB ∧ [IntKind.u8] = [IntKind.u8] ∧ Bx = Bx ∧ nb = nb ∧ cb = cb)
 (.chk (ln = ln ∧ [IntKind.i64, IntKind.i64] = [IntKind.i64, IntKind.i64] ∧ L = L ∧ cap = cap)
 (.chk (an = an ∧ (1 : Nat) = (1 : Nat) ∧ (0 : Nat) = (0 : Nat) ∧ ak = ak ∧ ac = ac)
 (.chk (an = an ∧ [IntKind.u16] = [IntKind.u16] ∧ Q = Q ∧ ac = ac)
 (.chk (IntKind.u8 = IntKind.u8 ∧ qa = qa)
 (.chk (IntKind.u8 = IntKind.u8 ∧ qf = qf)
 (.chk (IntKind.u8 = IntKind.u8 ∧ qb = qb)
 (.chk (IntKind.u8 = IntKind.u8 ∧ qc = qc)
 (.chk (IntKind.u8 = IntKind.u8 ∧ qd = qd)
 (.chk (IntKind.u8 = IntKind.u8 ∧ qe = qe)
 (.chk (IntKind.u8 = IntKind.u8 ∧ qh = qh)
 (.chk (IntKind.u8 = IntKind.u8 ∧ ql = ql)
 (.chk (IntKind.u16 = IntKind.u16 ∧ sp = sp)
 (.chk (IntKind.u16 = IntKind.u16 ∧ pc = pc)
 (.chk (IntKind.i64 = IntKind.i64 ∧ ad = ad)
 (.chk (IntKind.i64 = IntKind.i64 ∧ ova = ova)
 (.chk (IntKind.i64 = IntKind.i64 ∧ ki = ki)
 (.chk (IntKind.i64 = IntKind.i64 ∧ ba = ba)
 (.chk (ctInv qa qf qb qc qd qe qh ql sp pc ad va ki ba AB Bx nb cb oqa oqf oqb oqc oqd oqe oqh oql
  osp opc oad ova oki oba AC Cx nc cc
  { ln := ln, L := L, m := m, cap := cap, vx := vx, vf := vf, Q := Q, ak := ak, an := an, ac := ac, wad := ad,
    wva := ova, wsp := sp, wqb := qb })
 (.all fun x : sym.Got ctZ
  (ctBack qa qf qb qc qd qe qh ql sp pc ad va ki ba AB Bx nb cb oqa oqf oqb oqc oqd oqe oqh
    oql osp opc oad ova oki oba AC Cx nc cc) =>
 (.chk (x.1.1 = x.1.1)
 (.leaf ⟨x.1.1⟩))))))))))))))))))))))))))))))))))))))))))
 (.br (!b12)
 (.br (!b2)
 (.br (!b9)
 (.chk (sym.textAt Go.Proofs.Try.prog (5 : Go.FuncId) (20031 : Nat) = sym.textAt Go.Proofs.Try.prog (5 : Go.FuncId) (20031 : Nat))
 (.chk (ln = ln ∧ (2 : Nat) = (2 : Nat) ∧ (0 : Nat) = (0 : Nat) ∧ m = m ∧ cap = cap)
 (.chk (IntKind.i64 = IntKind.i64 ∧ vx = vx)
 (.chk (IntKind.i64 = IntKind.i64 ∧ vf = vf)
 (.chk (IntKind.u8 = IntKind.u8 ∧ qa = qa)
 (.chk (IntKind.u8 = IntKind.u8 ∧ qf = qf)
 (.chk (IntKind.u8 = IntKind.u8 ∧ qb = qb)
 (.chk (IntKind.u8 = IntKind.u8 ∧ qc = qc)
 (.chk (IntKind.u8 = IntKind.u8 ∧ qd = qd)
 (.chk (IntKind.u8 = IntKind.u8 ∧ qe = qe)
 (.chk (IntKind.u8 = IntKind.u8 ∧ qh = qh)
 (.chk (IntKind.u8 = IntKind.u8 ∧ ql = ql)
 (.chk (IntKind.u16 = IntKind.u16 ∧ sp = sp)
 (.chk (IntKind.u16 = IntKind.u16 ∧ pc = pc)
 (.chk (IntKind.i64 = IntKind.i64 ∧ ad = ad)
 (.chk (IntKind.i64 = IntKind.i64 ∧ va = va)
 (.chk (IntKind.i64 = IntKind.i64 ∧ ki = ki)
 (.chk (IntKind.i64 = IntKind.i64 ∧ ba = ba)
 (.chk (AB = AB ∧ [IntKind.u8] = [IntKind.u8] ∧ Bx = Bx ∧ nb = nb ∧ cb = cb)
 (.chk (ln = ln ∧ [IntKind.i64, IntKind.i64] = [IntKind.i64, IntKind.i64] ∧ L = L ∧ cap = cap)
 (.chk (an = an ∧ (1 : Nat) = (1 : Nat) ∧ (0 : Nat) = (0 : Nat) ∧ ak = ak ∧ ac = ac)
 (.chk (an = an ∧ [IntKind.u16] = [IntKind.u16] ∧ Q = Q ∧ ac = ac)
 (.chk (IntKind.u8 = IntKind.u8 ∧ qa = qa)
 (.chk (IntKind.u8 = IntKind.u8 ∧ qf = qf)
 (.chk (IntKind.u8 = IntKind.u8 ∧ oqb = oqb)
 (.chk (IntKind.u8 = IntKind.u8 ∧ qc = qc)
 (.chk (IntKind.u8 = IntKind.u8 ∧ qd = qd)
 (.chk (IntKind.u8 = IntKind.u8 ∧ qe = qe)
 (.chk (IntKind.u8 = IntKind.u8 ∧ qh = qh)
 (.chk (IntKind.u8 = IntKind.u8 ∧ ql = ql)
 (.chk (IntKind.u16 = IntKind.u16 ∧ osp = osp)
 (.chk (IntKind.u16 = IntKind.u16 ∧ pc = pc)
 (.chk (IntKind.i64 = IntKind.i64 ∧ ad = ad)
 (.chk (IntKind.i64 = IntKind.i64 ∧ va = va)
 (.chk (IntKind.i64 = IntKind.i64 ∧ ki = ki)
 (.chk (IntKind.i64 = IntKind.i64 ∧ ba = ba)
 (.chk (ctInv qa qf qb qc qd qe qh ql sp pc ad va ki ba AB Bx nb cb oqa oqf oqb oqc oqd oqe oqh oql
  osp opc oad ova oki oba AC Cx nc cc
  { ln := ln, L := L, m := m, cap := cap, vx := vx, vf := vf, Q := Q, ak := ak, an := an, ac := ac, wad := ad,
    wva := va, wsp := osp, wqb := oqb })
 (.all fun x : sym.Got ctZ
  (ctBack qa qf qb qc qd qe qh ql sp pc ad va ki ba AB Bx nb cb oqa oqf oqb oqc oqd oqe oqh
    oql osp opc oad ova oki oba AC Cx nc cc) =>
 (.chk (x.1.1 = x.1.1)
 (.leaf ⟨x.1.1⟩))))))))))))))))))))))))))))))))))))))))
 (.chk (sym.textAt Go.Proofs.Try.prog (5 : Go.FuncId) (20031 : Nat) = sym.textAt Go.Proofs.Try.prog (5 : Go.FuncId) (20031 : Nat))
 (.chk (ln = ln ∧ (2 : Nat) = (2 : Nat) ∧ (0 : Nat) = (0 : Nat) ∧ m = m ∧ cap = cap)
 (.chk (IntKind.i64 = IntKind.i64 ∧ vx = vx)
 (.chk (IntKind.i64 = IntKind.i64 ∧ vf = vf)
 (.chk (IntKind.u8 = IntKind.u8 ∧ qa = qa)
 (.chk (IntKind.u8 = IntKind.u8 ∧ qf = qf)
 (.chk (IntKind.u8 = IntKind.u8 ∧ qb = qb)
 (.chk (IntKind.u8 = IntKind.u8 ∧ qc = qc)
 (.chk (IntKind.u8 = IntKind.u8 ∧ qd = qd)
 (.chk (IntKind.u8 = IntKind.u8 ∧ qe = qe)
 (.chk (IntKind.u8 = IntKind.u8 ∧ qh = qh)
 (.chk (IntKind.u8 = IntKind.u8 ∧ ql = ql)
 (.chk (IntKind.u16 = IntKind.u16 ∧ sp = sp)
 (.chk (IntKind.u16 = IntKind.u16 ∧ pc = pc)
 (.chk (IntKind.i64 = IntKind.i64 ∧ ad = ad)
 (.chk (IntKind.i64 = IntKind.i64 ∧ va = va)
 (.chk (IntKind.i64 = IntKind.i64 ∧ ki = ki)
 (.chk (IntKind.i64 = IntKind.i64 ∧ ba = ba)
 (.chk (AB = AB ∧ [IntKind.u8] = [IntKind.u8] ∧ Bx = Bx ∧ nb = nb ∧ cb = cb)
 (.chk (ln = ln ∧ [IntKind.i64, IntKind.i64] = [IntKind.i64, IntKind.i64] ∧ L = L ∧ cap = cap)
 (.chk (an = an ∧ (1 : Nat) = (1 : Nat) ∧ (0 : Nat) = (0 : Nat) ∧ ak = ak ∧ ac = ac)
 (.chk (an = an ∧ [IntKind.u16] = [IntKind.u16] ∧ Q = Q ∧ ac = ac)
 (.chk (IntKind.u8 = IntKind.u8 ∧ qa = qa)
 (.chk (IntKind.u8 = IntKind.u8 ∧ qf = qf)
 (.chk (IntKind.u8 = IntKind.u8 ∧ qb = qb)
 (.chk (IntKind.u8 = IntKind.u8 ∧ qc = qc)
 (.chk (IntKind.u8 = IntKind.u8 ∧ qd = qd)
 (.chk (IntKind.u8 = IntKind.u8 ∧ qe = qe)
 (.chk (IntKind.u8 = IntKind.u8 ∧ qh = qh)
 (.chk (IntKind.u8 = IntKind.u8 ∧ ql = ql)
 (.chk (IntKind.u16 = IntKind.u16 ∧ osp = osp)
 (.chk (IntKind.u16 = IntKind.u16 ∧ pc = pc)
 (.chk (IntKind.i64 = IntKind.i64 ∧ ad = ad)
 (.chk (IntKind.i64 = IntKind.i64 ∧ va = va)
 (.chk (IntKind.i64 = IntKind.i64 ∧ ki = ki)
 (.chk (IntKind.i64 = IntKind.i64 ∧ ba = ba)
 (.chk (ctInv qa qf qb qc qd qe qh ql sp pc ad va ki ba AB Bx nb cb oqa oqf oqb oqc oqd oqe oqh oql
  osp opc oad ova oki oba AC Cx nc cc
  { ln := ln, L := L, m := m, cap := cap, vx := vx, vf := vf, Q := Q, ak := ak, an := an, ac := ac, wad := ad,
    wva := va, wsp := osp, wqb := qb })
 (.all fun x : sym.Got ctZ
  (ctBack qa qf qb qc qd qe qh ql sp pc ad va ki ba AB Bx nb cb oqa oqf oqb oqc oqd oqe oqh
    oql osp opc oad ova oki oba AC Cx nc cc) =>
 (.chk (x.1.1 = x.1.1)
 (.leaf ⟨x.1.1⟩)))))))))))))))))))))))))))))))))))))))))
 (.chk (sym.textAt Go.Proofs.Try.prog (5 : Go.FuncId) (20031 : Nat) = sym.textAt Go.Proofs.Try.prog (5 : Go.FuncId) (20031 : Nat))
 (.chk (ln = ln ∧ (2 : Nat) = (2 : Nat) ∧ (0 : Nat) = (0 : Nat) ∧ m = m ∧ cap = cap)
 (.chk (IntKind.i64 = IntKind.i64 ∧ vx = vx)
 (.chk (IntKind.i64 = IntKind.i64 ∧ vf = vf)
 (.chk (IntKind.u8 = IntKind.u8 ∧ qa = qa)
 (.chk (IntKind.u8 = IntKind.u8 ∧ qf = qf)
 (.chk (IntKind.u8 = IntKind.u8 ∧ qb = qb)
 (.chk (IntKind.u8 = IntKind.u8 ∧ qc = qc)
 (.chk (IntKind.u8 = IntKind.u8 ∧ qd = qd)
 (.chk (IntKind.u8 = IntKind.u8 ∧ qe = qe)
 (.chk (IntKind.u8 = IntKind.u8 ∧ qh = qh)
 (.chk (IntKind.u8 = IntKind.u8 ∧ ql = ql)
 (.chk (IntKind.u16 = IntKind.u16 ∧ sp = sp)
 (.chk (IntKind.u16 = IntKind.u16 ∧ pc = pc)
 (.chk (IntKind.i64 = IntKind.i64 ∧ ad = ad)
 (.chk (IntKind.i64 = IntKind.i64 ∧ va = va)
 (.chk (IntKind.i64 = IntKind.i64 ∧ ki = ki)
 (.chk (IntKind.i64 = IntKind.i64 ∧ ba = ba)
 (.chk (AB = AB ∧ [IntKind.u8] = [IntKind.u8] ∧ Bx = Bx ∧ nb = nb ∧ cb = cb)
 (.chk (ln = ln ∧ [IntKind.i64, IntKind.i64] = [IntKind.i64, IntKind.i64] ∧ L = L ∧ cap = cap)
 (.chk (an = an ∧ (1 : Nat) = (1 : Nat) ∧ (0 : Nat) = (0 : Nat) ∧ ak = ak ∧ ac = ac)
 (.chk (an = an ∧ [IntKind.u16] = [IntKind.u16] ∧ Q = Q ∧ ac = ac)
 (.chk (IntKind.u8 = IntKind.u8 ∧ qa = qa)
 (.chk (IntKind.u8 = IntKind.u8 ∧ qf = qf)
 (.chk (IntKind.u8 = IntKind.u8 ∧ qb = qb)
 (.chk (IntKind.u8 = IntKind.u8 ∧ qc = qc)
 (.chk (IntKind.u8 = IntKind.u8 ∧ qd = qd)
 (.chk (IntKind.u8 = IntKind.u8 ∧ qe = qe)
 (.chk (IntKind.u8 = IntKind.u8 ∧ qh = qh)
 (.chk (IntKind.u8 = IntKind.u8 ∧ ql = ql)
 (.chk (IntKind.u16 = IntKind.u16 ∧ osp = osp)
 (.chk (IntKind.u16 = IntKind.u16 ∧ pc = pc)
 (.chk (IntKind.i64 = IntKind.i64 ∧ ad = ad)
 (.chk (IntKind.i64 = IntKind.i64 ∧ va = va)
 (.chk (IntKind.i64 = IntKind.i64 ∧ ki = ki)
 (.chk (IntKind.i64 = IntKind.i64 ∧ ba = ba)
 (.chk (ctInv qa qf qb qc qd qe qh ql sp pc ad va ki ba AB Bx nb cb oqa oqf oqb oqc oqd oqe oqh oql
  osp opc oad ova oki oba AC Cx nc cc
  { ln := ln, L := L, m := m, cap := cap, vx := vx, vf := vf, Q := Q, ak := ak, an := an, ac := ac, wad := ad,
    wva := va, wsp := osp, wqb := qb })
 (.all fun x : sym.Got ctZ
  (ctBack qa qf qb qc qd qe qh ql sp pc ad va ki ba AB Bx nb cb oqa oqf oqb oqc oqd oqe oqh
    oql osp opc oad ova oki oba AC Cx nc cc) =>
 (.chk (x.1.1 = x.1.1)
 (.leaf ⟨x.1.1⟩)))))))))))))))))))))))))))))))))))))))))
 (.br (!b2)
 (.br (!b9)
 (.chk (sym.textAt Go.Proofs.Try.prog (5 : Go.FuncId) (20031 : Nat) = sym.textAt Go.Proofs.Try.prog (5 : Go.FuncId) (20031 : Nat))
 (.chk (ln = ln ∧ (2 : Nat) = (2 : Nat) ∧ (0 : Nat) = (0 : Nat) ∧ m = m ∧ cap = cap)
 (.chk (IntKind.i64 = IntKind.i64 ∧ vx = vx)
 (.chk (IntKind.i64 = IntKind.i64 ∧ vf = vf)
 (.chk (IntKind.u8 = IntKind.u8 ∧ qa = qa)
 (.chk (IntKind.u8 = IntKind.u8 ∧ qf = qf)
 (.chk (IntKind.u8 = IntKind.u8 ∧ qb = qb)
 (.chk (IntKind.u8 = IntKind.u8 ∧ qc = qc)
 (.chk (IntKind.u8 = IntKind.u8 ∧ qd = qd)
 (.chk (IntKind.u8 = IntKind.u8 ∧ qe = qe)
 (.chk (IntKind.u8 = IntKind.u8 ∧ qh = qh)
 (.chk (IntKind.u8 = IntKind.u8 ∧ ql = ql)
 (.chk (IntKind.u16 = IntKind.u16 ∧ sp = sp)
 (.chk (IntKind.u16 = IntKind.u16 ∧ pc = pc)
 (.chk (IntKind.i64 = IntKind.i64 ∧ ad = ad)
 (.chk (IntKind.i64 = IntKind.i64 ∧ va = va)
 (.chk (IntKind.i64 = IntKind.i64 ∧ ki = ki)
 (.chk (IntKind.i64 = IntKind.i64 ∧ ba = ba)
 (.chk (AB = AB ∧ [IntKind.u8] = [IntKind.u8] ∧ Bx = Bx ∧ nb = nb ∧ cb = cb)
 (.chk (ln = ln ∧ [IntKind.i64, IntKind.i64] = [IntKind.i64, IntKind.i64] ∧ L = L ∧ cap = cap)
 (.chk (an = an ∧ (1 : Nat) = (1 : Nat) ∧ (0 : Nat) = (0 : Nat) ∧ ak = ak ∧ ac = ac)
 (.chk (an = an ∧ [IntKind.u16] = [IntKind.u16] ∧ Q = Q ∧ ac = ac)
 (.chk (IntKind.u8 = IntKind.u8 ∧ qa = qa)
 (.chk (IntKind.u8 = IntKind.u8 ∧ qf = qf)
 (.chk (IntKind.u8 = IntKind.u8 ∧ oqb = oqb)
 (.chk (IntKind.u8 = IntKind.u8 ∧ qc = qc)
 (.chk (IntKind.u8 = IntKind.u8 ∧ qd = qd)
 (.chk (IntKind.u8 = IntKind.u8 ∧ qe = qe)
 (.chk (IntKind.u8 = IntKind.u8 ∧ qh = qh)
 (.chk (IntKind.u8 = IntKind.u8 ∧ ql = ql)
 (.chk (IntKind.u16 = IntKind.u16 ∧ sp = sp)
 (.chk (IntKind.u16 = IntKind.u16 ∧ pc = pc)
 (.chk (IntKind.i64 = IntKind.i64 ∧ ad = ad)
 (.chk (IntKind.i64 = IntKind.i64 ∧ va = va)
 (.chk (IntKind.i64 = IntKind.i64 ∧ ki = ki)
 (.chk (IntKind.i64 = IntKind.i64 ∧ ba = ba)
 (.chk (ctInv qa qf qb qc qd qe qh ql sp pc ad va ki ba AB Bx nb cb oqa oqf oqb oqc oqd oqe oqh oql
  osp opc oad ova oki oba AC Cx nc cc
  { ln := ln, L := L, m := m, cap := cap, vx := vx, vf := vf, Q := Q, ak := ak, an := an, ac := ac, wad := ad,
    wva := va, wsp := sp, wqb := oqb })
 (.all fun x : sym.Got ctZ
  (ctBack qa qf qb qc qd qe qh ql sp pc ad va ki ba AB Bx nb cb oqa oqf oqb oqc oqd oqe oqh
    oql osp opc oad ova oki oba AC Cx nc cc) =>
 (.chk (x.1.1 = x.1.1)
 (.leaf ⟨x.1.1⟩))))))))))))))))))))))))))))))))))))))))
 (.chk (sym.textAt Go.Proofs.Try.prog (5 : Go.FuncId) (20031 : Nat) = sym.textAt Go.Proofs.Try.prog (5 : Go.FuncId) (20031 : Nat))
 (.chk (ln = ln ∧ (2 : Nat) = (2 : Nat) ∧ (0 : Nat) = (0 : Nat) ∧ m = m ∧ cap = cap)
 (.chk (IntKind.i64 = IntKind.i64 ∧ vx = vx)
 (.chk (IntKind.i64 = IntKind.i64 ∧ vf = vf)
 (.chk (IntKind.u8 = IntKind.u8 ∧ qa = qa)
 (.chk (IntKind.u8 = IntKind.u8 ∧ qf = qf)
 (.chk (IntKind.u8 = IntKind.u8 ∧ qb = qb)
 (.chk (IntKind.u8 = IntKind.u8 ∧ qc = qc)
 (.chk (IntKind.u8 = IntKind.u8 ∧ qd = qd)
 (.chk (IntKind.u8 = IntKind.u8 ∧ qe = qe)
 (.chk (IntKind.u8 = IntKind.u8 ∧ qh = qh)
 (.chk (IntKind.u8 = IntKind.u8 ∧ ql = ql)
 (.chk (IntKind.u16 = IntKind.u16 ∧ sp = sp)
 (.chk (IntKind.u16 = IntKind.u16 ∧ pc = pc)
 (.chk (IntKind.i64 = IntKind.i64 ∧ ad = ad)
 (.chk (IntKind.i64 = IntKind.i64 ∧ va = va)
 (.chk (IntKind.i64 = IntKind.i64 ∧ ki = ki)
 (.chk (IntKind.i64 = IntKind.i64 ∧ ba = ba)
 (.chk (AB = AB ∧ [IntKind.u8] = [IntKind.u8] ∧ Bx = Bx ∧ nb = nb ∧ cb = cb)
 (.chk (ln = ln ∧ [IntKind.i64, IntKind.i64] = [IntKind.i64, IntKind.i64] ∧ L = L ∧ cap = cap)
 (.chk (an = an ∧ (1 : Nat) = (1 : Nat) ∧ (0 : Nat) = (0 : Nat) ∧ ak = ak ∧ ac = ac)
 (.chk (an = an ∧ [IntKind.u16] = [IntKind.u16] ∧ Q = Q ∧ ac = ac)
 (.chk (IntKind.u8 = IntKind.u8 ∧ qa = qa)
 (.chk (IntKind.u8 = IntKind.u8 ∧ qf = qf)
 (.chk (IntKind.u8 = IntKind.u8 ∧ qb = qb)
 (.chk (IntKind.u8 = IntKind.u8 ∧ qc = qc)
 (.chk (IntKind.u8 = IntKind.u8 ∧ qd = qd)
 (.chk (IntKind.u8 = IntKind.u8 ∧ qe = qe)
 (.chk (IntKind.u8 = IntKind.u8 ∧ qh = qh)
 (.chk (IntKind.u8 = IntKind.u8 ∧ ql = ql)
 (.chk (IntKind.u16 = IntKind.u16 ∧ sp = sp)
 (.chk (IntKind.u16 = IntKind.u16 ∧ pc = pc)
 (.chk (IntKind.i64 = IntKind.i64 ∧ ad = ad)
 (.chk (IntKind.i64 = IntKind.i64 ∧ va = va)
 (.chk (IntKind.i64 = IntKind.i64 ∧ ki = ki)
 (.chk (IntKind.i64 = IntKind.i64 ∧ ba = ba)
 (.chk (ctInv qa qf qb qc qd qe qh ql sp pc ad va ki ba AB Bx nb cb oqa oqf oqb oqc oqd oqe oqh oql
  osp opc oad ova oki oba AC Cx nc cc
  { ln := ln, L := L, m := m, cap := cap, vx := vx, vf := vf, Q := Q, ak := ak, an := an, ac := ac, wad := ad,
    wva := va, wsp := sp, wqb := qb })
 (.all fun x : sym.Got ctZ
  (ctBack qa qf qb qc qd qe qh ql sp pc ad va ki ba AB Bx nb cb oqa oqf oqb oqc oqd oqe oqh
    oql osp opc oad ova oki oba AC Cx nc cc) =>
 (.chk (x.1.1 = x.1.1)
 (.leaf ⟨x.1.1⟩)))))))))))))))))))))))))))))))))))))))))
 (.chk (sym.textAt Go.Proofs.Try.prog (5 : Go.FuncId) (20031 : Nat) = sym.textAt Go.Proofs.Try.prog (5 : Go.FuncId) (20031 : Nat))
 (.chk (ln = ln ∧ (2 : Nat) = (2 : Nat) ∧ (0 : Nat) = (0 : Nat) ∧ m = m ∧ cap = cap)
 (.chk (IntKind.i64 = IntKind.i64 ∧ vx = vx)
 (.chk (IntKind.i64 = IntKind.i64 ∧ vf = vf)
 (.chk (IntKind.u8 = IntKind.u8 ∧ qa = qa)
 (.chk (IntKind.u8 = IntKind.u8 ∧ qf = qf)
 (.chk (IntKind.u8 = IntKind.u8 ∧ qb = qb)
 (.chk (IntKind.u8 = IntKind.u8 ∧ qc = qc)
 (.chk (IntKind.u8 = IntKind.u8 ∧ qd = qd)
 (.chk (IntKind.u8 = IntKind.u8 ∧ qe = qe)
 (.chk (IntKind.u8 = IntKind.u8 ∧ qh = qh)
 (.chk (IntKind.u8 = IntKind.u8 ∧ ql = ql)
 (.chk (IntKind.u16 = IntKind.u16 ∧ sp = sp)
 (.chk (IntKind.u16 = IntKind.u16 ∧ pc = pc)
 (.chk (IntKind.i64 = IntKind.i64 ∧ ad = ad)
 (.chk (IntKind.i64 = IntKind.i64 ∧ va = va)
 (.chk (IntKind.i64 = IntKind.i64 ∧ ki = ki)
 (.chk (IntKind.i64 = IntKind.i64 ∧ ba = ba)
 (.chk (AB = AB ∧ [IntKind.u8] = [IntKind.u8] ∧ Bx = Bx ∧ nb = nb ∧ cb = cb)
 (.chk (ln = ln ∧ [IntKind.i64, IntKind.i64] = [IntKind.i64, IntKind.i64] ∧ L = L ∧ cap = cap)
 (.chk (an = an ∧ (1 : Nat) = (1 : Nat) ∧ (0 : Nat) = (0 : Nat) ∧ ak = ak ∧ ac = ac)
 (.chk (an = an ∧ [IntKind.u16] = [IntKind.u16] ∧ Q = Q ∧ ac = ac)
 (.chk (IntKind.u8 = IntKind.u8 ∧ qa = qa)
 (.chk (IntKind.u8 = IntKind.u8 ∧ qf = qf)
 (.chk (IntKind.u8 = IntKind.u8 ∧ qb = qb)
 (.chk (IntKind.u8 = IntKind.u8 ∧ qc = qc)
 (.chk (IntKind.u8 = IntKind.u8 ∧ qd = qd)
 (.chk (IntKind.u8 = IntKind.u8 ∧ qe = qe)
 (.chk (IntKind.u8 = IntKind.u8 ∧ qh = qh)
 (.chk (IntKind.u8 = IntKind.u8 ∧ ql = ql)
 (.chk (IntKind.u16 = IntKind.u16 ∧ sp = sp)
 (.chk (IntKind.u16 = IntKind.u16 ∧ pc = pc)
 (.chk (IntKind.i64 = IntKind.i64 ∧ ad = ad)
 (.chk (IntKind.i64 = IntKind.i64 ∧ va = va)
 (.chk (IntKind.i64 = IntKind.i64 ∧ ki = ki)
 (.chk (IntKind.i64 = IntKind.i64 ∧ ba = ba)
 (.chk (ctInv qa qf qb qc qd qe qh ql sp pc ad va ki ba AB Bx nb cb oqa oqf oqb oqc oqd oqe oqh oql
  osp opc oad ova oki oba AC Cx nc cc
  { ln := ln, L := L, m := m, cap := cap, vx := vx, vf := vf, Q := Q, ak := ak, an := an, ac := ac, wad := ad,
    wva := va, wsp := sp, wqb := qb })
 (.all fun x : sym.Got ctZ
  (ctBack qa qf qb qc qd qe qh ql sp pc ad va ki ba AB Bx nb cb oqa oqf oqb oqc oqd oqe oqh
    oql osp opc oad ova oki oba AC Cx nc cc) =>
 (.chk (x.1.1 = x.1.1)
 (.leaf ⟨x.1.1⟩)))))))))))))))))))))))))))))))))))))))))))) := by kernel_rfl
theorem asks_tree (w : World) (tx : ByteArray) (qa qf qb qc qd qe qh ql sp pc : Int) (ad va ki ba : Int) (AB : Option Addr) (Bx : List Int) (nb cb : Nat) (oqa oqf oqb oqc oqd oqe oqh oql osp opc oad ova oki oba : Int) (AC : Option Addr) (Cx : List Int) (nc cc : Nat) (ev : Value) (F : Int → Int) :
    callV Try.prog w (flatT Try.prog) (ctrOf l3T) (preOr (preOf w [codesC]) (fpreOf [parsedC, runA w])) (lpOf Try.prog [laLp qa qf qb qc qd qe qh ql sp pc ad va ki ba AB Bx nb cb oqa oqf oqb oqc oqd oqe oqh oql osp opc oad ova oki oba AC Cx nc cc, cuLp qa qf qb qc qd qe qh ql sp pc ad va ki ba AB Bx nb cb oqa oqf oqb oqc oqd oqe oqh oql osp opc oad ova oki oba AC Cx nc cc]) 20 5 [.v (.one (.val (.string tx))), .v (.agg [.int false .u8 qa, .int false .u8 qf, .int false .u8 qb, .int false .u8 qc, .int false .u8 qd, .int false .u8 qe, .int false .u8 qh, .int false .u8 ql, .int false .u16 sp, .int false .u16 pc, .int false .i64 ad, .int false .i64 va, .int false .i64 ki, .int false .i64 ba, .xr AB [.u8] Bx nb cb]), .v (.agg [.int false .u8 oqa, .int false .u8 oqf, .int false .u8 oqb, .int false .u8 oqc, .int false .u8 oqd, .int false .u8 oqe, .int false .u8 oqh, .int false .u8 oql, .int false .u16 osp, .int false .u16 opc, .int false .i64 oad, .int false .i64 ova, .int false .i64 oki, .int false .i64 oba, .xr AC [.u8] Cx nc cc])] =
(.br (decide ((↑tx.size : Int) > (400 : Int)))
 (.leaf (.v (.one (.bool true true))))
 (.br (decide ((↑nb : Int) > (400 : Int)))
 (.leaf (.v (.one (.bool true true))))
 (.chk (tx.size ≤ (1000 : Nat))
 (.all fun x : PrR tx =>
 (.chk ((x.nl = x.nl ∧ ((0 : Nat) + x.k) * (2 : Nat) ≤ x.zs.length ∧ x.k ≤ x.cap) ∧ True)
 (.chk (x.k ≤ (1000000 : Nat))
 (.all fun x_1 : RowR x.k =>
 (.br ((↑x.k : Int) == (0 : Int))
 (.leaf (.v (.one (.bool true true))))
 (.chk (sym.textAt Go.Proofs.Try.prog (5 : Go.FuncId) (0 : Nat) = sym.textAt Go.Proofs.Try.prog (5 : Go.FuncId) (0 : Nat))
 (.chk (false = false)
 (.chk (x_1.nl = x_1.nl ∧
  [IntKind.i64, IntKind.i64].length = (2 : Nat) ∧ (0 : Nat) = (0 : Nat) ∧ x.k = x.k ∧ x_1.cap = x_1.cap)
 (.chk (IntKind.i64 = IntKind.i64 ∧ (0 : Int) = (0 : Int))
 (.chk (x_1.nl = x_1.nl ∧
  [IntKind.i64, IntKind.i64].length = (2 : Nat) ∧ (0 : Nat) = (0 : Nat) ∧ x.k = x.k ∧ x_1.cap = x_1.cap)
 (.chk (IntKind.i64 = IntKind.i64 ∧ (↑x.k : Int) = (↑x.k : Int))
 (.chk (IntKind.i64 = IntKind.i64 ∧ (0 : Int) = (0 : Int))
 (.chk (IntKind.u8 = IntKind.u8 ∧ qa = qa)
 (.chk (IntKind.u8 = IntKind.u8 ∧ qf = qf)
 (.chk (IntKind.u8 = IntKind.u8 ∧ qb = qb)
 (.chk (IntKind.u8 = IntKind.u8 ∧ qc = qc)
 (.chk (IntKind.u8 = IntKind.u8 ∧ qd = qd)
 (.chk (IntKind.u8 = IntKind.u8 ∧ qe = qe)
 (.chk (IntKind.u8 = IntKind.u8 ∧ qh = qh)
 (.chk (IntKind.u8 = IntKind.u8 ∧ ql = ql)
 (.chk (IntKind.u16 = IntKind.u16 ∧ sp = sp)
 (.chk (IntKind.u16 = IntKind.u16 ∧ pc = pc)
 (.chk (IntKind.i64 = IntKind.i64 ∧ ad = ad)
 (.chk (IntKind.i64 = IntKind.i64 ∧ va = va)
 (.chk (IntKind.i64 = IntKind.i64 ∧ ki = ki)
 (.chk (IntKind.i64 = IntKind.i64 ∧ ba = ba)
 (.chk (AB = AB ∧ [IntKind.u8] = [IntKind.u8] ∧ Bx = Bx ∧ nb = nb ∧ cb = cb)
 (.chk (IntKind.u8 = IntKind.u8 ∧ oqa = oqa)
 (.chk (IntKind.u8 = IntKind.u8 ∧ oqf = oqf)
 (.chk (IntKind.u8 = IntKind.u8 ∧ oqb = oqb)
 (.chk (IntKind.u8 = IntKind.u8 ∧ oqc = oqc)
 (.chk (IntKind.u8 = IntKind.u8 ∧ oqd = oqd)
 (.chk (IntKind.u8 = IntKind.u8 ∧ oqe = oqe)
 (.chk (IntKind.u8 = IntKind.u8 ∧ oqh = oqh)
 (.chk (IntKind.u8 = IntKind.u8 ∧ oql = oql)
 (.chk (IntKind.u16 = IntKind.u16 ∧ osp = osp)
 (.chk (IntKind.u16 = IntKind.u16 ∧ opc = opc)
 (.chk (IntKind.i64 = IntKind.i64 ∧ oad = oad)
 (.chk (IntKind.i64 = IntKind.i64 ∧ ova = ova)
 (.chk (IntKind.i64 = IntKind.i64 ∧ oki = oki)
 (.chk (IntKind.i64 = IntKind.i64 ∧ oba = oba)
 (.chk (AC = AC ∧ [IntKind.u8] = [IntKind.u8] ∧ Cx = Cx ∧ nc = nc ∧ cc = cc)
 (.chk (x_1.nl = x_1.nl ∧
  [IntKind.i64, IntKind.i64] = [IntKind.i64, IntKind.i64] ∧
    sym.cutL x.zs (0 : Nat) ((0 : Nat) + x.k) (2 : Nat) =
        sym.cutL x.zs (0 : Nat) ((0 : Nat) + x.k) (2 : Nat) ∧
      x_1.cap = x_1.cap)
 (.chk (false = false)
 (.chk (false = false)
 (.chk (false = false)
 (.chk (false = false)
 (.chk (false = false)
 (.chk (false = false)
 (.chk (false = false)
 (.chk (false = false)
 (.chk (false = false)
 (.chk (false = false)
 (.chk (false = false)
 (.chk (false = false)
 (.chk (false = false)
 (.chk (false = false)
 (.chk (false = false)
 (.chk (false = false)
 (.chk (false = false)
 (.chk (false = false)
 (.chk (laInv qa qf qb qc qd qe qh ql sp pc ad va ki ba AB Bx nb cb oqa oqf oqb oqc oqd oqe oqh oql
  osp opc oad ova oki oba AC Cx nc cc
  { ln := x_1.nl, L := sym.cutL x.zs (0 : Nat) ((0 : Nat) + x.k) (2 : Nat), m := x.k,
    cap := x_1.cap }
  { b0 := false, b1 := false, b2 := false, b3 := false, b4 := false, b5 := false,
    b6 := false, b7 := false, b8 := false, b9 := false, b10 := false, b11 := false,
    b12 := false, b13 := false, b14 := false, b15 := false, b16 := false, b17 := false,
    pk := (0 : Int), i := (0 : Nat) })
 (.all fun x_2 : sym.Got laY
  (laPost qa qf qb qc qd qe qh ql sp pc ad va ki ba AB Bx nb cb oqa oqf oqb oqc oqd oqe oqh
    oql osp opc oad ova oki oba AC Cx nc cc
    { ln := x_1.nl, L := sym.cutL x.zs (0 : Nat) ((0 : Nat) + x.k) (2 : Nat), m := x.k,
      cap := x_1.cap }) =>
 (.chk ((x_1.nl = x_1.nl ∧ x_1.cap = x_1.cap) ∧
  sym.XR w AB [IntKind.u8] Bx nb ∧
    ((sym.cutL x.zs (0 : Nat) ((0 : Nat) + x.k) (2 : Nat)).length = x.k * (2 : Nat) ∧
        x.k ≤ x_1.cap ∧ (x_1.nl = true → x.k = (0 : Nat))) ∧
      x.k ≤ (1000000 : Nat))
 (.all fun x_3 : RowR
  (asksL
      (nameL qa qf qb qc qd qe qh ql sp pc ad va ki ba)
      (pkL Bx nb)
      (sym.cutL x.zs (0 : Nat) ((0 : Nat) + x.k) (2 : Nat)) []).length =>
 (.br ((evalL
      (nameL qa qf qb qc qd qe qh ql sp pc ad va ki ba)
      (pkL Bx nb)
      (sym.cutL x.zs (0 : Nat) ((0 : Nat) + x.k) (2 : Nat)) []).snd ==
  (0 : Int))
 (.br ((↑(asksL
          (nameL qa qf qb qc qd qe qh ql sp pc ad va ki ba)
          (pkL Bx nb)
          (sym.cutL x.zs (0 : Nat) ((0 : Nat) + x.k) (2 : Nat)) []).length :
    Int) !=
  x_2.1.19)
 (.leaf (.v (.one (.bool true false))))
 (.br (decide
  ((↑(asksL
            (nameL qa qf qb qc qd qe qh ql sp pc ad va ki ba)
            (pkL Bx nb)
            (sym.cutL x.zs (0 : Nat) ((0 : Nat) + x.k) (2 : Nat)) []).length :
      Int) >
    x_2.1.19))
 (.leaf (.v (.one (.bool true false))))
 (.chk (sym.textAt Go.Proofs.Try.prog (5 : Go.FuncId) (20022 : Nat) = sym.textAt Go.Proofs.Try.prog (5 : Go.FuncId) (20022 : Nat))
 (.chk (x_1.nl = x_1.nl ∧ (2 : Nat) = (2 : Nat) ∧ (0 : Nat) = (0 : Nat) ∧ x.k = x.k ∧ x_1.cap = x_1.cap)
 (.chk (IntKind.i64 = IntKind.i64 ∧
  (evalL
        (nameL qa qf qb qc qd qe qh ql sp pc ad va ki ba)
        (pkL Bx nb)
        (sym.cutL x.zs (0 : Nat) ((0 : Nat) + x.k) (2 : Nat)) []).fst =
    (evalL
        (nameL qa qf qb qc qd qe qh ql sp pc ad va ki ba)
        (pkL Bx nb)
        (sym.cutL x.zs (0 : Nat) ((0 : Nat) + x.k) (2 : Nat)) []).fst)
 (.chk (IntKind.i64 = IntKind.i64 ∧
  (evalL
        (nameL qa qf qb qc qd qe qh ql sp pc ad va ki ba)
        (pkL Bx nb)
        (sym.cutL x.zs (0 : Nat) ((0 : Nat) + x.k) (2 : Nat)) []).snd =
    (evalL
        (nameL qa qf qb qc qd qe qh ql sp pc ad va ki ba)
        (pkL Bx nb)
        (sym.cutL x.zs (0 : Nat) ((0 : Nat) + x.k) (2 : Nat)) []).snd)
 (.chk (IntKind.u8 = IntKind.u8 ∧ qa = qa)
 (.chk (IntKind.u8 = IntKind.u8 ∧ qf = qf)
 (.chk (IntKind.u8 = IntKind.u8 ∧ qb = qb)
 (.chk (IntKind.u8 = IntKind.u8 ∧ qc = qc)
 (.chk (IntKind.u8 = IntKind.u8 ∧ qd = qd)
 (.chk (IntKind.u8 = IntKind.u8 ∧ qe = qe)
 (.chk (IntKind.u8 = IntKind.u8 ∧ qh = qh)
 (.chk (IntKind.u8 = IntKind.u8 ∧ ql = ql)
 (.chk (IntKind.u16 = IntKind.u16 ∧ sp = sp)
 (.chk (IntKind.u16 = IntKind.u16 ∧ pc = pc)
 (.chk (IntKind.i64 = IntKind.i64 ∧ ad = ad)
 (.chk (IntKind.i64 = IntKind.i64 ∧ va = va)
 (.chk (IntKind.i64 = IntKind.i64 ∧ ki = ki)
 (.chk (IntKind.i64 = IntKind.i64 ∧ ba = ba)
 (.chk (AB = AB ∧ [IntKind.u8] = [IntKind.u8] ∧ Bx = Bx ∧ nb = nb ∧ cb = cb)
 (.chk (IntKind.u8 = IntKind.u8 ∧ oqa = oqa)
 (.chk (IntKind.u8 = IntKind.u8 ∧ oqf = oqf)
 (.chk (IntKind.u8 = IntKind.u8 ∧ oqb = oqb)
 (.chk (IntKind.u8 = IntKind.u8 ∧ oqc = oqc)
 (.chk (IntKind.u8 = IntKind.u8 ∧ oqd = oqd)
 (.chk (IntKind.u8 = IntKind.u8 ∧ oqe = oqe)
 (.chk (IntKind.u8 = IntKind.u8 ∧ oqh = oqh)
 (.chk (IntKind.u8 = IntKind.u8 ∧ oql = oql)
 (.chk (IntKind.u16 = IntKind.u16 ∧ osp = osp)
 (.chk (IntKind.u16 = IntKind.u16 ∧ opc = opc)
 (.chk (IntKind.i64 = IntKind.i64 ∧ oad = oad)
 (.chk (IntKind.i64 = IntKind.i64 ∧ ova = ova)
 (.chk (IntKind.i64 = IntKind.i64 ∧ oki = oki)
 (.chk (IntKind.i64 = IntKind.i64 ∧ oba = oba)
 (.chk (AC = AC ∧ [IntKind.u8] = [IntKind.u8] ∧ Cx = Cx ∧ nc = nc ∧ cc = cc)
 (.chk (x_1.nl = x_1.nl ∧
  [IntKind.i64, IntKind.i64] = [IntKind.i64, IntKind.i64] ∧
    sym.cutL x.zs (0 : Nat) ((0 : Nat) + x.k) (2 : Nat) =
        sym.cutL x.zs (0 : Nat) ((0 : Nat) + x.k) (2 : Nat) ∧
      x_1.cap = x_1.cap)
 (.chk (x_3.nl = x_3.nl ∧
  (1 : Nat) = (1 : Nat) ∧
    (0 : Nat) = (0 : Nat) ∧
      (asksL
              (nameL qa qf qb qc qd qe qh ql sp pc ad va ki ba)
              (pkL Bx nb)
              (sym.cutL x.zs (0 : Nat) ((0 : Nat) + x.k) (2 : Nat)) []).length =
          (asksL
              (nameL qa qf qb qc qd qe qh ql sp pc ad va ki ba)
              (pkL Bx nb)
              (sym.cutL x.zs (0 : Nat) ((0 : Nat) + x.k) (2 : Nat)) []).length ∧
        x_3.cap = x_3.cap)
 (.chk (x_2.1.1 = x_2.1.1)
 (.chk (x_2.1.2 = x_2.1.2)
 (.chk (x_2.1.3 = x_2.1.3)
 (.chk (x_2.1.4 = x_2.1.4)
 (.chk (x_2.1.5 = x_2.1.5)
 (.chk (x_2.1.6 = x_2.1.6)
 (.chk (x_2.1.7 = x_2.1.7)
 (.chk (x_2.1.8 = x_2.1.8)
 (.chk (x_2.1.9 = x_2.1.9)
 (.chk (x_2.1.10 = x_2.1.10)
 (.chk (x_2.1.11 = x_2.1.11)
 (.chk (x_2.1.12 = x_2.1.12)
 (.chk (x_2.1.13 = x_2.1.13)
 (.chk (x_2.1.14 = x_2.1.14)
 (.chk (x_2.1.15 = x_2.1.15)
 (.chk (x_2.1.16 = x_2.1.16)
 (.chk (x_2.1.17 = x_2.1.17)
 (.chk (x_2.1.18 = x_2.1.18)
 (.chk (IntKind.u8 = IntKind.u8 ∧ qa = qa)
 (.chk (IntKind.u8 = IntKind.u8 ∧ qf = qf)
 (.chk (IntKind.u8 = IntKind.u8 ∧ qb = qb)
 (.chk (IntKind.u8 = IntKind.u8 ∧ qc = qc)
 (.chk (IntKind.u8 = IntKind.u8 ∧ qd = qd)
 (.chk (IntKind.u8 = IntKind.u8 ∧ qe = qe)
 (.chk (IntKind.u8 = IntKind.u8 ∧ qh = qh)
 (.chk (IntKind.u8 = IntKind.u8 ∧ ql = ql)
 (.chk (IntKind.u16 = IntKind.u16 ∧ sp = sp)
 (.chk (IntKind.u16 = IntKind.u16 ∧ pc = pc)
 (.chk (IntKind.i64 = IntKind.i64 ∧ ad = ad)
 (.chk (IntKind.i64 = IntKind.i64 ∧ va = va)
 (.chk (IntKind.i64 = IntKind.i64 ∧ ki = ki)
 (.chk (IntKind.i64 = IntKind.i64 ∧ ba = ba)
 (.chk (x_3.nl = x_3.nl ∧
  [IntKind.u16] = [IntKind.u16] ∧
    asksL
          (nameL qa qf qb qc qd qe qh ql sp pc ad va ki ba)
          (pkL Bx nb)
          (sym.cutL x.zs (0 : Nat) ((0 : Nat) + x.k) (2 : Nat)) [] =
        asksL
          (nameL qa qf qb qc qd qe qh ql sp pc ad va ki ba)
          (pkL Bx nb)
          (sym.cutL x.zs (0 : Nat) ((0 : Nat) + x.k) (2 : Nat)) [] ∧
      x_3.cap = x_3.cap)
 (.chk (cuInv qa qf qb qc qd qe qh ql sp pc ad va ki ba AB Bx nb cb oqa oqf oqb oqc oqd oqe oqh oql
  osp opc oad ova oki oba AC Cx nc cc
  { ln := x_1.nl, L := sym.cutL x.zs (0 : Nat) ((0 : Nat) + x.k) (2 : Nat), m := x.k,
    cap := x_1.cap,
    vx :=
      (evalL
          (nameL qa qf qb qc qd qe qh ql sp pc ad va ki ba)
          (pkL Bx nb)
          (sym.cutL x.zs (0 : Nat) ((0 : Nat) + x.k) (2 : Nat)) []).fst,
    vf :=
      (evalL
          (nameL qa qf qb qc qd qe qh ql sp pc ad va ki ba)
          (pkL Bx nb)
          (sym.cutL x.zs (0 : Nat) ((0 : Nat) + x.k) (2 : Nat)) []).snd,
    Q :=
      asksL
        (nameL qa qf qb qc qd qe qh ql sp pc ad va ki ba)
        (pkL Bx nb)
        (sym.cutL x.zs (0 : Nat) ((0 : Nat) + x.k) (2 : Nat)) [],
    ak :=
      (asksL
          (nameL qa qf qb qc qd qe qh ql sp pc ad va ki ba)
          (pkL Bx nb)
          (sym.cutL x.zs (0 : Nat) ((0 : Nat) + x.k) (2 : Nat)) []).length,
    an := x_3.nl, ac := x_3.cap, b0 := x_2.1.1, b1 := x_2.1.2, b2 := x_2.1.3, b3 := x_2.1.4, b4 := x_2.1.5,
    b5 := x_2.1.6, b6 := x_2.1.7, b7 := x_2.1.8, b8 := x_2.1.9, b9 := x_2.1.10, b10 := x_2.1.11, b11 := x_2.1.12,
    b12 := x_2.1.13, b13 := x_2.1.14, b14 := x_2.1.15, b15 := x_2.1.16, b16 := x_2.1.17, b17 := x_2.1.18 })
 (.all fun x_4 : sym.Got cuZ
  (cuBack qa qf qb qc qd qe qh ql sp pc ad va ki ba AB Bx nb cb oqa oqf oqb oqc oqd oqe oqh
    oql osp opc oad ova oki oba AC Cx nc cc) =>
 (.leaf (.v (.one (.bool false (x_4.1.1))))))))))))))))))))))))))))))))))))))))))))))))))))))))))))))))))))))))))))))
 (.br (decide
  ((↑(asksL
            (nameL qa qf qb qc qd qe qh ql sp pc ad va ki ba)
            (pkL Bx nb)
            (sym.cutL x.zs (0 : Nat) ((0 : Nat) + x.k) (2 : Nat)) []).length :
      Int) >
    x_2.1.19))
 (.leaf (.v (.one (.bool true false))))
 (.chk (sym.textAt Go.Proofs.Try.prog (5 : Go.FuncId) (20022 : Nat) = sym.textAt Go.Proofs.Try.prog (5 : Go.FuncId) (20022 : Nat))
 (.chk (x_1.nl = x_1.nl ∧ (2 : Nat) = (2 : Nat) ∧ (0 : Nat) = (0 : Nat) ∧ x.k = x.k ∧ x_1.cap = x_1.cap)
 (.chk (IntKind.i64 = IntKind.i64 ∧
  (evalL
        (nameL qa qf qb qc qd qe qh ql sp pc ad va ki ba)
        (pkL Bx nb)
        (sym.cutL x.zs (0 : Nat) ((0 : Nat) + x.k) (2 : Nat)) []).fst =
    (evalL
        (nameL qa qf qb qc qd qe qh ql sp pc ad va ki ba)
        (pkL Bx nb)
        (sym.cutL x.zs (0 : Nat) ((0 : Nat) + x.k) (2 : Nat)) []).fst)
 (.chk (IntKind.i64 = IntKind.i64 ∧
  (evalL
        (nameL qa qf qb qc qd qe qh ql sp pc ad va ki ba)
        (pkL Bx nb)
        (sym.cutL x.zs (0 : Nat) ((0 : Nat) + x.k) (2 : Nat)) []).snd =
    (evalL
        (nameL qa qf qb qc qd qe qh ql sp pc ad va ki ba)
        (pkL Bx nb)
        (sym.cutL x.zs (0 : Nat) ((0 : Nat) + x.k) (2 : Nat)) []).snd)
 (.chk (IntKind.u8 = IntKind.u8 ∧ qa = qa)
 (.chk (IntKind.u8 = IntKind.u8 ∧ qf = qf)
 (.chk (IntKind.u8 = IntKind.u8 ∧ qb = qb)
 (.chk (IntKind.u8 = IntKind.u8 ∧ qc = qc)
 (.chk (IntKind.u8 = IntKind.u8 ∧ qd = qd)
 (.chk (IntKind.u8 = IntKind.u8 ∧ qe = qe)
 (.chk (IntKind.u8 = IntKind.u8 ∧ qh = qh)
 (.chk (IntKind.u8 = IntKind.u8 ∧ ql = ql)
 (.chk (IntKind.u16 = IntKind.u16 ∧ sp = sp)
 (.chk (IntKind.u16 = IntKind.u16 ∧ pc = pc)
 (.chk (IntKind.i64 = IntKind.i64 ∧ ad = ad)
 (.chk (IntKind.i64 = IntKind.i64 ∧ va = va)
 (.chk (IntKind.i64 = IntKind.i64 ∧ ki = ki)
 (.chk (IntKind.i64 = IntKind.i64 ∧ ba = ba)
 (.chk (AB = AB ∧ [IntKind.u8] = [IntKind.u8] ∧ Bx = Bx ∧ nb = nb ∧ cb = cb)
 (.chk (IntKind.u8 = IntKind.u8 ∧ oqa = oqa)
 (.chk (IntKind.u8 = IntKind.u8 ∧ oqf = oqf)
 (.chk (IntKind.u8 = IntKind.u8 ∧ oqb = oqb)
 (.chk (IntKind.u8 = IntKind.u8 ∧ oqc = oqc)
 (.chk (IntKind.u8 = IntKind.u8 ∧ oqd = oqd)
 (.chk (IntKind.u8 = IntKind.u8 ∧ oqe = oqe)
 (.chk (IntKind.u8 = IntKind.u8 ∧ oqh = oqh)
 (.chk (IntKind.u8 = IntKind.u8 ∧ oql = oql)
 (.chk (IntKind.u16 = IntKind.u16 ∧ osp = osp)
 (.chk (IntKind.u16 = IntKind.u16 ∧ opc = opc)
 (.chk (IntKind.i64 = IntKind.i64 ∧ oad = oad)
 (.chk (IntKind.i64 = IntKind.i64 ∧ ova = ova)
 (.chk (IntKind.i64 = IntKind.i64 ∧ oki = oki)
 (.chk (IntKind.i64 = IntKind.i64 ∧ oba = oba)
 (.chk (AC = AC ∧ [IntKind.u8] = [IntKind.u8] ∧ Cx = Cx ∧ nc = nc ∧ cc = cc)
 (.chk (x_1.nl = x_1.nl ∧
  [IntKind.i64, IntKind.i64] = [IntKind.i64, IntKind.i64] ∧
    sym.cutL x.zs (0 : Nat) ((0 : Nat) + x.k) (2 : Nat) =
        sym.cutL x.zs (0 : Nat) ((0 : Nat) + x.k) (2 : Nat) ∧
      x_1.cap = x_1.cap)
 (.chk (x_3.nl = x_3.nl ∧
  (1 : Nat) = (1 : Nat) ∧
    (0 : Nat) = (0 : Nat) ∧
      (asksL
              (nameL qa qf qb qc qd qe qh ql sp pc ad va ki ba)
              (pkL Bx nb)
              (sym.cutL x.zs (0 : Nat) ((0 : Nat) + x.k) (2 : Nat)) []).length =
          (asksL
              (nameL qa qf qb qc qd qe qh ql sp pc ad va ki ba)
              (pkL Bx nb)
              (sym.cutL x.zs (0 : Nat) ((0 : Nat) + x.k) (2 : Nat)) []).length ∧
        x_3.cap = x_3.cap)
 (.chk (x_2.1.1 = x_2.1.1)
 (.chk (x_2.1.2 = x_2.1.2)
 (.chk (x_2.1.3 = x_2.1.3)
 (.chk (x_2.1.4 = x_2.1.4)
 (.chk (x_2.1.5 = x_2.1.5)
 (.chk (x_2.1.6 = x_2.1.6)
 (.chk (x_2.1.7 = x_2.1.7)
 (.chk (x_2.1.8 = x_2.1.8)
 (.chk (x_2.1.9 = x_2.1.9)
 (.chk (x_2.1.10 = x_2.1.10)
 (.chk (x_2.1.11 = x_2.1.11)
 (.chk (x_2.1.12 = x_2.1.12)
 (.chk (x_2.1.13 = x_2.1.13)
 (.chk (x_2.1.14 = x_2.1.14)
 (.chk (x_2.1.15 = x_2.1.15)
 (.chk (x_2.1.16 = x_2.1.16)
 (.chk (x_2.1.17 = x_2.1.17)
 (.chk (x_2.1.18 = x_2.1.18)
 (.chk (IntKind.u8 = IntKind.u8 ∧ qa = qa)
 (.chk (IntKind.u8 = IntKind.u8 ∧ qf = qf)
 (.chk (IntKind.u8 = IntKind.u8 ∧ qb = qb)
 (.chk (IntKind.u8 = IntKind.u8 ∧ qc = qc)
 (.chk (IntKind.u8 = IntKind.u8 ∧ qd = qd)
 (.chk (IntKind.u8 = IntKind.u8 ∧ qe = qe)
 (.chk (IntKind.u8 = IntKind.u8 ∧ qh = qh)
 (.chk (IntKind.u8 = IntKind.u8 ∧ ql = ql)
 (.chk (IntKind.u16 = IntKind.u16 ∧ sp = sp)
 (.chk (IntKind.u16 = IntKind.u16 ∧ pc = pc)
 (.chk (IntKind.i64 = IntKind.i64 ∧ ad = ad)
 (.chk (IntKind.i64 = IntKind.i64 ∧ va = va)
 (.chk (IntKind.i64 = IntKind.i64 ∧ ki = ki)
 (.chk (IntKind.i64 = IntKind.i64 ∧ ba = ba)
 (.chk (x_3.nl = x_3.nl ∧
  [IntKind.u16] = [IntKind.u16] ∧
    asksL
          (nameL qa qf qb qc qd qe qh ql sp pc ad va ki ba)
          (pkL Bx nb)
          (sym.cutL x.zs (0 : Nat) ((0 : Nat) + x.k) (2 : Nat)) [] =
        asksL
          (nameL qa qf qb qc qd qe qh ql sp pc ad va ki ba)
          (pkL Bx nb)
          (sym.cutL x.zs (0 : Nat) ((0 : Nat) + x.k) (2 : Nat)) [] ∧
      x_3.cap = x_3.cap)
 (.chk (cuInv qa qf qb qc qd qe qh ql sp pc ad va ki ba AB Bx nb cb oqa oqf oqb oqc oqd oqe oqh oql
  osp opc oad ova oki oba AC Cx nc cc
  { ln := x_1.nl, L := sym.cutL x.zs (0 : Nat) ((0 : Nat) + x.k) (2 : Nat), m := x.k,
    cap := x_1.cap,
    vx :=
      (evalL
          (nameL qa qf qb qc qd qe qh ql sp pc ad va ki ba)
          (pkL Bx nb)
          (sym.cutL x.zs (0 : Nat) ((0 : Nat) + x.k) (2 : Nat)) []).fst,
    vf :=
      (evalL
          (nameL qa qf qb qc qd qe qh ql sp pc ad va ki ba)
          (pkL Bx nb)
          (sym.cutL x.zs (0 : Nat) ((0 : Nat) + x.k) (2 : Nat)) []).snd,
    Q :=
      asksL
        (nameL qa qf qb qc qd qe qh ql sp pc ad va ki ba)
        (pkL Bx nb)
        (sym.cutL x.zs (0 : Nat) ((0 : Nat) + x.k) (2 : Nat)) [],
    ak :=
      (asksL
          (nameL qa qf qb qc qd qe qh ql sp pc ad va ki ba)
          (pkL Bx nb)
          (sym.cutL x.zs (0 : Nat) ((0 : Nat) + x.k) (2 : Nat)) []).length,
    an := x_3.nl, ac := x_3.cap, b0 := x_2.1.1, b1 := x_2.1.2, b2 := x_2.1.3, b3 := x_2.1.4, b4 := x_2.1.5,
    b5 := x_2.1.6, b6 := x_2.1.7, b7 := x_2.1.8, b8 := x_2.1.9, b9 := x_2.1.10, b10 := x_2.1.11, b11 := x_2.1.12,
    b12 := x_2.1.13, b13 := x_2.1.14, b14 := x_2.1.15, b15 := x_2.1.16, b16 := x_2.1.17, b17 := x_2.1.18 })
 (.all fun x_4 : sym.Got cuZ
  (cuBack qa qf qb qc qd qe qh ql sp pc ad va ki ba AB Bx nb cb oqa oqf oqb oqc oqd oqe oqh
    oql osp opc oad ova oki oba AC Cx nc cc) =>
 (.leaf (.v (.one (.bool false (x_4.1.1)))))))))))))))))))))))))))))))))))))))))))))))))))))))))))))))))))))))))))))))))))))))))))))))))))))))))))))))))))))))))))))))))))))))))))))))))) := by kernel_rfl
def lbMu  (p : lbP) (x : lbX) : Nat := p.ak - x.i
theorem lb_step (w : World)  (p : lbP) (x : lbX)  (h : lbInv  p x) : Hid (roundT Try.prog w (flatT Try.prog) (noCtr) (callT Try.prog w (flatT Try.prog) (noCtr) (noPre) (noLoop) 20) ((noLoop) 5) (roundOf (bodyAt Try.prog 5 2)) 2 10 lbRo lbRf lbRb (lbSt  p) (lbFin  p) (lbBck  p) lbNxX lbNxY lbNxZ x) (Kept (lbInv  p) (lbPost  p) (lbBack  p) (lbMu  p) x) := by
  obtain ⟨Q, ak, an, ac, Q2, bk, bn, bc, vx, vf, vy, vg⟩ := p
  obtain ⟨i⟩ := x
  constructor
  rw [lbstep_tree]
  simp only [T.holds, Kept, lbMu, and_self, true_and, and_true]
  obtain ⟨i1, big, q1, q2, q3, n1, n2⟩ := h
  simp only at i1 big q1 q2 q3 n1 n2
  subst q3
  have z1 : (0 : Nat) + ((i : Nat) : Int).toNat = i := by simp
  rw [z1]
  refine ⟨fun hlt => ?_, fun _ => ⟨trivial⟩⟩
  have hlt : i < ak := by have := of_decide_eq_true hlt; omega
  have wi : IntKind.i64.wrap ((i : Int) + 1) = ((i + 1 : Nat) : Int) := by rw [wi64 _ (by omega) (by omega)]; omega
  have f1 : an = false := by
    cases an with
    | false => rfl
    | true => have := n1 rfl; omega
  have f2 : bn = false := by
    cases bn with
    | false => rfl
    | true => have := n2 rfl; omega
  rw [wi]
  simp only [Int.toNat_natCast, true_and, and_true]
  refine ⟨⟨f1, by omega, by omega⟩, ⟨f1, by omega⟩, ⟨f2, by omega, by omega⟩, ⟨f2, by omega⟩, fun hne => ?_, fun _ => ?_⟩
  · simp at hne
  · exact ⟨⟨by show i + 1 ≤ ak; omega, big, q1, q2, rfl, n1, n2⟩, by omega⟩
theorem lbLp_ok (w : World)   : (lbLp ).ok Try.prog w := by
  intro s t h
  unfold lbLp at h
  simp only at h
  split at h
  · rename_i p _
    split at h
    · rename_i x _
      cases h
      exact loop_ok base2 (ctrs_none _ w) (callT_ok base2.mixed base2.names base2.eqs (ctrs_none _ w).ok (ctrs_none _ w).there (pre_none _ _) (loops_none _ _) 20) ((loops_none _ _) 5) (c := roundOf (bodyAt Try.prog 5 2)) (by kernel_rfl) (id := 2) (n := 10) (hr := true) (ro := lbRo) (rf := lbRf) (rr := lbRb) (st := lbSt  p) (fin := lbFin  p) (bck := lbBck  p) (inv := lbInv  p) (post := lbPost  p) (back := lbBack  p) (nx := lbNxX) (fx := lbNxY) (bx := lbNxZ) (lbMu  p) (nf := 10) (nf' := 10) (nf'' := 10) (fun x => by kernel_rfl) (fun y => by kernel_rfl) (fun z => by kernel_rfl) (.inl rfl) (fun x hx => lb_step w  p x  hx) s x
    · cases h
  · cases h
theorem fpreR1_ok (w : World) : PreOk Try.prog w (fpreOf [runA w]) := fpreOf_ok fun c hc => by
  simp only [List.mem_cons, List.not_mem_nil, or_false] at hc
  subst hc
  exact runA_ok w
set_option maxHeartbeats 1000000 in
theorem ct_step (w : World) (qa qf qb qc qd qe qh ql sp pc : Int) (ad va ki ba : Int) (AB : Option Addr) (Bx : List Int) (nb cb : Nat) (oqa oqf oqb oqc oqd oqe oqh oql osp opc oad ova oki oba : Int) (AC : Option Addr) (Cx : List Int) (nc cc : Nat) (x : ctX) (hB : XR w AB [.u8] Bx nb) (h : ctInv qa qf qb qc qd qe qh ql sp pc ad va ki ba AB Bx nb cb oqa oqf oqb oqc oqd oqe oqh oql osp opc oad ova oki oba AC Cx nc cc x) : Hid (tailT Try.prog w (flatT Try.prog) (noCtr) (callT Try.prog w (flatT Try.prog) (noCtr) (fpreOf [runA w]) (lpOf Try.prog [lbLp]) 20) ((lpOf Try.prog [lbLp]) 5) (sufAt Try.prog 5 31) 9 ctRb (ctBck qa qf qb qc qd qe qh ql sp pc ad va ki ba AB Bx nb cb oqa oqf oqb oqc oqd oqe oqh oql osp opc oad ova oki oba AC Cx nc cc) ctNxZ (ctSt qa qf qb qc qd qe qh ql sp pc ad va ki ba AB Bx nb cb oqa oqf oqb oqc oqd oqe oqh oql osp opc oad ova oki oba AC Cx nc cc x)) (ctBack qa qf qb qc qd qe qh ql sp pc ad va ki ba AB Bx nb cb oqa oqf oqb oqc oqd oqe oqh oql osp opc oad ova oki oba AC Cx nc cc) := by
  obtain ⟨ln, L, m, cap, vx, vf, Q, ak, an, ac, wad, wva, wsp, wqb⟩ := x
  constructor
  rw [ctstep_tree]
  obtain ⟨hX, big, zl, zd, zn, zb, eq, aq⟩ := h
  simp only at hX big zl zd zn zb eq aq
  simp only [T.holds, true_and, and_true, and_self]
  rw [eq, ← aq]
  refine ⟨⟨hB, hX, by omega⟩, fun x => ⟨fun hne => ?_, fun _ => ⟨⟨Nat.zero_le _, by show ak ≤ 1000000; omega, zl, rfl, rfl, fun h => (zn h).1, fun h => (x.nil h).1⟩, fun b => ⟨fun _ y => ⟨fun _ => ⟨by show (vf == vf) = true; simp⟩, fun h => ?_⟩, fun _ z => z.so.no.elim⟩⟩⟩⟩
  · simp [zl] at hne
  · simp at h
theorem ctLp_ok (w : World) (qa qf qb qc qd qe qh ql sp pc : Int) (ad va ki ba : Int) (AB : Option Addr) (Bx : List Int) (nb cb : Nat) (oqa oqf oqb oqc oqd oqe oqh oql osp opc oad ova oki oba : Int) (AC : Option Addr) (Cx : List Int) (nc cc : Nat) (hB : XR w AB [.u8] Bx nb) : (ctLp qa qf qb qc qd qe qh ql sp pc ad va ki ba AB Bx nb cb oqa oqf oqb oqc oqd oqe oqh oql osp opc oad ova oki oba AC Cx nc cc).ok Try.prog w := by
  intro s t h
  unfold ctLp at h
  simp only at h
  split at h
  · rename_i x _
    cases h
    exact cut_ok base2 (ctrs_none _ w) (callT_ok base2.mixed base2.names base2.eqs (ctrs_none _ w).ok (ctrs_none _ w).there (fpreR1_ok w) (lps_ok (ls := [lbLp]) fun l hl => by (simp only [List.mem_cons, List.not_mem_nil, or_false] at hl; subst hl; exact lbLp_ok w)) 20) ((lps_ok (ls := [lbLp]) fun l hl => by (simp only [List.mem_cons, List.not_mem_nil, or_false] at hl; subst hl; exact lbLp_ok w)) 5) (c := sufAt Try.prog 5 31) (id := 20031) (n := 9) (ro := ctRo) (rr := ctRb) (st := ctSt qa qf qb qc qd qe qh ql sp pc ad va ki ba AB Bx nb cb oqa oqf oqb oqc oqd oqe oqh oql osp opc oad ova oki oba AC Cx nc cc) (bck := ctBck qa qf qb qc qd qe qh ql sp pc ad va ki ba AB Bx nb cb oqa oqf oqb oqc oqd oqe oqh oql osp opc oad ova oki oba AC Cx nc cc) (inv := ctInv qa qf qb qc qd qe qh ql sp pc ad va ki ba AB Bx nb cb oqa oqf oqb oqc oqd oqe oqh oql osp opc oad ova oki oba AC Cx nc cc) (back := ctBack qa qf qb qc qd qe qh ql sp pc ad va ki ba AB Bx nb cb oqa oqf oqb oqc oqd oqe oqh oql osp opc oad ova oki oba AC Cx nc cc) (bx := ctNxZ) (nf := 9) (nf'' := 9) (fun x => by kernel_rfl) (fun z => by kernel_rfl) (fun x hx => ct_step w qa qf qb qc qd qe qh ql sp pc ad va ki ba AB Bx nb cb oqa oqf oqb oqc oqd oqe oqh oql osp opc oad ova oki oba AC Cx nc cc x hB hx) s x
  · cases h
set_option maxHeartbeats 2000000 in
theorem cu_step (w : World) (qa qf qb qc qd qe qh ql sp pc : Int) (ad va ki ba : Int) (AB : Option Addr) (Bx : List Int) (nb cb : Nat) (oqa oqf oqb oqc oqd oqe oqh oql osp opc oad ova oki oba : Int) (AC : Option Addr) (Cx : List Int) (nc cc : Nat) (x : cuX) (hB : XR w AB [.u8] Bx nb) (h : cuInv qa qf qb qc qd qe qh ql sp pc ad va ki ba AB Bx nb cb oqa oqf oqb oqc oqd oqe oqh oql osp opc oad ova oki oba AC Cx nc cc x) : Hid (tailT Try.prog w (flatT Try.prog) (noCtr) (callT Try.prog w (flatT Try.prog) (noCtr) (noPre) (lpOf Try.prog [ctLp qa qf qb qc qd qe qh ql sp pc ad va ki ba AB Bx nb cb oqa oqf oqb oqc oqd oqe oqh oql osp opc oad ova oki oba AC Cx nc cc]) 20) ((lpOf Try.prog [ctLp qa qf qb qc qd qe qh ql sp pc ad va ki ba AB Bx nb cb oqa oqf oqb oqc oqd oqe oqh oql osp opc oad ova oki oba AC Cx nc cc]) 5) (sufAt Try.prog 5 22) 8 cuRb (cuBck qa qf qb qc qd qe qh ql sp pc ad va ki ba AB Bx nb cb oqa oqf oqb oqc oqd oqe oqh oql osp opc oad ova oki oba AC Cx nc cc) cuNxZ (cuSt qa qf qb qc qd qe qh ql sp pc ad va ki ba AB Bx nb cb oqa oqf oqb oqc oqd oqe oqh oql osp opc oad ova oki oba AC Cx nc cc x)) (cuBack qa qf qb qc qd qe qh ql sp pc ad va ki ba AB Bx nb cb oqa oqf oqb oqc oqd oqe oqh oql osp opc oad ova oki oba AC Cx nc cc) := by
  obtain ⟨ln, L, m, cap, vx, vf, Q, ak, an, ac, b0, b1, b2, b3, b4, b5, b6, b7, b8, b9, b10, b11, b12, b13, b14, b15, b16, b17⟩ := x
  constructor
  rw [custep_tree]
  obtain ⟨hX, big, zl, zd, zn, zb, eq, aq, nm⟩ := h
  simp only at hX big zl zd zn zb eq aq nm
  have key : ∀ (wad wva wsp wqb : Int), (b14 = true → wad = ad) → (b15 = true → wva = va) → (b12 = true → wsp = sp) → (b2 = true → wqb = qb) → (b9 = true → wqb = qb) → ctInv qa qf qb qc qd qe qh ql sp pc ad va ki ba AB Bx nb cb oqa oqf oqb oqc oqd oqe oqh oql osp opc oad ova oki oba AC Cx nc cc { ln := ln, L := L, m := m, cap := cap, vx := vx, vf := vf, Q := Q, ak := ak, an := an, ac := ac, wad := wad, wva := wva, wsp := wsp, wqb := wqb } := fun wad wva wsp wqb h1 h2 h3 h4 h5 => by
    have hl := hX.1
    have ag : Agree (nameL qa qf qb qc qd qe qh ql sp pc ad va ki ba) (nameL qa qf wqb qc qd qe qh ql wsp pc wad wva ki ba) L := agree_of fun j hj h => by
      obtain ⟨g1, g2, g3, g4, g5⟩ := nm j (by omega) h
      exact name_same qa qf qb qc qd qe qh ql sp pc ad va ki ba wad wva wsp wqb _ (fun h => h1 (g1 h)) (fun h => h2 (g2 h)) (fun h => h3 (g3 h)) (fun h => h4 (g4 h)) (fun h => h5 (g5 h))
    obtain ⟨a1, a2⟩ := agree_eval (pkL Bx nb) L [] ag
    exact ⟨hX, big, zl, zd, zn, zb, a1.symm.trans eq, aq.trans a2⟩
  clear hX big zl zd zn zb eq aq nm hB
  have fin : ∀ z : sym.Got ctZ (ctBack qa qf qb qc qd qe qh ql sp pc ad va ki ba AB Bx nb cb oqa oqf oqb oqc oqd oqe oqh oql osp opc oad ova oki oba AC Cx nc cc), cuBack qa qf qb qc qd qe qh ql sp pc ad va ki ba AB Bx nb cb oqa oqf oqb oqc oqd oqe oqh oql osp opc oad ova oki oba AC Cx nc cc { r := z.it.r } := fun z => ⟨z.so.so⟩
  simp only [T.holds, true_and, and_true, and_self, Bool.not_eq_true', Bool.not_eq_false']
  repeat' (first | exact fin | (refine And.intro ?_ ?_) | (intro (_ : _ = _)) | (refine key _ _ _ _ ?_ ?_ ?_ ?_ ?_))
  all_goals first | exact rfl | (exfalso; simp_all; done)
theorem cuLp_ok (w : World) (qa qf qb qc qd qe qh ql sp pc : Int) (ad va ki ba : Int) (AB : Option Addr) (Bx : List Int) (nb cb : Nat) (oqa oqf oqb oqc oqd oqe oqh oql osp opc oad ova oki oba : Int) (AC : Option Addr) (Cx : List Int) (nc cc : Nat) (hB : XR w AB [.u8] Bx nb) : (cuLp qa qf qb qc qd qe qh ql sp pc ad va ki ba AB Bx nb cb oqa oqf oqb oqc oqd oqe oqh oql osp opc oad ova oki oba AC Cx nc cc).ok Try.prog w := by
  intro s t h
  unfold cuLp at h
  simp only at h
  split at h
  · rename_i x _
    cases h
    exact cut_ok base2 (ctrs_none _ w) (callT_ok base2.mixed base2.names base2.eqs (ctrs_none _ w).ok (ctrs_none _ w).there (pre_none _ _) (lps_ok (ls := [ctLp qa qf qb qc qd qe qh ql sp pc ad va ki ba AB Bx nb cb oqa oqf oqb oqc oqd oqe oqh oql osp opc oad ova oki oba AC Cx nc cc]) fun l hl => by (simp only [List.mem_cons, List.not_mem_nil, or_false] at hl; subst hl; exact ctLp_ok w qa qf qb qc qd qe qh ql sp pc ad va ki ba AB Bx nb cb oqa oqf oqb oqc oqd oqe oqh oql osp opc oad ova oki oba AC Cx nc cc hB)) 20) ((lps_ok (ls := [ctLp qa qf qb qc qd qe qh ql sp pc ad va ki ba AB Bx nb cb oqa oqf oqb oqc oqd oqe oqh oql osp opc oad ova oki oba AC Cx nc cc]) fun l hl => by (simp only [List.mem_cons, List.not_mem_nil, or_false] at hl; subst hl; exact ctLp_ok w qa qf qb qc qd qe qh ql sp pc ad va ki ba AB Bx nb cb oqa oqf oqb oqc oqd oqe oqh oql osp opc oad ova oki oba AC Cx nc cc hB)) 5) (c := sufAt Try.prog 5 22) (id := 20022) (n := 8) (ro := cuRo) (rr := cuRb) (st := cuSt qa qf qb qc qd qe qh ql sp pc ad va ki ba AB Bx nb cb oqa oqf oqb oqc oqd oqe oqh oql osp opc oad ova oki oba AC Cx nc cc) (bck := cuBck qa qf qb qc qd qe qh ql sp pc ad va ki ba AB Bx nb cb oqa oqf oqb oqc oqd oqe oqh oql osp opc oad ova oki oba AC Cx nc cc) (inv := cuInv qa qf qb qc qd qe qh ql sp pc ad va ki ba AB Bx nb cb oqa oqf oqb oqc oqd oqe oqh oql osp opc oad ova oki oba AC Cx nc cc) (back := cuBack qa qf qb qc qd qe qh ql sp pc ad va ki ba AB Bx nb cb oqa oqf oqb oqc oqd oqe oqh oql osp opc oad ova oki oba AC Cx nc cc) (bx := cuNxZ) (nf := 8) (nf'' := 8) (fun x => by kernel_rfl) (fun z => by kernel_rfl) (fun x hx => cu_step w qa qf qb qc qd qe qh ql sp pc ad va ki ba AB Bx nb cb oqa oqf oqb oqc oqd oqe oqh oql osp opc oad ova oki oba AC Cx nc cc x hB hx) s x
  · cases h
end Go.Proofs.Ytmbahohmiecfiaa
