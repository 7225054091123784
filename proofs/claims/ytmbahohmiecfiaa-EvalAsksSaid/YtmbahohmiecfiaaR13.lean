/-
  Values are read: signs ahead, brackets, and signs between, level by level. Texts have at most 1000 bytes, and go at most 20 deep.
-/
import Derived.Test.YtmbahohmiecfiaaR12
namespace Go.Proofs.Ytmbahohmiecfiaa
open Go.RowKit sym
set_option linter.unusedVariables false
set_option linter.unusedSimpArgs false
set_option maxRecDepth 100000
/-- The row that a block's cell is of. -/
def hgX (s : ASt) (r q : Nat) : Option (List Int) := match hS s r q with
  | some (.gs r' _ _ _ _ _) => match s.h[r']? with
    | some k => match k.cells with
      | [.row _ _ xs _] => some xs
      | _ => none
    | none => none
  | some .nos => some []
  | _ => none
def hgN (s : ASt) (r q : Nat) : Option Bool := match hS s r q with
  | some (.gs _ nl _ _ _ _) => some nl
  | some .nos => some true
  | _ => none
def hgL (s : ASt) (r q : Nat) : Option Nat := match hS s r q with
  | some (.gs _ _ _ _ len _) => some len
  | some .nos => some 0
  | _ => none
def hgC (s : ASt) (r q : Nat) : Option Nat := match hS s r q with
  | some (.gs _ _ _ _ _ cap) => some cap
  | some .nos => some 0
  | _ => none
structure NxOk (tx : ByteArray) (a : Int) (xs : List Int) (m : Nat) (a' : Int) (nl : Bool) (zs : List Int) (k cap : Nat) (e : Int) : Prop where
  ha : a ≤ a' ∧ a' ≤ tx.size
  hl : zs.length = k * 2
  hc : k ≤ cap ∧ cap ≤ maxLen
  nil : nl = true → k = 0 ∧ cap = 0
  le : (k : Int) + 2 * (tx.size - a') ≤ (m : Int) + 2 * (tx.size - a) + 1
  i6 : ∀ j, J6 (zs.getD j 0)
  ok : e = 0 → ∃ ys, One ys ∧ zs = xs ++ ys
def levelC (q : Nat) : FCtr := ⟨34, fun args h => match args, rdOf h with
  | [.v (.one (.ptr 1 0)), .v (.one (.int _ .i64 n))], some r => some (.chk ((r.so ∧ RdOk r.s r.a r.nl r.xs r.m r.cap r.d) ∧ r.e = 0 ∧ (r.m : Int) + 2 * (r.s.size - r.a) ≤ 4000 ∧ 0 ≤ n ∧ n ≤ 10 ∧ (20 - r.d) * 14 + (12 - n) < q) (nxT r.s r.a r.xs r.m r.d))
  | _, _ => none⟩
def thingC (q : Nat) : FCtr := ⟨37, fun args h => match args, rdOf h with
  | [.v (.one (.ptr 1 0))], some r => some (.chk ((r.so ∧ RdOk r.s r.a r.nl r.xs r.m r.cap r.d) ∧ r.e = 0 ∧ (r.m : Int) + 2 * (r.s.size - r.a) ≤ 4000 ∧ (20 - r.d) * 14 + 1 < q) (nxT r.s r.a r.xs r.m r.d))
  | _, _ => none⟩
def aroundC (q : Nat) : FCtr := ⟨41, fun args h => match args, rdOf h with
  | [.v (.one (.ptr 1 0)), .v (.one (.int _ .u8 ends)), .v (.one (.int _ .i64 op))], some r => some (.chk ((r.so ∧ RdOk r.s r.a r.nl r.xs r.m r.cap r.d) ∧ r.e = 0 ∧ (r.m : Int) + 2 * (r.s.size - r.a) ≤ 4000 ∧ r.a < r.s.size ∧ (op = 0 ∨ (3 ≤ op ∧ op ≤ 6)) ∧ (20 - r.d) * 14 < q) (nxT r.s r.a r.xs r.m r.d))
  | _, _ => none⟩
structure lvP where
structure lvX where
  a : Int
  nl : Bool
  zs : List Int
  k : Nat
  cap : Nat
  e : Int
structure lvZ where
  a : Int
  nl : Bool
  zs : List Int
  k : Nat
  cap : Nat
  e : Int
def lvSt (L : Nat → Option Obj) (O : Nat → Bool) (tx : ByteArray) (a0 : Int) (xs : List Int) (m0 : Nat) (d lev : Int) (q : Nat) : lvP → lvX → ASt := fun ⟨⟩ ⟨a, nl, zs, k, cap, e⟩ => ⟨slots (List.replicate 61 .any) [(0, .v (.one (.ptr 1 0))), (1, .v (.one (.int false .i64 lev)))], [⟨[.keep L O], 0⟩, ⟨[.val (.string tx), .int false .i64 a, .gs 4 nl 2 0 k cap, .int false .i64 d, .int false .i64 e], 72⟩, ⟨[.dead], 60⟩, ⟨[.dead], 60⟩, ⟨[.row nl [.i64, .i64] zs cap], 60⟩]⟩
def lvFin (L : Nat → Option Obj) (O : Nat → Bool) (tx : ByteArray) (a0 : Int) (xs : List Int) (m0 : Nat) (d lev : Int) (q : Nat) : lvP → lvX → ASt := fun ⟨⟩ ⟨a, nl, zs, k, cap, e⟩ => ⟨slots (List.replicate 61 .any) [(0, .v (.one (.ptr 1 0))), (1, .v (.one (.int false .i64 lev)))], [⟨[.keep L O], 0⟩, ⟨[.val (.string tx), .int false .i64 a, .gs 4 nl 2 0 k cap, .int false .i64 d, .int false .i64 e], 72⟩, ⟨[.dead], 60⟩, ⟨[.dead], 60⟩, ⟨[.row nl [.i64, .i64] zs cap], 60⟩]⟩
def lvBck (L : Nat → Option Obj) (O : Nat → Bool) (tx : ByteArray) (a0 : Int) (xs : List Int) (m0 : Nat) (d lev : Int) (q : Nat) : lvP → lvZ → ASt := fun ⟨⟩ ⟨a, nl, zs, k, cap, e⟩ => ⟨slots (List.replicate 61 .any) [(0, .v (.one (.ptr 1 0)))], [⟨[.keep L O], 0⟩, ⟨[.val (.string tx), .int false .i64 a, .gs 4 nl 2 0 k cap, .int false .i64 d, .int false .i64 e], 72⟩, ⟨[.dead], 60⟩, ⟨[.dead], 60⟩, ⟨[.row nl [.i64, .i64] zs cap], 60⟩]⟩
def lvNxP : ASt → Option lvP := fun s => some ⟨⟩
def lvNxX : ASt → Option lvX := fun s => match hI s 1 1 with | none => none | some a => match hgN s 1 2 with | none => none | some nl => match hgX s 1 2 with | none => none | some zs => match hgL s 1 2 with | none => none | some k => match hgC s 1 2 with | none => none | some cap => match hI s 1 4 with | none => none | some e => some ⟨a, nl, zs, k, cap, e⟩
def lvNxZ : ASt → Option lvZ := fun s => match hI s 1 1 with | none => none | some a => match hgN s 1 2 with | none => none | some nl => match hgX s 1 2 with | none => none | some zs => match hgL s 1 2 with | none => none | some k => match hgC s 1 2 with | none => none | some cap => match hI s 1 4 with | none => none | some e => some ⟨a, nl, zs, k, cap, e⟩
def lvRo : ASt → List (Option Nat) := (fun s => [sym.rowIn s 1 2])
def lvRf : ASt → List (Option Nat) := (fun s => [sym.rowIn s 1 2])
def lvRb : ASt → List (Option Nat) := (fun s => [sym.rowIn s 1 2])
structure lvInv (L : Nat → Option Obj) (O : Nat → Bool) (tx : ByteArray) (a0 : Int) (xs : List Int) (m0 : Nat) (d lev : Int) (q : Nat) (p : lvP) (x : lvX) : Prop where
  so : NxOk tx a0 xs m0 x.a x.nl x.zs x.k x.cap x.e
  hn : 0 ≤ lev ∧ lev < 10
structure lvPost (L : Nat → Option Obj) (O : Nat → Bool) (tx : ByteArray) (a0 : Int) (xs : List Int) (m0 : Nat) (d lev : Int) (q : Nat) (p : lvP) (x : lvX) : Prop where
  so : NxOk tx a0 xs m0 x.a x.nl x.zs x.k x.cap x.e
structure lvBack (L : Nat → Option Obj) (O : Nat → Bool) (tx : ByteArray) (a0 : Int) (xs : List Int) (m0 : Nat) (d lev : Int) (q : Nat) (p : lvP) (x : lvZ) : Prop where
  so : NxOk tx a0 xs m0 x.a x.nl x.zs x.k x.cap x.e
def lvLp (L : Nat → Option Obj) (O : Nat → Bool) (tx : ByteArray) (a0 : Int) (xs : List Int) (m0 : Nat) (d lev : Int) (q : Nat) : Lp := ⟨34, 0, fun s => match lvNxP s with
  | some p => match lvNxX s with
    | some x => some (loopT 0 4 true lvRo (lvSt L O tx a0 xs m0 d lev q p) (lvFin L O tx a0 xs m0 d lev q p) (lvBck L O tx a0 xs m0 d lev q p) (lvInv L O tx a0 xs m0 d lev q p) (lvPost L O tx a0 xs m0 d lev q p) (lvBack L O tx a0 xs m0 d lev q p) s x)
    | none => none
  | none => none⟩
theorem lvstep_tree (w : World) (L : Nat → Option Obj) (O : Nat → Bool) (tx : ByteArray) (a0 : Int) (xs : List Int) (m0 : Nat) (d lev : Int) (q : Nat) (a : Int) (nl : Bool) (zs : List Int) (k : Nat) (cap : Nat) (e : Int) :
    roundT Try.prog w (flatT Try.prog) (noCtr) (callT Try.prog w (flatT Try.prog) (noCtr) (fpreOf [signC, spaceC, findC, numberC, nameC0, levelC q, thingC q, aroundC q]) (noLoop) 20) ((noLoop) 34) (roundOf (bodyAt Try.prog 34 0)) 0 4 lvRo lvRf lvRb (lvSt L O tx a0 xs m0 d lev q ⟨⟩) (lvFin L O tx a0 xs m0 d lev q ⟨⟩) (lvBck L O tx a0 xs m0 d lev q ⟨⟩) lvNxX lvNxX lvNxZ ⟨a, nl, zs, k, cap, e⟩ =
(.br (e == (0 : Int))
 (.chk ((nl = nl ∧ cap = cap) ∧ RdOk tx a nl zs k cap d)
 (.all fun x : { x // a ≤ x ∧ x ≤ (↑tx.size : Int) } =>
  (.chk ((nl = nl ∧ cap = cap) ∧ RdOk tx x.val nl zs k cap d)
  (.all fun x_1 : { x_2 //
  x_2 = (0 : Int) ∨
    (7 : Int) ≤ x_2 ∧ x_2 ≤ (24 : Int) ∧ x.val + (↑(sgS x_2).size : Int) ≤ (↑tx.size : Int) } =>
   (.br (x_1.val == (0 : Int))
    (.chk (L = L ∧ O = O)
    (.chk (Go.Value.string tx = Go.Value.string tx)
    (.chk (IntKind.i64 = IntKind.i64 ∧ x.val = x.val)
    (.chk (nl = nl ∧ (2 : Nat) = (2 : Nat) ∧ (0 : Nat) = (0 : Nat) ∧ k = k ∧ cap = cap)
    (.chk (IntKind.i64 = IntKind.i64 ∧ d = d)
    (.chk (IntKind.i64 = IntKind.i64 ∧ e = e)
    (.chk (nl = nl ∧ [IntKind.i64, IntKind.i64] = [IntKind.i64, IntKind.i64] ∧ zs = zs ∧ cap = cap)
    (.leaf (.inr (.inr ⟨x.val, nl, zs, k, cap, e⟩))))))))))
    (.br (sgL x_1.val != lev)
     (.chk (L = L ∧ O = O)
     (.chk (Go.Value.string tx = Go.Value.string tx)
     (.chk (IntKind.i64 = IntKind.i64 ∧ x.val = x.val)
     (.chk (nl = nl ∧ (2 : Nat) = (2 : Nat) ∧ (0 : Nat) = (0 : Nat) ∧ k = k ∧ cap = cap)
     (.chk (IntKind.i64 = IntKind.i64 ∧ d = d)
     (.chk (IntKind.i64 = IntKind.i64 ∧ e = e)
     (.chk (nl = nl ∧ [IntKind.i64, IntKind.i64] = [IntKind.i64, IntKind.i64] ∧ zs = zs ∧ cap = cap)
     (.leaf (.inr (.inr ⟨x.val, nl, zs, k, cap, e⟩))))))))))
     (.chk (((nl = nl ∧ cap = cap) ∧
    RdOk tx
      (IntKind.i64.wrap (x.val + (↑(sgS x_1.val).size : Int))) nl zs k cap d) ∧
  e = (0 : Int) ∧
    (↑k : Int) +
          (2 : Int) *
            ((↑tx.size : Int) - IntKind.i64.wrap (x.val + (↑(sgS x_1.val).size : Int))) ≤
        (4000 : Int) ∧
      (0 : Int) ≤ IntKind.i64.wrap (lev + (1 : Int)) ∧
        IntKind.i64.wrap (lev + (1 : Int)) ≤ (10 : Int) ∧
          ((20 : Int) - d) * (14 : Int) + ((12 : Int) - IntKind.i64.wrap (lev + (1 : Int))) < (↑q : Int))
     (.all fun x_2 : Nx tx (IntKind.i64.wrap (x.val + (↑(sgS x_1.val).size : Int)))
  zs k =>
      (.chk (True ∧
  (x_2.nl = x_2.nl ∧
      (0 : Nat) = (0 : Nat) ∧
        x_2.cap = x_2.cap ∧
          x_2.k * [IntKind.i64, IntKind.i64].length ≤ x_2.zs.length ∧
            x_2.k ≤ x_2.cap ∧ x_2.cap ≤ Go.maxLen ∧ (x_2.nl = true → x_2.cap = (0 : Nat))) ∧
    (x_2.k + (1 : Nat)) * (16 : Nat) ≤ (140737488355328 : Nat))
      (.all fun x_3 : sym.Grown x_2.nl (1 : Nat) (x_2.k + (1 : Nat)) =>
       (.chk (IntKind.i64 = IntKind.i64 ∧ lev = lev)
       (.chk (L = L ∧ O = O)
       (.chk (Go.Value.string tx = Go.Value.string tx)
       (.chk (IntKind.i64 = IntKind.i64 ∧ x_2.a' = x_2.a')
       (.chk (x_3.nl' = x_3.nl' ∧
  [IntKind.i64, IntKind.i64].length = (2 : Nat) ∧
    (0 : Nat) = (0 : Nat) ∧ x_2.k + (1 : Nat) = x_2.k + (1 : Nat) ∧ x_3.cap = x_3.cap)
       (.chk (IntKind.i64 = IntKind.i64 ∧ d = d)
       (.chk (IntKind.i64 = IntKind.i64 ∧ x_2.e = x_2.e)
       (.chk (x_3.nl' = x_3.nl' ∧
  [IntKind.i64, IntKind.i64] = [IntKind.i64, IntKind.i64] ∧
    List.take (x_2.k * [IntKind.i64, IntKind.i64].length) x_2.zs ++ [x_1.val, (0 : Int)] =
        List.take (x_2.k * [IntKind.i64, IntKind.i64].length) x_2.zs ++ [x_1.val, (0 : Int)] ∧
      x_3.cap = x_3.cap)
       (.leaf (.inl ⟨x_2.a', x_3.nl', List.take (x_2.k * [IntKind.i64, IntKind.i64].length) x_2.zs ++ [x_1.val, (0 : Int)], x_2.k + (1 : Nat), x_3.cap, x_2.e⟩))))))))))))))))))))
 (.chk (IntKind.i64 = IntKind.i64 ∧ lev = lev)
 (.chk (L = L ∧ O = O)
 (.chk (Go.Value.string tx = Go.Value.string tx)
 (.chk (IntKind.i64 = IntKind.i64 ∧ a = a)
 (.chk (nl = nl ∧ (2 : Nat) = (2 : Nat) ∧ (0 : Nat) = (0 : Nat) ∧ k = k ∧ cap = cap)
 (.chk (IntKind.i64 = IntKind.i64 ∧ d = d)
 (.chk (IntKind.i64 = IntKind.i64 ∧ e = e)
 (.chk (nl = nl ∧ [IntKind.i64, IntKind.i64] = [IntKind.i64, IntKind.i64] ∧ zs = zs ∧ cap = cap)
 (.leaf (.inr (.inl ⟨a, nl, zs, k, cap, e⟩)))))))))))) := by kernel_rfl
theorem level_tree (w : World) (L : Nat → Option Obj) (O : Nat → Bool) (tx : ByteArray) (a : Int) (nl : Bool) (xs : List Int) (m cap : Nat) (d : Int) (q : Nat) (lev : Int) :
    bodyT Try.prog w (flatT Try.prog) (noCtr) (callT Try.prog w (flatT Try.prog) (noCtr) (fpreOf [signC, spaceC, findC, numberC, nameC0, levelC q, thingC q, aroundC q]) (lpOf Try.prog [lvLp L O tx a xs m d lev q]) 20) (lpOf Try.prog [lvLp L O tx a xs m d lev q]) 34 [.v (.one (.ptr 1 0)), .v (.one (.int false .i64 lev))] [⟨[.keep L O], 0⟩, ⟨[.val (.string tx), .int false .i64 a, .gs 2 nl 2 0 m cap, .int false .i64 d, .int true .i64 0], 72⟩, ⟨[.row nl [.i64, .i64] xs cap], 60⟩] =
(.br (lev == (10 : Int))
 (.chk (((nl = nl ∧ cap = cap) ∧ RdOk tx a nl xs m cap d) ∧
  (0 : Int) = (0 : Int) ∧
    (↑m : Int) + (2 : Int) * ((↑tx.size : Int) - a) ≤ (4000 : Int) ∧
      ((20 : Int) - d) * (14 : Int) + (1 : Int) < (↑q : Int))
 (.all fun x : Nx tx a xs m =>
  (.leaf ((.tuple []), [⟨[(.keep (L) (O))], 0⟩, ⟨[(.val (Go.Value.string tx)), (.int false .i64 (x.a')), (.gs 3 (x.nl) 2 0 (x.k) (x.cap)), (.int false .i64 (d)), (.int false .i64 (x.e))], 72⟩, ⟨[.dead], 60⟩, ⟨[(.row (x.nl) ([IntKind.i64, IntKind.i64]) (x.zs) (x.cap))], 60⟩]))))
 (.chk (((nl = nl ∧ cap = cap) ∧ RdOk tx a nl xs m cap d) ∧
  (0 : Int) = (0 : Int) ∧
    (↑m : Int) + (2 : Int) * ((↑tx.size : Int) - a) ≤ (4000 : Int) ∧
      (0 : Int) ≤ IntKind.i64.wrap (lev + (1 : Int)) ∧
        IntKind.i64.wrap (lev + (1 : Int)) ≤ (10 : Int) ∧
          ((20 : Int) - d) * (14 : Int) + ((12 : Int) - IntKind.i64.wrap (lev + (1 : Int))) < (↑q : Int))
 (.all fun x : Nx tx a xs m =>
  (.chk (sym.textAt Go.Proofs.Try.prog (34 : Go.FuncId) (0 : Nat) = sym.textAt Go.Proofs.Try.prog (34 : Go.FuncId) (0 : Nat))
  (.chk (IntKind.i64 = IntKind.i64 ∧ lev = lev)
  (.chk (L = L ∧ O = O)
  (.chk (Go.Value.string tx = Go.Value.string tx)
  (.chk (IntKind.i64 = IntKind.i64 ∧ x.a' = x.a')
  (.chk (x.nl = x.nl ∧ (2 : Nat) = (2 : Nat) ∧ (0 : Nat) = (0 : Nat) ∧ x.k = x.k ∧ x.cap = x.cap)
  (.chk (IntKind.i64 = IntKind.i64 ∧ d = d)
  (.chk (IntKind.i64 = IntKind.i64 ∧ x.e = x.e)
  (.chk (x.nl = x.nl ∧ [IntKind.i64, IntKind.i64] = [IntKind.i64, IntKind.i64] ∧ x.zs = x.zs ∧ x.cap = x.cap)
  (.chk (lvInv L O tx a xs m d lev q { }
  { a := x.a', nl := x.nl, zs := x.zs, k := x.k, cap := x.cap, e := x.e })
  (.all fun x_1 : Bool =>
   (.br (x_1)
    (.all fun x_2 : sym.Got lvX
  (lvPost L O tx a xs m d lev q { }) =>
     (.leaf ((.tuple []), [⟨[(.keep (L) (O))], 0⟩, ⟨[(.val (Go.Value.string tx)), (.int false .i64 (x_2.1.1)), (.gs 4 (x_2.1.2) 2 0 (x_2.1.4) (x_2.1.5)), (.int false .i64 (d)), (.int false .i64 (x_2.1.6))], 72⟩, ⟨[.dead], 60⟩, ⟨[.dead], 60⟩, ⟨[(.row (x_2.1.2) ([IntKind.i64, IntKind.i64]) (x_2.1.3) (x_2.1.5))], 60⟩])))
    (.all fun x_2 : sym.Got lvZ
  (lvBack L O tx a xs m d lev q { }) =>
     (.leaf ((.tuple []), [⟨[(.keep (L) (O))], 0⟩, ⟨[(.val (Go.Value.string tx)), (.int false .i64 (x_2.1.1)), (.gs 4 (x_2.1.2) 2 0 (x_2.1.4) (x_2.1.5)), (.int false .i64 (d)), (.int false .i64 (x_2.1.6))], 72⟩, ⟨[.dead], 60⟩, ⟨[.dead], 60⟩, ⟨[(.row (x_2.1.2) ([IntKind.i64, IntKind.i64]) (x_2.1.3) (x_2.1.5))], 60⟩])))))))))))))))))) := by kernel_rfl
theorem thing_tree (w : World) (L : Nat → Option Obj) (O : Nat → Bool) (tx : ByteArray) (a : Int) (nl : Bool) (xs : List Int) (m cap : Nat) (d : Int) (q : Nat) :
    bodyT Try.prog w (flatT Try.prog) (noCtr) (callT Try.prog w (flatT Try.prog) (noCtr) (fpreOf [signC, spaceC, findC, numberC, nameC0, levelC q, thingC q, aroundC q]) (noLoop) 20) (noLoop) 37 [.v (.one (.ptr 1 0))] [⟨[.keep L O], 0⟩, ⟨[.val (.string tx), .int false .i64 a, .gs 2 nl 2 0 m cap, .int false .i64 d, .int true .i64 0], 72⟩, ⟨[.row nl [.i64, .i64] xs cap], 60⟩] =
(.chk ((nl = nl ∧ cap = cap) ∧ RdOk tx a nl xs m cap d)
(.all fun x : { x // a ≤ x ∧ x ≤ (↑tx.size : Int) } =>
 (.br (decide (x.val ≥ (↑tx.size : Int)))
  (.leaf ((.tuple []), [⟨[(.keep (L) (O))], 0⟩, ⟨[(.val (Go.Value.string tx)), (.int false .i64 (x.val)), (.gs 2 (nl) 2 0 (m) (cap)), (.int false .i64 (d)), (.int true .i64 (11))], 72⟩, ⟨[(.row (nl) ([IntKind.i64, IntKind.i64]) (xs) (cap))], 60⟩]))
  (.chk ((0 : Int) ≤ x.val ∧ x.val < (↑tx.size : Int))
  (.br (sym.byteAt tx x.val.toNat == (45 : Int))
   (.chk (((nl = nl ∧ cap = cap) ∧ RdOk tx x.val nl xs m cap d) ∧
  (0 : Int) = (0 : Int) ∧
    (↑m : Int) + (2 : Int) * ((↑tx.size : Int) - x.val) ≤ (4000 : Int) ∧
      x.val < (↑tx.size : Int) ∧
        ((4 : Int) = (0 : Int) ∨ (3 : Int) ≤ (4 : Int) ∧ (4 : Int) ≤ (6 : Int)) ∧
          ((20 : Int) - d) * (14 : Int) < (↑q : Int))
   (.all fun x_1 : Nx tx x.val xs m =>
    (.leaf ((.tuple []), [⟨[(.keep (L) (O))], 0⟩, ⟨[(.val (Go.Value.string tx)), (.int false .i64 (x_1.a')), (.gs 3 (x_1.nl) 2 0 (x_1.k) (x_1.cap)), (.int false .i64 (d)), (.int false .i64 (x_1.e))], 72⟩, ⟨[.dead], 60⟩, ⟨[(.row (x_1.nl) ([IntKind.i64, IntKind.i64]) (x_1.zs) (x_1.cap))], 60⟩]))))
   (.br (sym.byteAt tx x.val.toNat == (33 : Int))
    (.chk (((nl = nl ∧ cap = cap) ∧ RdOk tx x.val nl xs m cap d) ∧
  (0 : Int) = (0 : Int) ∧
    (↑m : Int) + (2 : Int) * ((↑tx.size : Int) - x.val) ≤ (4000 : Int) ∧
      x.val < (↑tx.size : Int) ∧
        ((5 : Int) = (0 : Int) ∨ (3 : Int) ≤ (5 : Int) ∧ (5 : Int) ≤ (6 : Int)) ∧
          ((20 : Int) - d) * (14 : Int) < (↑q : Int))
    (.all fun x_1 : Nx tx x.val xs m =>
     (.leaf ((.tuple []), [⟨[(.keep (L) (O))], 0⟩, ⟨[(.val (Go.Value.string tx)), (.int false .i64 (x_1.a')), (.gs 3 (x_1.nl) 2 0 (x_1.k) (x_1.cap)), (.int false .i64 (d)), (.int false .i64 (x_1.e))], 72⟩, ⟨[.dead], 60⟩, ⟨[(.row (x_1.nl) ([IntKind.i64, IntKind.i64]) (x_1.zs) (x_1.cap))], 60⟩]))))
    (.br (sym.byteAt tx x.val.toNat == (126 : Int))
     (.chk (((nl = nl ∧ cap = cap) ∧ RdOk tx x.val nl xs m cap d) ∧
  (0 : Int) = (0 : Int) ∧
    (↑m : Int) + (2 : Int) * ((↑tx.size : Int) - x.val) ≤ (4000 : Int) ∧
      x.val < (↑tx.size : Int) ∧
        ((6 : Int) = (0 : Int) ∨ (3 : Int) ≤ (6 : Int) ∧ (6 : Int) ≤ (6 : Int)) ∧
          ((20 : Int) - d) * (14 : Int) < (↑q : Int))
     (.all fun x_1 : Nx tx x.val xs m =>
      (.leaf ((.tuple []), [⟨[(.keep (L) (O))], 0⟩, ⟨[(.val (Go.Value.string tx)), (.int false .i64 (x_1.a')), (.gs 3 (x_1.nl) 2 0 (x_1.k) (x_1.cap)), (.int false .i64 (d)), (.int false .i64 (x_1.e))], 72⟩, ⟨[.dead], 60⟩, ⟨[(.row (x_1.nl) ([IntKind.i64, IntKind.i64]) (x_1.zs) (x_1.cap))], 60⟩]))))
     (.br (sym.byteAt tx x.val.toNat == (40 : Int))
      (.chk (((nl = nl ∧ cap = cap) ∧ RdOk tx x.val nl xs m cap d) ∧
  (0 : Int) = (0 : Int) ∧
    (↑m : Int) + (2 : Int) * ((↑tx.size : Int) - x.val) ≤ (4000 : Int) ∧
      x.val < (↑tx.size : Int) ∧
        ((0 : Int) = (0 : Int) ∨ (3 : Int) ≤ (0 : Int) ∧ (0 : Int) ≤ (6 : Int)) ∧
          ((20 : Int) - d) * (14 : Int) < (↑q : Int))
      (.all fun x_1 : Nx tx x.val xs m =>
       (.leaf ((.tuple []), [⟨[(.keep (L) (O))], 0⟩, ⟨[(.val (Go.Value.string tx)), (.int false .i64 (x_1.a')), (.gs 3 (x_1.nl) 2 0 (x_1.k) (x_1.cap)), (.int false .i64 (d)), (.int false .i64 (x_1.e))], 72⟩, ⟨[.dead], 60⟩, ⟨[(.row (x_1.nl) ([IntKind.i64, IntKind.i64]) (x_1.zs) (x_1.cap))], 60⟩]))))
      (.br (sym.byteAt tx x.val.toNat == (91 : Int))
       (.chk (((nl = nl ∧ cap = cap) ∧ RdOk tx x.val nl xs m cap d) ∧
  (0 : Int) = (0 : Int) ∧
    (↑m : Int) + (2 : Int) * ((↑tx.size : Int) - x.val) ≤ (4000 : Int) ∧
      x.val < (↑tx.size : Int) ∧
        ((3 : Int) = (0 : Int) ∨ (3 : Int) ≤ (3 : Int) ∧ (3 : Int) ≤ (6 : Int)) ∧
          ((20 : Int) - d) * (14 : Int) < (↑q : Int))
       (.all fun x_1 : Nx tx x.val xs m =>
        (.leaf ((.tuple []), [⟨[(.keep (L) (O))], 0⟩, ⟨[(.val (Go.Value.string tx)), (.int false .i64 (x_1.a')), (.gs 3 (x_1.nl) 2 0 (x_1.k) (x_1.cap)), (.int false .i64 (d)), (.int false .i64 (x_1.e))], 72⟩, ⟨[.dead], 60⟩, ⟨[(.row (x_1.nl) ([IntKind.i64, IntKind.i64]) (x_1.zs) (x_1.cap))], 60⟩]))))
       (.br (sym.byteAt tx x.val.toNat == (36 : Int))
        (.chk (((nl = nl ∧ cap = cap) ∧ RdOk tx x.val nl xs m cap d) ∧
  (0 : Int) = (0 : Int) ∧
    x.val ≤ IntKind.i64.wrap (x.val + (1 : Int)) ∧ IntKind.i64.wrap (x.val + (1 : Int)) ≤ (↑tx.size : Int))
        (.all fun x_1 : Nx tx x.val xs m =>
         (.leaf ((.tuple []), [⟨[(.keep (L) (O))], 0⟩, ⟨[(.val (Go.Value.string tx)), (.int false .i64 (x_1.a')), (.gs 3 (x_1.nl) 2 0 (x_1.k) (x_1.cap)), (.int false .i64 (d)), (.int false .i64 (x_1.e))], 72⟩, ⟨[.dead], 60⟩, ⟨[(.row (x_1.nl) ([IntKind.i64, IntKind.i64]) (x_1.zs) (x_1.cap))], 60⟩]))))
        (.br (decide (sym.byteAt tx x.val.toNat ≥ (97 : Int)))
         (.br (decide (sym.byteAt tx x.val.toNat ≤ (122 : Int)))
          (.chk (((nl = nl ∧ cap = cap) ∧ RdOk tx x.val nl xs m cap d) ∧ (0 : Int) = (0 : Int))
          (.all fun x_1 : Nx tx x.val xs m =>
           (.leaf ((.tuple []), [⟨[(.keep (L) (O))], 0⟩, ⟨[(.val (Go.Value.string tx)), (.int false .i64 (x_1.a')), (.gs 3 (x_1.nl) 2 0 (x_1.k) (x_1.cap)), (.int false .i64 (d)), (.int false .i64 (x_1.e))], 72⟩, ⟨[.dead], 60⟩, ⟨[(.row (x_1.nl) ([IntKind.i64, IntKind.i64]) (x_1.zs) (x_1.cap))], 60⟩]))))
          (.chk (((nl = nl ∧ cap = cap) ∧ RdOk tx x.val nl xs m cap d) ∧
  (0 : Int) = (0 : Int) ∧ x.val ≤ x.val ∧ x.val ≤ (↑tx.size : Int))
          (.all fun x_1 : Nx tx x.val xs m =>
           (.leaf ((.tuple []), [⟨[(.keep (L) (O))], 0⟩, ⟨[(.val (Go.Value.string tx)), (.int false .i64 (x_1.a')), (.gs 3 (x_1.nl) 2 0 (x_1.k) (x_1.cap)), (.int false .i64 (d)), (.int false .i64 (x_1.e))], 72⟩, ⟨[.dead], 60⟩, ⟨[(.row (x_1.nl) ([IntKind.i64, IntKind.i64]) (x_1.zs) (x_1.cap))], 60⟩])))))
         (.chk (((nl = nl ∧ cap = cap) ∧ RdOk tx x.val nl xs m cap d) ∧
  (0 : Int) = (0 : Int) ∧ x.val ≤ x.val ∧ x.val ≤ (↑tx.size : Int))
         (.all fun x_1 : Nx tx x.val xs m =>
          (.leaf ((.tuple []), [⟨[(.keep (L) (O))], 0⟩, ⟨[(.val (Go.Value.string tx)), (.int false .i64 (x_1.a')), (.gs 3 (x_1.nl) 2 0 (x_1.k) (x_1.cap)), (.int false .i64 (d)), (.int false .i64 (x_1.e))], 72⟩, ⟨[.dead], 60⟩, ⟨[(.row (x_1.nl) ([IntKind.i64, IntKind.i64]) (x_1.zs) (x_1.cap))], 60⟩]))))))))))))))) := by kernel_rfl
theorem around_tree (w : World) (L : Nat → Option Obj) (O : Nat → Bool) (tx : ByteArray) (a : Int) (nl : Bool) (xs : List Int) (m cap : Nat) (d : Int) (q : Nat) (ends op : Int) :
    bodyT Try.prog w (flatT Try.prog) (noCtr) (callT Try.prog w (flatT Try.prog) (noCtr) (fpreOf [signC, spaceC, findC, numberC, nameC0, levelC q, thingC q, aroundC q]) (noLoop) 20) (noLoop) 41 [.v (.one (.ptr 1 0)), .v (.one (.int false .u8 ends)), .v (.one (.int false .i64 op))] [⟨[.keep L O], 0⟩, ⟨[.val (.string tx), .int false .i64 a, .gs 2 nl 2 0 m cap, .int false .i64 d, .int true .i64 0], 72⟩, ⟨[.row nl [.i64, .i64] xs cap], 60⟩] =
(.br (d == (20 : Int))
 (.leaf ((.tuple []), [⟨[(.keep (L) (O))], 0⟩, ⟨[(.val (Go.Value.string tx)), (.int false .i64 (a)), (.gs 2 (nl) 2 0 (m) (cap)), (.int false .i64 (d)), (.int true .i64 (12))], 72⟩, ⟨[(.row (nl) ([IntKind.i64, IntKind.i64]) (xs) (cap))], 60⟩]))
 (.br (ends == (0 : Int))
  (.chk (((nl = nl ∧ cap = cap) ∧
    RdOk tx (IntKind.i64.wrap (a + (1 : Int))) nl xs m cap
      (IntKind.i64.wrap (d + (1 : Int)))) ∧
  (0 : Int) = (0 : Int) ∧
    (↑m : Int) + (2 : Int) * ((↑tx.size : Int) - IntKind.i64.wrap (a + (1 : Int))) ≤ (4000 : Int) ∧
      ((20 : Int) - IntKind.i64.wrap (d + (1 : Int))) * (14 : Int) + (1 : Int) < (↑q : Int))
  (.all fun x : Nx tx (IntKind.i64.wrap (a + (1 : Int))) xs m =>
   (.br (decide (op > (0 : Int)))
    (.chk (True ∧
  (x.nl = x.nl ∧
      (0 : Nat) = (0 : Nat) ∧
        x.cap = x.cap ∧
          x.k * [IntKind.i64, IntKind.i64].length ≤ x.zs.length ∧
            x.k ≤ x.cap ∧ x.cap ≤ Go.maxLen ∧ (x.nl = true → x.cap = (0 : Nat))) ∧
    (x.k + (1 : Nat)) * (16 : Nat) ≤ (140737488355328 : Nat))
    (.all fun x_1 : sym.Grown x.nl (1 : Nat) (x.k + (1 : Nat)) =>
     (.leaf ((.tuple []), [⟨[(.keep (L) (O))], 0⟩, ⟨[(.val (Go.Value.string tx)), (.int false .i64 (x.a')), (.gs 5 (x_1.nl') 2 0 (x.k + (1 : Nat)) (x_1.cap)), (.int false .i64 (IntKind.i64.wrap (IntKind.i64.wrap (d + (1 : Int)) - (1 : Int)))), (.int false .i64 (x.e))], 72⟩, ⟨[.dead], 60⟩, ⟨[.dead], 60⟩, ⟨[(.int false .i64 (op)), (.int true .i64 (0))], 60⟩, ⟨[(.row (x_1.nl') ([IntKind.i64, IntKind.i64]) (List.take (x.k * [IntKind.i64, IntKind.i64].length) x.zs ++ [op, (0 : Int)]) (x_1.cap))], 60⟩]))))
    (.leaf ((.tuple []), [⟨[(.keep (L) (O))], 0⟩, ⟨[(.val (Go.Value.string tx)), (.int false .i64 (x.a')), (.gs 3 (x.nl) 2 0 (x.k) (x.cap)), (.int false .i64 (IntKind.i64.wrap (IntKind.i64.wrap (d + (1 : Int)) - (1 : Int)))), (.int false .i64 (x.e))], 72⟩, ⟨[.dead], 60⟩, ⟨[(.row (x.nl) ([IntKind.i64, IntKind.i64]) (x.zs) (x.cap))], 60⟩])))))
  (.chk (((nl = nl ∧ cap = cap) ∧
    RdOk tx (IntKind.i64.wrap (a + (1 : Int))) nl xs m cap
      (IntKind.i64.wrap (d + (1 : Int)))) ∧
  (0 : Int) = (0 : Int) ∧
    (↑m : Int) + (2 : Int) * ((↑tx.size : Int) - IntKind.i64.wrap (a + (1 : Int))) ≤ (4000 : Int) ∧
      (0 : Int) ≤ (0 : Int) ∧
        (0 : Int) ≤ (10 : Int) ∧
          ((20 : Int) - IntKind.i64.wrap (d + (1 : Int))) * (14 : Int) + ((12 : Int) - (0 : Int)) < (↑q : Int))
  (.all fun x : Nx tx (IntKind.i64.wrap (a + (1 : Int))) xs m =>
   (.br (x.e == (0 : Int))
    (.chk ((x.nl = x.nl ∧ x.cap = x.cap) ∧
  RdOk tx x.a' x.nl x.zs x.k x.cap (IntKind.i64.wrap (d + (1 : Int))))
    (.all fun x_1 : { x_2 // x.a' ≤ x_2 ∧ x_2 ≤ (↑tx.size : Int) } =>
     (.br (x.e == (0 : Int))
      (.br (decide (x_1.val ≥ (↑tx.size : Int)))
       (.br (decide (op > (0 : Int)))
        (.chk (True ∧
  (x.nl = x.nl ∧
      (0 : Nat) = (0 : Nat) ∧
        x.cap = x.cap ∧
          x.k * [IntKind.i64, IntKind.i64].length ≤ x.zs.length ∧
            x.k ≤ x.cap ∧ x.cap ≤ Go.maxLen ∧ (x.nl = true → x.cap = (0 : Nat))) ∧
    (x.k + (1 : Nat)) * (16 : Nat) ≤ (140737488355328 : Nat))
        (.all fun x_2 : sym.Grown x.nl (1 : Nat) (x.k + (1 : Nat)) =>
         (.leaf ((.tuple []), [⟨[(.keep (L) (O))], 0⟩, ⟨[(.val (Go.Value.string tx)), (.int false .i64 (x_1.val)), (.gs 5 (x_2.nl') 2 0 (x.k + (1 : Nat)) (x_2.cap)), (.int false .i64 (IntKind.i64.wrap (IntKind.i64.wrap (d + (1 : Int)) - (1 : Int)))), (.int true .i64 (11))], 72⟩, ⟨[.dead], 60⟩, ⟨[.dead], 60⟩, ⟨[(.int false .i64 (op)), (.int true .i64 (0))], 60⟩, ⟨[(.row (x_2.nl') ([IntKind.i64, IntKind.i64]) (List.take (x.k * [IntKind.i64, IntKind.i64].length) x.zs ++ [op, (0 : Int)]) (x_2.cap))], 60⟩]))))
        (.leaf ((.tuple []), [⟨[(.keep (L) (O))], 0⟩, ⟨[(.val (Go.Value.string tx)), (.int false .i64 (x_1.val)), (.gs 3 (x.nl) 2 0 (x.k) (x.cap)), (.int false .i64 (IntKind.i64.wrap (IntKind.i64.wrap (d + (1 : Int)) - (1 : Int)))), (.int true .i64 (11))], 72⟩, ⟨[.dead], 60⟩, ⟨[(.row (x.nl) ([IntKind.i64, IntKind.i64]) (x.zs) (x.cap))], 60⟩])))
       (.chk ((0 : Int) ≤ x_1.val ∧ x_1.val < (↑tx.size : Int))
       (.br (sym.byteAt tx x_1.val.toNat != ends)
        (.br (decide (op > (0 : Int)))
         (.chk (True ∧
  (x.nl = x.nl ∧
      (0 : Nat) = (0 : Nat) ∧
        x.cap = x.cap ∧
          x.k * [IntKind.i64, IntKind.i64].length ≤ x.zs.length ∧
            x.k ≤ x.cap ∧ x.cap ≤ Go.maxLen ∧ (x.nl = true → x.cap = (0 : Nat))) ∧
    (x.k + (1 : Nat)) * (16 : Nat) ≤ (140737488355328 : Nat))
         (.all fun x_2 : sym.Grown x.nl (1 : Nat) (x.k + (1 : Nat)) =>
          (.leaf ((.tuple []), [⟨[(.keep (L) (O))], 0⟩, ⟨[(.val (Go.Value.string tx)), (.int false .i64 (x_1.val)), (.gs 5 (x_2.nl') 2 0 (x.k + (1 : Nat)) (x_2.cap)), (.int false .i64 (IntKind.i64.wrap (IntKind.i64.wrap (d + (1 : Int)) - (1 : Int)))), (.int true .i64 (11))], 72⟩, ⟨[.dead], 60⟩, ⟨[.dead], 60⟩, ⟨[(.int false .i64 (op)), (.int true .i64 (0))], 60⟩, ⟨[(.row (x_2.nl') ([IntKind.i64, IntKind.i64]) (List.take (x.k * [IntKind.i64, IntKind.i64].length) x.zs ++ [op, (0 : Int)]) (x_2.cap))], 60⟩]))))
         (.leaf ((.tuple []), [⟨[(.keep (L) (O))], 0⟩, ⟨[(.val (Go.Value.string tx)), (.int false .i64 (x_1.val)), (.gs 3 (x.nl) 2 0 (x.k) (x.cap)), (.int false .i64 (IntKind.i64.wrap (IntKind.i64.wrap (d + (1 : Int)) - (1 : Int)))), (.int true .i64 (11))], 72⟩, ⟨[.dead], 60⟩, ⟨[(.row (x.nl) ([IntKind.i64, IntKind.i64]) (x.zs) (x.cap))], 60⟩])))
        (.br (x.e == (0 : Int))
         (.br (decide (op > (0 : Int)))
          (.chk (True ∧
  (x.nl = x.nl ∧
      (0 : Nat) = (0 : Nat) ∧
        x.cap = x.cap ∧
          x.k * [IntKind.i64, IntKind.i64].length ≤ x.zs.length ∧
            x.k ≤ x.cap ∧ x.cap ≤ Go.maxLen ∧ (x.nl = true → x.cap = (0 : Nat))) ∧
    (x.k + (1 : Nat)) * (16 : Nat) ≤ (140737488355328 : Nat))
          (.all fun x_2 : sym.Grown x.nl (1 : Nat) (x.k + (1 : Nat)) =>
           (.leaf ((.tuple []), [⟨[(.keep (L) (O))], 0⟩, ⟨[(.val (Go.Value.string tx)), (.int false .i64 (IntKind.i64.wrap (x_1.val + (1 : Int)))), (.gs 5 (x_2.nl') 2 0 (x.k + (1 : Nat)) (x_2.cap)), (.int false .i64 (IntKind.i64.wrap (IntKind.i64.wrap (d + (1 : Int)) - (1 : Int)))), (.int false .i64 (x.e))], 72⟩, ⟨[.dead], 60⟩, ⟨[.dead], 60⟩, ⟨[(.int false .i64 (op)), (.int true .i64 (0))], 60⟩, ⟨[(.row (x_2.nl') ([IntKind.i64, IntKind.i64]) (List.take (x.k * [IntKind.i64, IntKind.i64].length) x.zs ++ [op, (0 : Int)]) (x_2.cap))], 60⟩]))))
          (.leaf ((.tuple []), [⟨[(.keep (L) (O))], 0⟩, ⟨[(.val (Go.Value.string tx)), (.int false .i64 (IntKind.i64.wrap (x_1.val + (1 : Int)))), (.gs 3 (x.nl) 2 0 (x.k) (x.cap)), (.int false .i64 (IntKind.i64.wrap (IntKind.i64.wrap (d + (1 : Int)) - (1 : Int)))), (.int false .i64 (x.e))], 72⟩, ⟨[.dead], 60⟩, ⟨[(.row (x.nl) ([IntKind.i64, IntKind.i64]) (x.zs) (x.cap))], 60⟩])))
         (.br (decide (op > (0 : Int)))
          (.chk (True ∧
  (x.nl = x.nl ∧
      (0 : Nat) = (0 : Nat) ∧
        x.cap = x.cap ∧
          x.k * [IntKind.i64, IntKind.i64].length ≤ x.zs.length ∧
            x.k ≤ x.cap ∧ x.cap ≤ Go.maxLen ∧ (x.nl = true → x.cap = (0 : Nat))) ∧
    (x.k + (1 : Nat)) * (16 : Nat) ≤ (140737488355328 : Nat))
          (.all fun x_2 : sym.Grown x.nl (1 : Nat) (x.k + (1 : Nat)) =>
           (.leaf ((.tuple []), [⟨[(.keep (L) (O))], 0⟩, ⟨[(.val (Go.Value.string tx)), (.int false .i64 (x_1.val)), (.gs 5 (x_2.nl') 2 0 (x.k + (1 : Nat)) (x_2.cap)), (.int false .i64 (IntKind.i64.wrap (IntKind.i64.wrap (d + (1 : Int)) - (1 : Int)))), (.int false .i64 (x.e))], 72⟩, ⟨[.dead], 60⟩, ⟨[.dead], 60⟩, ⟨[(.int false .i64 (op)), (.int true .i64 (0))], 60⟩, ⟨[(.row (x_2.nl') ([IntKind.i64, IntKind.i64]) (List.take (x.k * [IntKind.i64, IntKind.i64].length) x.zs ++ [op, (0 : Int)]) (x_2.cap))], 60⟩]))))
          (.leaf ((.tuple []), [⟨[(.keep (L) (O))], 0⟩, ⟨[(.val (Go.Value.string tx)), (.int false .i64 (x_1.val)), (.gs 3 (x.nl) 2 0 (x.k) (x.cap)), (.int false .i64 (IntKind.i64.wrap (IntKind.i64.wrap (d + (1 : Int)) - (1 : Int)))), (.int false .i64 (x.e))], 72⟩, ⟨[.dead], 60⟩, ⟨[(.row (x.nl) ([IntKind.i64, IntKind.i64]) (x.zs) (x.cap))], 60⟩])))))))
      (.br (x.e == (0 : Int))
       (.br (decide (op > (0 : Int)))
        (.chk (True ∧
  (x.nl = x.nl ∧
      (0 : Nat) = (0 : Nat) ∧
        x.cap = x.cap ∧
          x.k * [IntKind.i64, IntKind.i64].length ≤ x.zs.length ∧
            x.k ≤ x.cap ∧ x.cap ≤ Go.maxLen ∧ (x.nl = true → x.cap = (0 : Nat))) ∧
    (x.k + (1 : Nat)) * (16 : Nat) ≤ (140737488355328 : Nat))
        (.all fun x_2 : sym.Grown x.nl (1 : Nat) (x.k + (1 : Nat)) =>
         (.leaf ((.tuple []), [⟨[(.keep (L) (O))], 0⟩, ⟨[(.val (Go.Value.string tx)), (.int false .i64 (IntKind.i64.wrap (x_1.val + (1 : Int)))), (.gs 5 (x_2.nl') 2 0 (x.k + (1 : Nat)) (x_2.cap)), (.int false .i64 (IntKind.i64.wrap (IntKind.i64.wrap (d + (1 : Int)) - (1 : Int)))), (.int false .i64 (x.e))], 72⟩, ⟨[.dead], 60⟩, ⟨[.dead], 60⟩, ⟨[(.int false .i64 (op)), (.int true .i64 (0))], 60⟩, ⟨[(.row (x_2.nl') ([IntKind.i64, IntKind.i64]) (List.take (x.k * [IntKind.i64, IntKind.i64].length) x.zs ++ [op, (0 : Int)]) (x_2.cap))], 60⟩]))))
        (.leaf ((.tuple []), [⟨[(.keep (L) (O))], 0⟩, ⟨[(.val (Go.Value.string tx)), (.int false .i64 (IntKind.i64.wrap (x_1.val + (1 : Int)))), (.gs 3 (x.nl) 2 0 (x.k) (x.cap)), (.int false .i64 (IntKind.i64.wrap (IntKind.i64.wrap (d + (1 : Int)) - (1 : Int)))), (.int false .i64 (x.e))], 72⟩, ⟨[.dead], 60⟩, ⟨[(.row (x.nl) ([IntKind.i64, IntKind.i64]) (x.zs) (x.cap))], 60⟩])))
       (.br (decide (op > (0 : Int)))
        (.chk (True ∧
  (x.nl = x.nl ∧
      (0 : Nat) = (0 : Nat) ∧
        x.cap = x.cap ∧
          x.k * [IntKind.i64, IntKind.i64].length ≤ x.zs.length ∧
            x.k ≤ x.cap ∧ x.cap ≤ Go.maxLen ∧ (x.nl = true → x.cap = (0 : Nat))) ∧
    (x.k + (1 : Nat)) * (16 : Nat) ≤ (140737488355328 : Nat))
        (.all fun x_2 : sym.Grown x.nl (1 : Nat) (x.k + (1 : Nat)) =>
         (.leaf ((.tuple []), [⟨[(.keep (L) (O))], 0⟩, ⟨[(.val (Go.Value.string tx)), (.int false .i64 (x_1.val)), (.gs 5 (x_2.nl') 2 0 (x.k + (1 : Nat)) (x_2.cap)), (.int false .i64 (IntKind.i64.wrap (IntKind.i64.wrap (d + (1 : Int)) - (1 : Int)))), (.int false .i64 (x.e))], 72⟩, ⟨[.dead], 60⟩, ⟨[.dead], 60⟩, ⟨[(.int false .i64 (op)), (.int true .i64 (0))], 60⟩, ⟨[(.row (x_2.nl') ([IntKind.i64, IntKind.i64]) (List.take (x.k * [IntKind.i64, IntKind.i64].length) x.zs ++ [op, (0 : Int)]) (x_2.cap))], 60⟩]))))
        (.leaf ((.tuple []), [⟨[(.keep (L) (O))], 0⟩, ⟨[(.val (Go.Value.string tx)), (.int false .i64 (x_1.val)), (.gs 3 (x.nl) 2 0 (x.k) (x.cap)), (.int false .i64 (IntKind.i64.wrap (IntKind.i64.wrap (d + (1 : Int)) - (1 : Int)))), (.int false .i64 (x.e))], 72⟩, ⟨[.dead], 60⟩, ⟨[(.row (x.nl) ([IntKind.i64, IntKind.i64]) (x.zs) (x.cap))], 60⟩])))))))
    (.br (x.e == (0 : Int))
     (.br (decide (x.a' ≥ (↑tx.size : Int)))
      (.br (decide (op > (0 : Int)))
       (.chk (True ∧
  (x.nl = x.nl ∧
      (0 : Nat) = (0 : Nat) ∧
        x.cap = x.cap ∧
          x.k * [IntKind.i64, IntKind.i64].length ≤ x.zs.length ∧
            x.k ≤ x.cap ∧ x.cap ≤ Go.maxLen ∧ (x.nl = true → x.cap = (0 : Nat))) ∧
    (x.k + (1 : Nat)) * (16 : Nat) ≤ (140737488355328 : Nat))
       (.all fun x_1 : sym.Grown x.nl (1 : Nat) (x.k + (1 : Nat)) =>
        (.leaf ((.tuple []), [⟨[(.keep (L) (O))], 0⟩, ⟨[(.val (Go.Value.string tx)), (.int false .i64 (x.a')), (.gs 5 (x_1.nl') 2 0 (x.k + (1 : Nat)) (x_1.cap)), (.int false .i64 (IntKind.i64.wrap (IntKind.i64.wrap (d + (1 : Int)) - (1 : Int)))), (.int true .i64 (11))], 72⟩, ⟨[.dead], 60⟩, ⟨[.dead], 60⟩, ⟨[(.int false .i64 (op)), (.int true .i64 (0))], 60⟩, ⟨[(.row (x_1.nl') ([IntKind.i64, IntKind.i64]) (List.take (x.k * [IntKind.i64, IntKind.i64].length) x.zs ++ [op, (0 : Int)]) (x_1.cap))], 60⟩]))))
       (.leaf ((.tuple []), [⟨[(.keep (L) (O))], 0⟩, ⟨[(.val (Go.Value.string tx)), (.int false .i64 (x.a')), (.gs 3 (x.nl) 2 0 (x.k) (x.cap)), (.int false .i64 (IntKind.i64.wrap (IntKind.i64.wrap (d + (1 : Int)) - (1 : Int)))), (.int true .i64 (11))], 72⟩, ⟨[.dead], 60⟩, ⟨[(.row (x.nl) ([IntKind.i64, IntKind.i64]) (x.zs) (x.cap))], 60⟩])))
      (.chk ((0 : Int) ≤ x.a' ∧ x.a' < (↑tx.size : Int))
      (.br (sym.byteAt tx x.a'.toNat != ends)
       (.br (decide (op > (0 : Int)))
        (.chk (True ∧
  (x.nl = x.nl ∧
      (0 : Nat) = (0 : Nat) ∧
        x.cap = x.cap ∧
          x.k * [IntKind.i64, IntKind.i64].length ≤ x.zs.length ∧
            x.k ≤ x.cap ∧ x.cap ≤ Go.maxLen ∧ (x.nl = true → x.cap = (0 : Nat))) ∧
    (x.k + (1 : Nat)) * (16 : Nat) ≤ (140737488355328 : Nat))
        (.all fun x_1 : sym.Grown x.nl (1 : Nat) (x.k + (1 : Nat)) =>
         (.leaf ((.tuple []), [⟨[(.keep (L) (O))], 0⟩, ⟨[(.val (Go.Value.string tx)), (.int false .i64 (x.a')), (.gs 5 (x_1.nl') 2 0 (x.k + (1 : Nat)) (x_1.cap)), (.int false .i64 (IntKind.i64.wrap (IntKind.i64.wrap (d + (1 : Int)) - (1 : Int)))), (.int true .i64 (11))], 72⟩, ⟨[.dead], 60⟩, ⟨[.dead], 60⟩, ⟨[(.int false .i64 (op)), (.int true .i64 (0))], 60⟩, ⟨[(.row (x_1.nl') ([IntKind.i64, IntKind.i64]) (List.take (x.k * [IntKind.i64, IntKind.i64].length) x.zs ++ [op, (0 : Int)]) (x_1.cap))], 60⟩]))))
        (.leaf ((.tuple []), [⟨[(.keep (L) (O))], 0⟩, ⟨[(.val (Go.Value.string tx)), (.int false .i64 (x.a')), (.gs 3 (x.nl) 2 0 (x.k) (x.cap)), (.int false .i64 (IntKind.i64.wrap (IntKind.i64.wrap (d + (1 : Int)) - (1 : Int)))), (.int true .i64 (11))], 72⟩, ⟨[.dead], 60⟩, ⟨[(.row (x.nl) ([IntKind.i64, IntKind.i64]) (x.zs) (x.cap))], 60⟩])))
       (.br (x.e == (0 : Int))
        (.br (decide (op > (0 : Int)))
         (.chk (True ∧
  (x.nl = x.nl ∧
      (0 : Nat) = (0 : Nat) ∧
        x.cap = x.cap ∧
          x.k * [IntKind.i64, IntKind.i64].length ≤ x.zs.length ∧
            x.k ≤ x.cap ∧ x.cap ≤ Go.maxLen ∧ (x.nl = true → x.cap = (0 : Nat))) ∧
    (x.k + (1 : Nat)) * (16 : Nat) ≤ (140737488355328 : Nat))
         (.all fun x_1 : sym.Grown x.nl (1 : Nat) (x.k + (1 : Nat)) =>
          (.leaf ((.tuple []), [⟨[(.keep (L) (O))], 0⟩, ⟨[(.val (Go.Value.string tx)), (.int false .i64 (IntKind.i64.wrap (x.a' + (1 : Int)))), (.gs 5 (x_1.nl') 2 0 (x.k + (1 : Nat)) (x_1.cap)), (.int false .i64 (IntKind.i64.wrap (IntKind.i64.wrap (d + (1 : Int)) - (1 : Int)))), (.int false .i64 (x.e))], 72⟩, ⟨[.dead], 60⟩, ⟨[.dead], 60⟩, ⟨[(.int false .i64 (op)), (.int true .i64 (0))], 60⟩, ⟨[(.row (x_1.nl') ([IntKind.i64, IntKind.i64]) (List.take (x.k * [IntKind.i64, IntKind.i64].length) x.zs ++ [op, (0 : Int)]) (x_1.cap))], 60⟩]))))
         (.leaf ((.tuple []), [⟨[(.keep (L) (O))], 0⟩, ⟨[(.val (Go.Value.string tx)), (.int false .i64 (IntKind.i64.wrap (x.a' + (1 : Int)))), (.gs 3 (x.nl) 2 0 (x.k) (x.cap)), (.int false .i64 (IntKind.i64.wrap (IntKind.i64.wrap (d + (1 : Int)) - (1 : Int)))), (.int false .i64 (x.e))], 72⟩, ⟨[.dead], 60⟩, ⟨[(.row (x.nl) ([IntKind.i64, IntKind.i64]) (x.zs) (x.cap))], 60⟩])))
        (.br (decide (op > (0 : Int)))
         (.chk (True ∧
  (x.nl = x.nl ∧
      (0 : Nat) = (0 : Nat) ∧
        x.cap = x.cap ∧
          x.k * [IntKind.i64, IntKind.i64].length ≤ x.zs.length ∧
            x.k ≤ x.cap ∧ x.cap ≤ Go.maxLen ∧ (x.nl = true → x.cap = (0 : Nat))) ∧
    (x.k + (1 : Nat)) * (16 : Nat) ≤ (140737488355328 : Nat))
         (.all fun x_1 : sym.Grown x.nl (1 : Nat) (x.k + (1 : Nat)) =>
          (.leaf ((.tuple []), [⟨[(.keep (L) (O))], 0⟩, ⟨[(.val (Go.Value.string tx)), (.int false .i64 (x.a')), (.gs 5 (x_1.nl') 2 0 (x.k + (1 : Nat)) (x_1.cap)), (.int false .i64 (IntKind.i64.wrap (IntKind.i64.wrap (d + (1 : Int)) - (1 : Int)))), (.int false .i64 (x.e))], 72⟩, ⟨[.dead], 60⟩, ⟨[.dead], 60⟩, ⟨[(.int false .i64 (op)), (.int true .i64 (0))], 60⟩, ⟨[(.row (x_1.nl') ([IntKind.i64, IntKind.i64]) (List.take (x.k * [IntKind.i64, IntKind.i64].length) x.zs ++ [op, (0 : Int)]) (x_1.cap))], 60⟩]))))
         (.leaf ((.tuple []), [⟨[(.keep (L) (O))], 0⟩, ⟨[(.val (Go.Value.string tx)), (.int false .i64 (x.a')), (.gs 3 (x.nl) 2 0 (x.k) (x.cap)), (.int false .i64 (IntKind.i64.wrap (IntKind.i64.wrap (d + (1 : Int)) - (1 : Int)))), (.int false .i64 (x.e))], 72⟩, ⟨[.dead], 60⟩, ⟨[(.row (x.nl) ([IntKind.i64, IntKind.i64]) (x.zs) (x.cap))], 60⟩])))))))
     (.br (x.e == (0 : Int))
      (.br (decide (op > (0 : Int)))
       (.chk (True ∧
  (x.nl = x.nl ∧
      (0 : Nat) = (0 : Nat) ∧
        x.cap = x.cap ∧
          x.k * [IntKind.i64, IntKind.i64].length ≤ x.zs.length ∧
            x.k ≤ x.cap ∧ x.cap ≤ Go.maxLen ∧ (x.nl = true → x.cap = (0 : Nat))) ∧
    (x.k + (1 : Nat)) * (16 : Nat) ≤ (140737488355328 : Nat))
       (.all fun x_1 : sym.Grown x.nl (1 : Nat) (x.k + (1 : Nat)) =>
        (.leaf ((.tuple []), [⟨[(.keep (L) (O))], 0⟩, ⟨[(.val (Go.Value.string tx)), (.int false .i64 (IntKind.i64.wrap (x.a' + (1 : Int)))), (.gs 5 (x_1.nl') 2 0 (x.k + (1 : Nat)) (x_1.cap)), (.int false .i64 (IntKind.i64.wrap (IntKind.i64.wrap (d + (1 : Int)) - (1 : Int)))), (.int false .i64 (x.e))], 72⟩, ⟨[.dead], 60⟩, ⟨[.dead], 60⟩, ⟨[(.int false .i64 (op)), (.int true .i64 (0))], 60⟩, ⟨[(.row (x_1.nl') ([IntKind.i64, IntKind.i64]) (List.take (x.k * [IntKind.i64, IntKind.i64].length) x.zs ++ [op, (0 : Int)]) (x_1.cap))], 60⟩]))))
       (.leaf ((.tuple []), [⟨[(.keep (L) (O))], 0⟩, ⟨[(.val (Go.Value.string tx)), (.int false .i64 (IntKind.i64.wrap (x.a' + (1 : Int)))), (.gs 3 (x.nl) 2 0 (x.k) (x.cap)), (.int false .i64 (IntKind.i64.wrap (IntKind.i64.wrap (d + (1 : Int)) - (1 : Int)))), (.int false .i64 (x.e))], 72⟩, ⟨[.dead], 60⟩, ⟨[(.row (x.nl) ([IntKind.i64, IntKind.i64]) (x.zs) (x.cap))], 60⟩])))
      (.br (decide (op > (0 : Int)))
       (.chk (True ∧
  (x.nl = x.nl ∧
      (0 : Nat) = (0 : Nat) ∧
        x.cap = x.cap ∧
          x.k * [IntKind.i64, IntKind.i64].length ≤ x.zs.length ∧
            x.k ≤ x.cap ∧ x.cap ≤ Go.maxLen ∧ (x.nl = true → x.cap = (0 : Nat))) ∧
    (x.k + (1 : Nat)) * (16 : Nat) ≤ (140737488355328 : Nat))
       (.all fun x_1 : sym.Grown x.nl (1 : Nat) (x.k + (1 : Nat)) =>
        (.leaf ((.tuple []), [⟨[(.keep (L) (O))], 0⟩, ⟨[(.val (Go.Value.string tx)), (.int false .i64 (x.a')), (.gs 5 (x_1.nl') 2 0 (x.k + (1 : Nat)) (x_1.cap)), (.int false .i64 (IntKind.i64.wrap (IntKind.i64.wrap (d + (1 : Int)) - (1 : Int)))), (.int false .i64 (x.e))], 72⟩, ⟨[.dead], 60⟩, ⟨[.dead], 60⟩, ⟨[(.int false .i64 (op)), (.int true .i64 (0))], 60⟩, ⟨[(.row (x_1.nl') ([IntKind.i64, IntKind.i64]) (List.take (x.k * [IntKind.i64, IntKind.i64].length) x.zs ++ [op, (0 : Int)]) (x_1.cap))], 60⟩]))))
       (.leaf ((.tuple []), [⟨[(.keep (L) (O))], 0⟩, ⟨[(.val (Go.Value.string tx)), (.int false .i64 (x.a')), (.gs 3 (x.nl) 2 0 (x.k) (x.cap)), (.int false .i64 (IntKind.i64.wrap (IntKind.i64.wrap (d + (1 : Int)) - (1 : Int)))), (.int false .i64 (x.e))], 72⟩, ⟨[.dead], 60⟩, ⟨[(.row (x.nl) ([IntKind.i64, IntKind.i64]) (x.zs) (x.cap))], 60⟩])))))))))) := by kernel_rfl
def NxOk.nx {tx : ByteArray} {a : Int} {xs : List Int} {m : Nat} {a' : Int} {nl : Bool} {zs : List Int} {k cap : Nat} {e : Int} (h : NxOk tx a xs m a' nl zs k cap e) : Nx tx a xs m := ⟨a', nl, zs, k, cap, e, h.ha, h.hl, h.hc, h.nil, h.le, h.i6, h.ok⟩
theorem Nx.so {tx : ByteArray} {a : Int} {xs : List Int} {m : Nat} (r : Nx tx a xs m) : NxOk tx a xs m r.a' r.nl r.zs r.k r.cap r.e := ⟨r.ha, r.hl, r.hc, r.nil, r.le, r.i6, r.ok⟩
/-- What came of what is behind a sign ahead, or a bracket. -/
def nxKeep {tx : ByteArray} {a : Int} {xs : List Int} {m : Nat} (x : Nx tx (a + 1) xs m) (a2 : Int) (h1 : x.a' ≤ a2) (h2 : a2 ≤ tx.size) (e2 : Int) (he : e2 = 0 → x.e = 0) : Nx tx a xs m :=
  ⟨a2, x.nl, x.zs, x.k, x.cap, e2, ⟨by have := x.ha; omega, h2⟩, x.hl, x.hc, x.nil, by have := x.le; omega, x.i6, fun h => x.ok (he h)⟩
def nxApp {tx : ByteArray} {a : Int} {xs : List Int} {m : Nat} (x : Nx tx (a + 1) xs m) (a2 : Int) (h1 : x.a' ≤ a2) (h2 : a2 ≤ tx.size) (e2 : Int) (he : e2 = 0 → x.e = 0) (op : Int) (o1 : 3 ≤ op) (o2 : op ≤ 6) (g : Grown x.nl 1 (x.k + 1)) : Nx tx a xs m :=
  ⟨a2, g.nl', x.zs ++ [op, 0], x.k + 1, g.cap, e2, ⟨by have := x.ha; omega, h2⟩, by rw [List.length_append, x.hl]; show x.k * 2 + 2 = (x.k + 1) * 2; omega, ⟨g.le, g.max⟩, (rowR g).nil, by have := x.le; omega, i6_app x.i6 (fun y hy => by
    simp only [List.mem_cons, List.not_mem_nil, or_false] at hy
    rcases hy with rfl | rfl
    · exact ⟨by omega, by omega⟩
    · exact ⟨by decide, by decide⟩), fun h => by
    obtain ⟨ys, h1, h2⟩ := x.ok (he h)
    exact ⟨ys ++ [op, 0], .un op ys o1 o2 h1, by rw [h2, List.append_assoc]⟩⟩
theorem grow_ok {nl : Bool} {zs : List Int} {k cap : Nat} {s : Int} {a : Int} (hl : zs.length = k * 2) (hc : k ≤ cap ∧ cap ≤ maxLen) (nil : nl = true → k = 0 ∧ cap = 0) (h : (k : Int) ≤ 100000) : True ∧ (nl = nl ∧ (0 : Nat) = (0 : Nat) ∧ cap = cap ∧ k * [IntKind.i64, IntKind.i64].length ≤ zs.length ∧ k ≤ cap ∧ cap ≤ Go.maxLen ∧ (nl = true → cap = (0 : Nat))) ∧ (k + (1 : Nat)) * (16 : Nat) ≤ (140737488355328 : Nat) :=
  ⟨trivial, ⟨rfl, rfl, rfl, by show k * 2 ≤ zs.length; omega, hc.1, hc.2, fun h => (nil h).2⟩, by omega⟩
def ptab (q : Nat) : List FCtr := [signC, spaceC, findC, numberC, nameC0, levelC q, thingC q, aroundC q]
def POk (w : World) (q : Nat) : Prop := (levelC q).Ok Try.prog w ∧ (thingC q).Ok Try.prog w ∧ (aroundC q).Ok Try.prog w
theorem fpre3_ok (w : World) (q : Nat) (h : POk w q) : PreOk Try.prog w (fpreOf [signC, spaceC, findC, numberC, nameC0, levelC q, thingC q, aroundC q]) := fpreOf_ok fun c hc => by
  simp only [List.mem_cons, List.not_mem_nil, or_false] at hc
  rcases hc with rfl | rfl | rfl | rfl | rfl | rfl | rfl | rfl
  · exact signC_ok w
  · exact spaceC_ok w
  · exact findC_ok w
  · exact numberC_ok w
  · exact nameC0_ok w
  · exact h.1
  · exact h.2.1
  · exact h.2.2
theorem aroundC_ok (w0 : World) (q : Nat) (hq : POk w0 q) : (aroundC (q + 1)).Ok Try.prog w0 := by
  refine ⟨fun args h t h0 L O => ?_⟩
  unfold aroundC at h0
  simp only at h0
  split at h0
  · rename_i l ends l2 op r hr
    cases h0
    refine CallOne.asks fun ⟨⟨so, ok⟩, he, hm, hlt, hop, hq2⟩ => ?_
    obtain ⟨tx, a, nl, xs, m, cap, d, e, p⟩ := r
    simp only at so ok he hm hlt hop hq2
    subst he
    refine rd_weak (args' := [.v (.one (.ptr 1 0)), .v (.one (.int false .u8 ends)), .v (.one (.int false .i64 op))]) hr so L O true (fun n ro h' t hn ht => by refine ptr_le hn ?_; exact ⟨⟨rfl, rfl⟩, ⟨rfl, rfl⟩, ht⟩) (by kernel_rfl) (one_rec base2 (ctrs_none _ _) (fpre3_ok w0 q hq) (n := 20) fun K hK => ⟨noLoop, loops_none _ _, ?_⟩)
    replace hK := T.of_chk hK
    show T.holds (bodyT Try.prog w0 (flatT Try.prog) (noCtr) (callT Try.prog w0 (flatT Try.prog) (noCtr) (fpreOf [signC, spaceC, findC, numberC, nameC0, levelC q, thingC q, aroundC q]) (noLoop) 20) (noLoop) 41 [.v (.one (.ptr 1 0)), .v (.one (.int false .u8 ends)), .v (.one (.int false .i64 op))] [⟨[.keep L O], 0⟩, ⟨[.val (.string tx), .int false .i64 a, .gs 2 nl 2 0 m cap, .int false .i64 d, .int true .i64 0], 72⟩, ⟨[.row nl [.i64, .i64] xs cap], 60⟩]) _
    rw [around_tree]
    have a0 := ok.at_
    have a1 := ok.sz
    have d0 := ok.dp
    have e1 : IntKind.i64.wrap (a + (1 : Int)) = a + 1 := wi64 _ (by omega) (by omega)
    have e2 : IntKind.i64.wrap (d + (1 : Int)) = d + 1 := wi64 _ (by omega) (by omega)
    have e3 : IntKind.i64.wrap (d + 1 - (1 : Int)) = d := by rw [wi64 _ (by omega) (by omega)]; omega
    rw [e1, e2, e3]
    refine ⟨fun _ => ⟨_, _, T.of_all hK (nxFail ok a ⟨Int.le_refl _, a0.2⟩ 12 (by decide)), as_end [some 2] (by repeat' (first | exact trivial | exact rfl | exact take2 ok.l | exact congrArg (· ++ _) (take2 ok.l) | (refine And.intro ?_ ?_))) (by kernel_rfl) (fun h => by cases h)⟩, fun hd => ?_⟩
    have hd : d ≠ 20 := by simpa using hd
    have ok1 : RdOk tx (a + 1) nl xs m cap (d + 1) := ⟨⟨by omega, by omega⟩, a1, ⟨by omega, by omega⟩, ok.l, ok.c, ok.nil, by have := ok.le; omega, ok.i6⟩
    have key : ∀ (x : Nx tx (a + 1) xs m) (a2 : Int) (l : Bool) (e2 : Int), x.a' ≤ a2 → a2 ≤ tx.size → (e2 = 0 → x.e = 0) → T.holds (.br (decide (op > (0 : Int))) (.chk (True ∧ (x.nl = x.nl ∧ (0 : Nat) = (0 : Nat) ∧ x.cap = x.cap ∧ x.k * [IntKind.i64, IntKind.i64].length ≤ x.zs.length ∧ x.k ≤ x.cap ∧ x.cap ≤ Go.maxLen ∧ (x.nl = true → x.cap = (0 : Nat))) ∧ (x.k + (1 : Nat)) * (16 : Nat) ≤ (140737488355328 : Nat)) (.all fun g : Grown x.nl 1 (x.k + 1) => .leaf (.tuple [], [⟨[.keep L O], 0⟩, ⟨[.val (.string tx), .int false .i64 a2, .gs 5 g.nl' 2 0 (x.k + 1) g.cap, .int false .i64 d, .int l .i64 e2], 72⟩, ⟨[.dead], 60⟩, ⟨[.dead], 60⟩, ⟨[.int false .i64 op, .int true .i64 0], 60⟩, ⟨[.row g.nl' [.i64, .i64] (List.take (x.k * [IntKind.i64, IntKind.i64].length) x.zs ++ [op, 0]) g.cap], 60⟩]))) (.leaf (.tuple [], [⟨[.keep L O], 0⟩, ⟨[.val (.string tx), .int false .i64 a2, .gs 3 x.nl 2 0 x.k x.cap, .int false .i64 d, .int l .i64 e2], 72⟩, ⟨[.dead], 60⟩, ⟨[.row x.nl [.i64, .i64] x.zs x.cap], 60⟩]))) (fun r => ∃ y h2, K (y, h2) ∧ AsF 3 r.1 r.2 y (keepH L O h2)) := fun x a2 l e2 h1 h2 he => by
      have hl := x.hl
      refine ⟨fun ho => ⟨grow_ok (a := 0) (s := 0) x.hl x.hc x.nil (by have := x.le; omega), fun g => ?_⟩, fun _ => ?_⟩
      · have ho := of_decide_eq_true ho
        exact ⟨_, _, T.of_all hK (nxApp x a2 h1 h2 e2 he op (by omega) (by omega) g), as_end [some 5] (by repeat' (first | exact trivial | exact rfl | exact take2 hl | exact congrArg (· ++ _) (take2 hl) | (refine And.intro ?_ ?_))) (by kernel_rfl) (fun h => by cases h)⟩
      · exact ⟨_, _, T.of_all hK (nxKeep x a2 h1 h2 e2 he), as_end [some 3] (by repeat' (first | exact trivial | exact rfl | exact take2 hl | exact congrArg (· ++ _) (take2 hl) | (refine And.intro ?_ ?_))) (by kernel_rfl) (fun h => by cases h)⟩
    have no : ∀ {b : Bool} {C : Prop}, b = true → b = false → C := fun h1 h2 => by rw [h1] at h2; cases h2
    refine ⟨fun _ => ⟨⟨⟨⟨rfl, rfl⟩, ok1⟩, rfl, by omega, by omega⟩, fun x => key x x.a' false x.e (Int.le_refl _) x.ha.2 id⟩, fun _ => ⟨⟨⟨⟨rfl, rfl⟩, ok1⟩, rfl, by omega, by decide, by decide, by omega⟩, fun x => ?_⟩⟩
    have x1 := x.ha
    have x2 := x.le
    have ok2 : RdOk tx x.a' x.nl x.zs x.k x.cap (d + 1) := ⟨⟨by omega, x1.2⟩, a1, ⟨by omega, by omega⟩, x.hl, x.hc, x.nil, by omega, x.i6⟩
    refine ⟨fun he => ⟨⟨⟨rfl, rfl⟩, ok2⟩, fun y => ?_⟩, fun hne => ⟨fun he => no he hne, fun _ => ⟨fun he => no he hne, fun _ => key x x.a' false x.e (Int.le_refl _) x1.2 id⟩⟩⟩
    have hx : x.e = 0 := by simpa using he
    have y1 := y.2
    refine ⟨fun _ => ⟨fun _ => key x y.1 true 11 y1.1 y1.2 (fun h => by cases h), fun hy => ?_⟩, fun hne => no he hne⟩
    have hy : y.1 < (tx.size : Int) := by have := of_decide_eq_false hy; omega
    have ey : IntKind.i64.wrap (y.1 + (1 : Int)) = y.1 + 1 := wi64 _ (by omega) (by omega)
    exact ⟨⟨by omega, hy⟩, fun _ => key x y.1 true 11 y1.1 y1.2 (fun h => by cases h), fun _ => ⟨fun _ => key x (IntKind.i64.wrap (y.1 + (1 : Int))) false x.e (by rw [ey]; omega) (by rw [ey]; omega) id, fun hne => no he hne⟩⟩
  · cases h0
/-- Behind spaces. -/
def nxBack {tx : ByteArray} {a b : Int} {xs : List Int} {m : Nat} (r : Nx tx b xs m) (h : a ≤ b) : Nx tx a xs m := ⟨r.a', r.nl, r.zs, r.k, r.cap, r.e, ⟨by have := r.ha; omega, r.ha.2⟩, r.hl, r.hc, r.nil, by have := r.le; omega, r.i6, r.ok⟩
theorem thingC_ok (w0 : World) (q : Nat) (hq : POk w0 q) : (thingC (q + 1)).Ok Try.prog w0 := by
  refine ⟨fun args h t h0 L O => ?_⟩
  unfold thingC at h0
  simp only at h0
  split at h0
  · rename_i r hr
    cases h0
    refine CallOne.asks fun ⟨⟨so, ok⟩, he, hm, hq2⟩ => ?_
    obtain ⟨tx, a, nl, xs, m, cap, d, e, p⟩ := r
    simp only at so ok he hm hq2
    subst he
    refine rd_weak (args' := [.v (.one (.ptr 1 0))]) hr so L O true (fun n ro h' t hn ht => ptr_le hn ht) (by kernel_rfl) (one_rec base2 (ctrs_none _ _) (fpre3_ok w0 q hq) (n := 20) fun K hK => ⟨noLoop, loops_none _ _, ?_⟩)
    replace hK := T.of_chk hK
    show T.holds (bodyT Try.prog w0 (flatT Try.prog) (noCtr) (callT Try.prog w0 (flatT Try.prog) (noCtr) (fpreOf [signC, spaceC, findC, numberC, nameC0, levelC q, thingC q, aroundC q]) (noLoop) 20) (noLoop) 37 [.v (.one (.ptr 1 0))] [⟨[.keep L O], 0⟩, ⟨[.val (.string tx), .int false .i64 a, .gs 2 nl 2 0 m cap, .int false .i64 d, .int true .i64 0], 72⟩, ⟨[.row nl [.i64, .i64] xs cap], 60⟩]) _
    rw [thing_tree]
    have a0 := ok.at_
    have a1 := ok.sz
    have d0 := ok.dp
    refine ⟨⟨⟨rfl, rfl⟩, ok⟩, fun x => ?_⟩
    have b1 := x.2
    have okb := ok.any b1.1 b1.2
    have key : ∀ r : Nx tx x.1 xs m, ∃ y h2, K (y, h2) ∧ AsF 3 (.tuple []) [⟨[.keep L O], 0⟩, ⟨[.val (.string tx), .int false .i64 r.a', .gs 3 r.nl 2 0 r.k r.cap, .int false .i64 d, .int false .i64 r.e], 72⟩, ⟨[.dead], 60⟩, ⟨[.row r.nl [.i64, .i64] r.zs r.cap], 60⟩] y (keepH L O h2) := fun r => ⟨_, _, T.of_all hK (nxBack r b1.1), as_end [some 3] (by repeat' (first | exact trivial | exact rfl | exact take2 ok.l | exact congrArg (· ++ _) (take2 ok.l) | (refine And.intro ?_ ?_))) (by kernel_rfl) (fun h => by cases h)⟩
    refine ⟨fun _ => ⟨_, _, T.of_all hK (nxFail ok x.1 b1 11 (by decide)), as_end [some 2] (by repeat' (first | exact trivial | exact rfl | exact take2 ok.l | exact congrArg (· ++ _) (take2 ok.l) | (refine And.intro ?_ ?_))) (by kernel_rfl) (fun h => by cases h)⟩, fun hb => ?_⟩
    have hb : x.1 < (tx.size : Int) := by have := of_decide_eq_false hb; omega
    have ex : IntKind.i64.wrap (x.1 + (1 : Int)) = x.1 + 1 := wi64 _ (by omega) (by omega)
    have num : ∀ fr : Int, x.1 ≤ fr → fr ≤ tx.size → ((nl = nl ∧ cap = cap) ∧ RdOk tx x.1 nl xs m cap d) ∧ (0 : Int) = (0 : Int) ∧ x.1 ≤ fr ∧ fr ≤ (tx.size : Int) := fun fr h1 h2 => ⟨⟨⟨rfl, rfl⟩, okb⟩, rfl, h1, h2⟩
    exact ⟨⟨by omega, hb⟩, fun _ => ⟨⟨⟨⟨rfl, rfl⟩, okb⟩, rfl, by omega, hb, by decide, by omega⟩, key⟩, fun _ => ⟨fun _ => ⟨⟨⟨⟨rfl, rfl⟩, okb⟩, rfl, by omega, hb, by decide, by omega⟩, key⟩, fun _ => ⟨fun _ => ⟨⟨⟨⟨rfl, rfl⟩, okb⟩, rfl, by omega, hb, by decide, by omega⟩, key⟩, fun _ => ⟨fun _ => ⟨⟨⟨⟨rfl, rfl⟩, okb⟩, rfl, by omega, hb, by decide, by omega⟩, key⟩, fun _ => ⟨fun _ => ⟨⟨⟨⟨rfl, rfl⟩, okb⟩, rfl, by omega, hb, by decide, by omega⟩, key⟩, fun _ => ⟨fun _ => ⟨num _ (by rw [ex]; omega) (by rw [ex]; omega), key⟩, fun _ => ⟨fun _ => ⟨fun _ => ⟨⟨⟨⟨rfl, rfl⟩, okb⟩, rfl⟩, key⟩, fun _ => ⟨num _ (Int.le_refl _) b1.2, key⟩⟩, fun _ => ⟨num _ (Int.le_refl _) b1.2, key⟩⟩⟩⟩⟩⟩⟩⟩
  · cases h0
def lvMu (L : Nat → Option Obj) (O : Nat → Bool) (tx : ByteArray) (a0 : Int) (xs : List Int) (m0 : Nat) (d lev : Int) (q : Nat) (p : lvP) (x : lvX) : Nat := (tx.size - x.a).toNat
theorem lv_step (w : World) (L : Nat → Option Obj) (O : Nat → Bool) (tx : ByteArray) (a0 : Int) (xs : List Int) (m0 : Nat) (d lev : Int) (q : Nat) (p : lvP) (x : lvX) (hd : 0 ≤ d ∧ d ≤ 20) (hs : tx.size ≤ 1000) (h0 : 0 ≤ a0) (hp : POk w q) (hq : (20 - d) * 14 + (12 - (lev + 1)) < q) (hm : (m0 : Int) + 2 * (tx.size - a0) ≤ 4000) (h : lvInv L O tx a0 xs m0 d lev q p x) : Hid (roundT Try.prog w (flatT Try.prog) (noCtr) (callT Try.prog w (flatT Try.prog) (noCtr) (fpreOf [signC, spaceC, findC, numberC, nameC0, levelC q, thingC q, aroundC q]) (noLoop) 20) ((noLoop) 34) (roundOf (bodyAt Try.prog 34 0)) 0 4 lvRo lvRf lvRb (lvSt L O tx a0 xs m0 d lev q p) (lvFin L O tx a0 xs m0 d lev q p) (lvBck L O tx a0 xs m0 d lev q p) lvNxX lvNxX lvNxZ x) (Kept (lvInv L O tx a0 xs m0 d lev q p) (lvPost L O tx a0 xs m0 d lev q p) (lvBack L O tx a0 xs m0 d lev q p) (lvMu L O tx a0 xs m0 d lev q p) x) := by
  obtain ⟨⟩ := p
  obtain ⟨a, nl, zs, k, cap, e⟩ := x
  constructor
  rw [lvstep_tree]
  simp only [T.holds, Kept, lvMu, and_self, true_and, and_true]
  obtain ⟨so, hn⟩ := h
  simp only at so hn
  have s1 := so.ha
  have s2 := so.le
  have okx : RdOk tx a nl zs k cap d := ⟨⟨by omega, s1.2⟩, hs, hd, so.hl, so.hc, so.nil, by omega, so.i6⟩
  have el : IntKind.i64.wrap (lev + (1 : Int)) = lev + 1 := wi64 _ (by omega) (by omega)
  rw [el]
  refine ⟨fun he => ⟨okx, fun x => ?_⟩, fun _ => ⟨so⟩⟩
  have he : e = 0 := by simpa using he
  have b1 := x.2
  have bk : lvBack L O tx a0 xs m0 d lev q {  } { a := x.1, nl := nl, zs := zs, k := k, cap := cap, e := e } := ⟨⟨⟨by show a0 ≤ x.1; omega, b1.2⟩, so.hl, so.hc, so.nil, by show (k : Int) + 2 * (tx.size - x.1) ≤ _; omega, so.i6, so.ok⟩⟩
  refine ⟨okx.any b1.1 b1.2, fun y => ⟨fun _ => bk, fun hy => ⟨fun _ => bk, fun _ => ?_⟩⟩⟩
  have hy : y.1 ≠ 0 := by simpa using hy
  have y1 := y.2
  have y2 : 7 ≤ y.1 ∧ y.1 ≤ 24 ∧ x.1 + ((sgS y.1).size : Int) ≤ tx.size := by
    rcases y1 with h | h
    · exact absurd h hy
    · exact h
  have p1 := sg_pos y.1 y2.1 y2.2.1
  have ew : IntKind.i64.wrap (x.1 + ((sgS y.1).size : Int)) = x.1 + ((sgS y.1).size : Int) := wi64 _ (by omega) (by omega)
  rw [ew]
  have ok2 : RdOk tx (x.1 + ((sgS y.1).size : Int)) nl zs k cap d := okx.any (by omega) y2.2.2
  refine ⟨⟨ok2, he, by omega, by omega, by omega, by omega⟩, fun r => ?_⟩
  have r1 := r.ha
  have r2 := r.le
  have rl := r.hl
  have gk := grow_ok (a := 0) (s := 0) r.hl r.hc r.nil (by omega)
  simp only [true_and, and_true] at gk
  refine ⟨gk, fun g => ?_⟩
  refine ⟨rfl, ⟨⟨⟨by show a0 ≤ r.a'; omega, r1.2⟩, ?_, ⟨g.le, g.max⟩, (rowR g).nil, ?_, ?_, fun h0 => ?_⟩, hn⟩, by omega⟩
  · show (List.take (r.k * 2) r.zs ++ [y.1, 0]).length = (r.k + 1) * 2
    rw [List.take_of_length_le (by omega), List.length_append, rl]
    show r.k * 2 + 2 = (r.k + 1) * 2
    omega
  · show ((r.k + 1 : Nat) : Int) + 2 * (tx.size - r.a') ≤ m0 + 2 * (tx.size - a0) + 1
    omega
  · show ∀ j, J6 ((List.take (r.k * 2) r.zs ++ [y.1, 0]).getD j 0)
    rw [List.take_of_length_le (by omega)]
    refine i6_app r.i6 fun v hv => ?_
    simp only [List.mem_cons, List.not_mem_nil, or_false] at hv
    rcases hv with rfl | rfl
    · exact ⟨by omega, by omega⟩
    · exact ⟨by decide, by decide⟩
  · have h0 : r.e = 0 := h0
    obtain ⟨z1, o1, q1⟩ := so.ok he
    obtain ⟨z2, o2, q2⟩ := r.ok h0
    refine ⟨z1 ++ z2 ++ [y.1, 0], .bin y.1 z1 z2 y2.1 y2.2.1 o1 o2, ?_⟩
    show List.take (r.k * 2) r.zs ++ [y.1, 0] = _
    rw [List.take_of_length_le (by omega), q2, q1, List.append_assoc, List.append_assoc, List.append_assoc]
theorem lvLp_ok (w : World) (L : Nat → Option Obj) (O : Nat → Bool) (tx : ByteArray) (a0 : Int) (xs : List Int) (m0 : Nat) (d lev : Int) (q : Nat) (hd : 0 ≤ d ∧ d ≤ 20) (hs : tx.size ≤ 1000) (h0 : 0 ≤ a0) (hp : POk w q) (hq : (20 - d) * 14 + (12 - (lev + 1)) < q) (hm : (m0 : Int) + 2 * (tx.size - a0) ≤ 4000) : (lvLp L O tx a0 xs m0 d lev q).ok Try.prog w := by
  intro s t h
  unfold lvLp at h
  simp only at h
  split at h
  · rename_i p _
    split at h
    · rename_i x _
      cases h
      exact loop_ok base2 (ctrs_none _ w) (callT_ok base2.mixed base2.names base2.eqs (ctrs_none _ w).ok (ctrs_none _ w).there (fpre3_ok w q hp) (loops_none _ _) 20) ((loops_none _ _) 34) (c := roundOf (bodyAt Try.prog 34 0)) (by kernel_rfl) (id := 0) (n := 4) (hr := true) (ro := lvRo) (rf := lvRf) (rr := lvRb) (st := lvSt L O tx a0 xs m0 d lev q p) (fin := lvFin L O tx a0 xs m0 d lev q p) (bck := lvBck L O tx a0 xs m0 d lev q p) (inv := lvInv L O tx a0 xs m0 d lev q p) (post := lvPost L O tx a0 xs m0 d lev q p) (back := lvBack L O tx a0 xs m0 d lev q p) (nx := lvNxX) (fx := lvNxX) (bx := lvNxZ) (lvMu L O tx a0 xs m0 d lev q p) (nf := 5) (nf' := 5) (nf'' := 5) (fun x => by kernel_rfl) (fun y => by kernel_rfl) (fun z => by kernel_rfl) (.inl rfl) (fun x hx => lv_step w L O tx a0 xs m0 d lev q p x hd hs h0 hp hq hm hx) s x
    · cases h
  · cases h
theorem levelC_ok (w0 : World) (q : Nat) (hq : POk w0 q) : (levelC (q + 1)).Ok Try.prog w0 := by
  refine ⟨fun args h t h0 L O => ?_⟩
  unfold levelC at h0
  simp only at h0
  split at h0
  · rename_i l lev r hr
    cases h0
    refine CallOne.asks fun ⟨⟨so, ok⟩, he, hm, hn1, hn2, hq2⟩ => ?_
    obtain ⟨tx, a, nl, xs, m, cap, d, e, p⟩ := r
    simp only at so ok he hm hn1 hn2 hq2
    subst he
    refine rd_weak (args' := [.v (.one (.ptr 1 0)), .v (.one (.int false .i64 lev))]) hr so L O true (fun n ro h' t hn ht => by refine ptr_le hn ?_; exact ⟨⟨rfl, rfl⟩, ht⟩) (by kernel_rfl) (one_rec base2 (ctrs_none _ _) (fpre3_ok w0 q hq) (n := 20) fun K hK => ⟨lpOf Try.prog [lvLp L O tx a xs m d lev q], lps_ok fun l hl => by (simp only [List.mem_cons, List.not_mem_nil, or_false] at hl; subst hl; exact lvLp_ok w0 L O tx a xs m d lev q ok.dp ok.sz ok.at_.1 hq (by omega) hm), ?_⟩)
    replace hK := T.of_chk hK
    show T.holds (bodyT Try.prog w0 (flatT Try.prog) (noCtr) (callT Try.prog w0 (flatT Try.prog) (noCtr) (fpreOf [signC, spaceC, findC, numberC, nameC0, levelC q, thingC q, aroundC q]) (lpOf Try.prog [lvLp L O tx a xs m d lev q]) 20) (lpOf Try.prog [lvLp L O tx a xs m d lev q]) 34 [.v (.one (.ptr 1 0)), .v (.one (.int false .i64 lev))] [⟨[.keep L O], 0⟩, ⟨[.val (.string tx), .int false .i64 a, .gs 2 nl 2 0 m cap, .int false .i64 d, .int true .i64 0], 72⟩, ⟨[.row nl [.i64, .i64] xs cap], 60⟩]) _
    rw [level_tree]
    have a0 := ok.at_
    have a1 := ok.sz
    have d0 := ok.dp
    have el : IntKind.i64.wrap (lev + (1 : Int)) = lev + 1 := wi64 _ (by omega) (by omega)
    rw [el]
    refine ⟨fun h10 => ⟨⟨⟨⟨rfl, rfl⟩, ok⟩, rfl, hm, by simp only [beq_iff_eq] at h10; omega⟩, fun x => ⟨_, _, T.of_all hK x, as_end [some 3] (by repeat' (first | exact trivial | exact rfl | exact take2 ok.l | exact congrArg (· ++ _) (take2 ok.l) | (refine And.intro ?_ ?_))) (by kernel_rfl) (fun h => by cases h)⟩⟩, fun hne => ?_⟩
    have hlev : lev ≠ 10 := by simpa using hne
    refine ⟨⟨⟨⟨rfl, rfl⟩, ok⟩, rfl, hm, by omega, by omega, by omega⟩, fun x => ?_⟩
    refine ⟨rfl, ⟨rfl, rfl⟩, ⟨rfl, rfl⟩, rfl, ⟨rfl, rfl⟩, ⟨rfl, rfl, rfl, rfl, rfl⟩, ⟨rfl, rfl⟩, ⟨rfl, rfl⟩, ⟨rfl, rfl, rfl, rfl⟩, ⟨x.so, by omega, by omega⟩, fun b => ⟨fun _ y => ?_, fun _ y => ?_⟩⟩
    · exact ⟨_, _, T.of_all hK y.so.so.nx, as_end [some 4] (by repeat' (first | exact trivial | exact rfl | exact take2 ok.l | exact congrArg (· ++ _) (take2 ok.l) | (refine And.intro ?_ ?_))) (by kernel_rfl) (fun h => by cases h)⟩
    · exact ⟨_, _, T.of_all hK y.so.so.nx, as_end [some 4] (by repeat' (first | exact trivial | exact rfl | exact take2 ok.l | exact congrArg (· ++ _) (take2 ok.l) | (refine And.intro ?_ ?_))) (by kernel_rfl) (fun h => by cases h)⟩
  · cases h0
theorem P_ok (w0 : World) : ∀ q : Nat, POk w0 q
  | 0 => by
    refine ⟨⟨fun args h t h0 L O => ?_⟩, ⟨fun args h t h0 L O => ?_⟩, ⟨fun args h t h0 L O => ?_⟩⟩
    · unfold levelC at h0
      simp only at h0
      split at h0
      · cases h0
        refine CallOne.asks fun ⟨⟨so, ok⟩, he, hm, hn1, hn2, hq2⟩ => ?_
        have := ok.dp
        exfalso
        omega
      · cases h0
    · unfold thingC at h0
      simp only at h0
      split at h0
      · cases h0
        refine CallOne.asks fun ⟨⟨so, ok⟩, he, hm, hq2⟩ => ?_
        have := ok.dp
        exfalso
        omega
      · cases h0
    · unfold aroundC at h0
      simp only at h0
      split at h0
      · cases h0
        refine CallOne.asks fun ⟨⟨so, ok⟩, he, hm, hlt, hop, hq2⟩ => ?_
        have := ok.dp
        exfalso
        omega
      · cases h0
  | q + 1 => ⟨levelC_ok w0 q (P_ok w0 q), thingC_ok w0 q (P_ok w0 q), aroundC_ok w0 q (P_ok w0 q)⟩
end Go.Proofs.Ytmbahohmiecfiaa
