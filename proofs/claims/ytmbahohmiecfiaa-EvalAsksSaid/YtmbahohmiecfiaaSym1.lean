/-
  A walk by computing: values of which some parts are known and others are names, memory that the walk has made itself, and a tree of what may come. Definitions alone; nothing is claimed here.
-/
import Derived.WalkKit
import Derived.Orders
import Derived.StillTail
import Derived.Scope
import Derived.Below
namespace Go.Proofs.Ytmbahohmiecfiaa.sym
open Go.RowKit

/-- A number, and bytes that stand elsewhere and are not written any more. -/
structure Fr where
  s : Int
  a : Option Addr
  xs : List Int
  cap : Nat
  ok : xs ≠ [] → ∃ b off, a = some ⟨b, off, none⟩
def Fr.zero : Fr := ⟨0, none, [], 0, fun h => absurd rfl h⟩
inductive Sc where
  | int (lit : Bool) (k : IntKind) (n : Int)
  | bool (lit : Bool) (b : Bool)
  | ptr (r off : Nat)
  | nil
  | fn (f : FuncId) (caps : List (Nat × Nat))
  | nilfn
  | xp (a : Option Addr) (cell : Nat → Nat → Sc) (sz len i off : Nat)
  | xs (a : Option Addr) (cell : Nat → Nat → Sc) (sz len cap : Nat)
  | os (r off len cap : Nat)
  | nos
  | val (v : Value)
  | gs (r : Nat) (nl : Bool) (sz off len cap : Nat)
  | rp (r sz i q : Nat)
  | xr (a : Option Addr) (ks : List IntKind) (xs : List Int) (len cap : Nat)
  | xq (a : Option Addr) (ks : List IntKind) (xs : List Int) (i q : Nat)
  | row (nl : Bool) (ks : List IntKind) (xs : List Int) (cap : Nat)
  | dead
  | frs (nl : Bool) (fs : List Fr) (cap : Nat)
  | fz (r : Nat) (f : Fr)
  | fq (r : Nat) (f : Fr) (i : Nat)
  | keep (L : Nat → Option Obj) (O : Nat → Bool)
  | iz (r b off : Nat) (xs : List Int) (cap : Nat)

/-- The blocks' numbers are told beside. -/
def capV (bs : List Nat) (c : Nat × Nat) : Value := .pointer (some ⟨bs.getD c.1 0, c.2, none⟩)
def Sc.γ (bs : List Nat) : Sc → Value
  | .int _ k n => .int k n
  | .bool _ b => .bool b
  | .ptr r off => .pointer (some ⟨bs.getD r 0, off, none⟩)
  | .nil => .pointer none
  | .fn f caps => .func (.func f) #[] (caps.map (capV bs)).toArray
  | .nilfn => .nilFunc
  | .xp a _ sz _ i off => .pointer (a.map (·.add (i * sz + off)))
  | .xs a _ _ len cap => .slice a len cap
  | .os r off len cap => .slice (some ⟨bs.getD r 0, off, none⟩) len cap
  | .nos => .slice none 0 0
  | .val v => v
  | .gs r nl sz off len cap => .slice (match nl with | true => none | false => some ⟨bs.getD r 0, off * sz, none⟩) len cap
  | .rp r sz i q => .pointer (some ⟨bs.getD r 0, i * sz + q, none⟩)
  | .xr a _ _ len cap => .slice a len cap
  | .xq a ks _ i q => .pointer (a.map (·.add (i * ks.length + q)))
  | .row _ _ _ _ => .nilFunc
  | .dead => .nilFunc
  | .frs _ _ _ => .nilFunc
  | .fz _ f => .slice f.a f.xs.length f.cap
  | .fq _ f i => .pointer (f.a.map (·.add i))
  | .keep _ _ => .nilFunc
  | .iz _ b off ys cap => .slice (some ⟨b, off, none⟩) ys.length cap
/-- It is a value, no sign of what a block is. -/
def Sc.real : Sc → Bool
  | .row _ _ _ _ => false
  | .dead => false
  | .frs _ _ _ => false
  | .keep _ _ => false
  | _ => true
/-- It names only blocks that are there. -/
def Sc.wf (m : Nat → Bool) : Sc → Bool
  | .ptr r _ => m r
  | .fn _ caps => caps.all fun c => m c.1
  | .os r _ _ _ => m r
  | .gs r _ _ _ _ _ => m r
  | .rp r _ _ _ => m r
  | .fz r _ => m r
  | .fq r _ _ => m r
  | .iz r _ _ _ _ => m r
  | _ => true
def lt (n r : Nat) : Bool := Nat.blt r n

inductive V where
  | one (s : Sc)
  | agg (cs : List Sc)
def V.γ (bs : List Nat) : V → Value
  | .one s => s.γ bs
  | .agg cs => .agg (cs.map (Sc.γ bs)).toArray
def V.wf (m : Nat → Bool) : V → Bool
  | .one s => s.wf m
  | .agg cs => cs.all (Sc.wf m)

inductive AV where
  | v (x : V)
  | tuple (vs : List V)
  | undef
  | any
def AV.γ (bs : List Nat) : AV → Value
  | .v x => x.γ bs
  | .tuple vs => .tuple (vs.map (V.γ bs)).toArray
  | .undef => Go.undef
  | .any => Go.undef
def AV.wf (m : Nat → Bool) : AV → Bool
  | .v x => x.wf m
  | .tuple vs => vs.all (V.wf m)
  | _ => true
def AV.Is (bs : List Nat) (x : AV) (u : Value) : Prop := match x with
  | .any => True
  | x => u = x.γ bs

/-- A value as it is typed in the text. -/
def scOf : Value → Sc
  | .int k n => .int true k n
  | .bool b => .bool true b
  | .pointer none => .nil
  | .nilFunc => .nilfn
  | .slice none 0 0 => .nos
  | v => .val v
def vOf : Value → V
  | .agg cs => .agg (cs.toList.map scOf)
  | v => .one (scOf v)

structure Blk where
  cells : List Sc
  t : TypeId
/-- A sign of what a block is, in its cells' stead. -/
def isMark : List Sc → Bool
  | [.row _ _ _ _] => true
  | [.dead] => true
  | [.frs _ _ _] => true
  | [.keep _ _] => true
  | _ => false
/-- A block whose cells are known, one by one. -/
def Blk.plain (k : Blk) : Bool := !isMark k.cells
structure ASt where
  ts : List AV
  h : List Blk

inductive T (α : Type) : Type 1 where
  | leaf (a : α)
  | br (c : Bool) (t e : T α)
  | chk (p : Prop) (t : T α)
  | all {X : Type} (f : X → T α)
  | fail (why : String := "")
def T.holds {α : Type} : T α → (α → Prop) → Prop
  | .leaf a, K => K a
  | .br c t e, K => (c = true → t.holds K) ∧ (c = false → e.holds K)
  | .chk p t, K => p ∧ t.holds K
  | .all f, K => ∀ x, (f x).holds K
  | .fail _, _ => False
def T.bind {α β : Type} : T α → (α → T β) → T β
  | .leaf a, g => g a
  | .br c t e, g => .br c (t.bind g) (e.bind g)
  | .chk p t, g => .chk p (t.bind g)
  | .all f, g => .all fun x => (f x).bind g
  | .fail s, _ => .fail s
def T.map {α β : Type} (t : T α) (g : α → β) : T β := t.bind fun a => .leaf (g a)
/-- Where it failed. -/
def T.tag {α : Type} (s : String) : T α → T α
  | .fail "" => .fail s
  | t => t
def fork {α : Type} (lit b : Bool) (t e : T α) : T α := match lit with
  | true => match b with
    | true => t
    | false => e
  | false => .br b t e

/-- Only the side that a fork takes. -/
def T.prune {α : Type} : T α → T α
  | .br c t e => match c with
    | true => t.prune
    | false => e.prune
  | .chk p t => .chk p t.prune
  | .all f => .all fun x => (f x).prune
  | .leaf a => .leaf a
  | .fail s => .fail s
theorem T.prune_holds {α : Type} {K : α → Prop} : ∀ {t : T α}, t.prune.holds K → t.holds K
  | .br c t e, h => by
    cases c with
    | true => exact ⟨fun _ => T.prune_holds h, fun h => by cases h⟩
    | false => exact ⟨fun h => (by cases h), fun _ => T.prune_holds h⟩
  | .chk p t, h => ⟨h.1, T.prune_holds h.2⟩
  | .all f, h => fun x => T.prune_holds (h x)
  | .leaf a, h => h
  | .fail s, h => h
/-- What a call reads of rows that it was handed. -/
def XOk (w0 : World) (a : Option Addr) (cell : Nat → Nat → Sc) (sz len : Nat) : Prop :=
  ∀ i, i < len → ∀ q, q < sz → ∃ b off, a = some ⟨b, off, none⟩ ∧ b < w0.heap.size ∧ w0.cell? ⟨b, off + (i * sz + q), none⟩ = some ((cell i q).γ []) ∧ (cell i q).wf (lt 0) = true

/-- Rows that came in, with what they hold. -/
def XC (w0 : World) (a : Option Addr) (ks : List IntKind) (xs : List Int) : Prop :=
  ∀ j, j < xs.length → ∃ b off, a = some ⟨b, off, none⟩ ∧ b < w0.heap.size ∧ w0.cell? ⟨b, off + j, none⟩ = some (.int (ks.getD (j % ks.length) .u8) (xs.getD j 0))
def XR (w0 : World) (a : Option Addr) (ks : List IntKind) (xs : List Int) (len : Nat) : Prop := xs.length = len * ks.length ∧ XC w0 a ks xs
/-- A piece of a row. -/
def cutL (xs : List Int) (l h sz : Nat) : List Int := (xs.drop (l * sz)).take ((h - l) * sz)
def cutA (a : Option Addr) (cap l sz : Nat) : Option Addr := if cap = l then a else a.map (·.add (l * sz))
def cutO (off cap l : Nat) : Nat := match l with
  | 0 => off
  | l + 1 => if cap = l + 1 then off else off + (l + 1)
theorem cutO_eq (off cap l : Nat) : cutO off cap l = if cap = l then off else off + l := by
  cases l with
  | zero => show off = if cap = 0 then off else off + 0; split <;> rfl
  | succ l => rfl
inductive Eff where
  | none
  | rd (r off n : Nat)
  | wr (r off : Nat) (cs : List Sc)
  | new (k : Blk)
  | full (h : List Blk)

def setAll (cells : List Sc) (off : Nat) (cs : List Sc) : List Sc := cells.take off ++ cs ++ cells.drop (off + cs.length)
def updBlk : List Blk → Nat → (Blk → Blk) → List Blk
  | [], _, _ => []
  | k :: h, 0, f => f k :: h
  | k :: h, r + 1, f => k :: updBlk h r f
def Eff.app : Eff → List Blk → List Blk
  | .none, h => h
  | .rd _ _ _, h => h
  | .wr r off cs, h => updBlk h r fun k => { k with cells := setAll k.cells off cs }
  | .new k, h => h ++ [k]
  | .full h', _ => h'
/-- Writes alone. -/
def Eff.appW : Eff → List Blk → List Blk
  | .wr r off cs, h => updBlk h r fun k => { k with cells := setAll k.cells off cs }
  | _, h => h

def Eff.wf (m : Nat → Bool) : Eff → Bool
  | .wr _ _ cs => cs.all (Sc.wf m)
  | .new k => k.cells.all (Sc.wf m)
  | _ => true

def Sc.flat : Sc → Bool
  | .val (.agg _) => false
  | .val (.tuple _) => false
  | .row _ _ _ _ => false
  | .dead => false
  | .frs _ _ _ => false
  | .keep _ _ => false
  | _ => true

section
variable (P : Program) (w0 : World)

def tAgg (t : TypeId) : Option Bool := match P.underlying t with
  | some (.struct _) | some (.array _ _) => some true
  | some _ => some false
  | none => none
def tSize (t : TypeId) : Option Nat := (P.info? t).map (·.size)

def opd (ts : List AV) : Operand → AV
  | .tmp t => match ts[t]? with
    | some x => x
    | none => .undef
  | .const v => .v (vOf v)
  | .global g => .v (.one (.val (.pointer (some ⟨g, 0, none⟩))))
  | .func f => .v (.one (.fn f []))

def litOf : AV → Bool
  | .v (.one (.int l _ _)) => l
  | .v (.one (.bool l _)) => l
  | _ => false
def mkI (l : Bool) (k : IntKind) (n : Int) : T AV := .leaf (.v (.one (.int l k n)))
def mkB (l : Bool) (b : Bool) : T AV := .leaf (.v (.one (.bool l b)))

/-- What is asked, where it is not known already. -/
def chkT {α : Type} (known : Bool) (p : Prop) (t : T α) : T α := match known with
  | true => t
  | false => .chk p t
def intT (op : BinOp) (l1 l2 : Bool) (k : IntKind) (a b : Int) : T AV :=
  let l := l1 && l2
  match op with
  | .add => mkI l k (k.wrap (a + b))
  | .sub => mkI l k (k.wrap (a - b))
  | .mul => mkI l k (k.wrap (a * b))
  | .quo => chkT (l2 && !(b == 0)) (b ≠ 0) (mkI l k (k.wrap (a.tdiv b)))
  | .rem => chkT (l2 && !(b == 0)) (b ≠ 0) (mkI l k (a.tmod b))
  | .and => mkI l k (bits .and k a b)
  | .or => mkI l k (bits .or k a b)
  | .xor => mkI l k (bits .xor k a b)
  | .andNot => mkI l k (bits .andNot k a b)
  | .eql => mkB l (a == b)
  | .neq => mkB l (a != b)
  | .lss => mkB l (decide (a < b))
  | .leq => mkB l (decide (a ≤ b))
  | .gtr => mkB l (decide (a > b))
  | .geq => mkB l (decide (a ≥ b))
  | _ => .fail
def zeroV (t : TypeId) : Option V := match P.info? t with
  | some i => i.zero.map vOf
  | none => none
def kinOne : Sc → Sc → Bool
  | .int _ k _, .int _ k' _ => k == k'
  | .bool _ _, .bool _ _ => true
  | _, _ => false
def kinds : List Sc → List Sc → Bool
  | [], [] => true
  | x :: xs, y :: ys => kinOne x y && kinds xs ys
  | _, _ => false
def eqSc : Sc → Sc → Option (Bool × Bool)
  | .int l k a, .int l' k' b => if k = k' then some (l && l', a == b) else none
  | .bool l a, .bool l' b => some (l && l', a == b)
  | _, _ => none
def eqCells : List Sc → List Sc → Option (Bool × Bool)
  | [], [] => some (true, true)
  | x :: xs, y :: ys => match eqSc x y, eqCells xs ys with
    | some (l, b), some (l', b') => some (l && l', b && b')
    | _, _ => none
  | _, _ => none
/- Which aggregates are compared cell by cell: told from without. -/
variable (eqT : TypeId → Bool)
def eqV (t : TypeId) : V → V → Option (Bool × Bool)
  | .one (.bool l a), .one (.bool l' b) => match P.underlying t with
    | some .bool => some (l && l', a == b)
    | _ => none
  | .one (.ptr _ _), .one .nil | .one .nil, .one (.ptr _ _) => match P.underlying t with
    | some (.pointer _) => some (true, false)
    | _ => none
  | .one .nil, .one .nil => match P.underlying t with
    | some (.pointer _) => some (true, true)
    | _ => none
  | .one (.fn _ _), .one .nilfn | .one .nilfn, .one (.fn _ _) => match P.underlying t with
    | some (.func _ _ _) => some (true, false)
    | _ => none
  | .one .nilfn, .one .nilfn => match P.underlying t with
    | some (.func _ _ _) => some (true, true)
    | _ => none
  | .one (.val (.func _ _ _)), .one .nilfn => match P.underlying t with
    | some (.func _ _ _) => some (true, false)
    | _ => none
  | .one (.gs _ nl _ _ _ _), .one .nos | .one .nos, .one (.gs _ nl _ _ _ _) => match P.underlying t with
    | some (.slice _) => some (false, nl)
    | _ => none
  | .one (.xr a _ _ _ _), .one .nos | .one .nos, .one (.xr a _ _ _ _) => match P.underlying t with
    | some (.slice _) => some (false, a.isNone)
    | _ => none
  | .one (.os _ _ _ _), .one .nos | .one .nos, .one (.os _ _ _ _) => match P.underlying t with
    | some (.slice _) => some (true, false)
    | _ => none
  | .one .nos, .one .nos => match P.underlying t with
    | some (.slice _) => some (true, true)
    | _ => none
  | .one (.val (.string a)), .one (.val (.string b)) => match P.underlying t with
    | some .string => some (false, a.toList == b.toList)
    | _ => none
  | .agg xs, .agg ys => match zeroV P t with
    | some (.agg zs) => if (eqT t && kinds xs zs && kinds ys zs) = true then eqCells xs ys else none
    | _ => none
  | _, _ => none
def binT (op : BinOp) (t : TypeId) (x y : AV) : T AV :=
  match x, y with
  | .v (.one (.int l k a)), .v (.one (.int l' k' b)) =>
    match op with
    | .shl => chkT (l' && decide (0 ≤ b)) (0 ≤ b) (mkI (l && l') k (k.wrap (a * 2 ^ (min b.toNat k.bits))))
    | .shr => chkT (l' && decide (0 ≤ b)) (0 ≤ b) (mkI (l && l') k (a.fdiv (2 ^ (min b.toNat k.bits))))
    | op => if k = k' then intT op l l' k a b else .fail
  | .v x, .v y =>
    match op with
    | .eql => match eqV P eqT t x y with
      | some (l, b) => mkB l b
      | none => .fail
    | .neq => match eqV P eqT t x y with
      | some (l, b) => mkB l (!b)
      | none => .fail
    | _ => .fail
  | _, _ => .fail
def unT (op : UnOp) (x : AV) : T AV :=
  match op, x with
  | .neg, .v (.one (.int l k n)) => mkI l k (k.wrap (0 - n))
  | .xor, .v (.one (.int l k n)) => mkI l k (bits .xor k (if k.signed then -1 else k.max) n)
  | .not, .v (.one (.bool l b)) => mkB l (!b)
  | _, _ => .fail
def convT (src dst : TypeId) (x : AV) : T AV :=
  match x, P.underlying dst, P.underlying src with
  | .v (.one (.int l _ n)), some (.int k), some _ => mkI l k (k.wrap n)
  | _, _, _ => .fail

def partV (t : TypeId) (cs : List Sc) (off : Nat) : Option V :=
  match tAgg P t, tSize P t with
  | some true, some n => if off + n ≤ cs.length then some (.agg ((cs.drop off).take n)) else none
  | some false, some _ => match cs[off]? with
    | some c => some (.one c)
    | none => none
  | _, _ => none
def leafV : Option V → T AV
  | some x => .leaf (.v x)
  | none => .fail
def fieldT (s : TypeId) (x : AV) (f : Nat) : T AV :=
  match x, P.underlying s with
  | .v (.agg cs), some (.struct fs) => match fs[f]? with
    | some fd => leafV (partV P fd.type cs fd.offset)
    | none => .fail
  | _, _ => .fail

/-- One of n: the place is known, or is asked for. -/
def pickN {α : Type} : Nat → Nat → Int → (Nat → T α) → T α
  | 0, _, _, _ => .fail
  | 1, j, _, f => f j
  | m + 2, j, i, f => .br (i == (j : Int)) (f j) (pickN (m + 1) (j + 1) i f)
def pickT {α : Type} (lit : Bool) (n : Nat) (i : Int) (f : Nat → T α) : T α :=
  match lit with
  | true => match i with
    | .ofNat j => if j < n then f j else .fail
    | .negSucc _ => .fail
  | false => .chk (0 ≤ i ∧ i < (n : Int)) (pickN n 0 i f)
/-- A text's byte. -/
def byteAt (s : ByteArray) (i : Nat) : Int := match s[i]? with
  | some b => (b.toNat : Int)
  | none => 0
def indexT (t : TypeId) (x i : AV) : T AV :=
  match x, i, P.underlying t with
  | .v (.one (.val (.string s))), .v (.one (.int _ _ i)), some .string => .chk (0 ≤ i ∧ i < (s.size : Int)) (.leaf (.v (.one (.int false .u8 (byteAt s i.toNat)))))
  | .v (.agg cs), .v (.one (.int l _ i)), some (.array n e) => match tSize P e with
    | some sz => pickT l n i fun j => leafV (partV P e cs (j * sz))
    | none => .fail
  | _, _, _ => .fail
def fieldAddrT (s : TypeId) (x : AV) (f : Nat) : T AV :=
  match P.underlying s with
  | some (.struct fs) => match fs[f]? with
    | some fd => match tSize P fd.type with
      | some (_ + 1) => match x with
        | .v (.one (.ptr r off)) => .leaf (.v (.one (.ptr r (off + fd.offset))))
        | .v (.one (.xp a cell sz len i off)) => .chk (XOk w0 a cell sz len ∧ 0 < len ∧ 0 < sz) (.leaf (.v (.one (.xp a cell sz len i (off + fd.offset)))))
        | .v (.one (.rp r sz i q)) => .leaf (.v (.one (.rp r sz i (q + fd.offset))))
        | .v (.one (.xq a ks xs i q)) => .chk (XC w0 a ks xs ∧ 0 < xs.length) (.leaf (.v (.one (.xq a ks xs i (q + fd.offset)))))
        | _ => .fail
      | _ => .fail
    | none => .fail
  | _ => .fail
def indexAddrT (t : TypeId) (x i : AV) : T AV :=
  match i with
  | .v (.one (.int l _ i)) => match P.underlying t, x with
    | some (.array n e), .v (.one (.ptr r off)) => match tSize P e with
      | some sz => pickT l n i fun j => .leaf (.v (.one (.ptr r (off + j * sz))))
      | none => .fail
    | some (.array n e), .v (.one (.xq a ks xs i0 q)) => match tSize P e with
      | some sz => .chk (XC w0 a ks xs ∧ 0 < xs.length) (pickT l n i fun j => .leaf (.v (.one (.xq a ks xs i0 (q + j * sz)))))
      | none => .fail
    | some (.array n e), .v (.one (.rp r z i0 q)) => match tSize P e with
      | some sz => pickT l n i fun j => .leaf (.v (.one (.rp r z i0 (q + j * sz))))
      | none => .fail
    | some (.slice e), .v (.one (.os r off len _)) => match tSize P e with
      | some sz => pickT l len i fun j => .leaf (.v (.one (.ptr r (off + j * sz))))
      | none => .fail
    | some (.slice e), .v (.one (.xs a cell sz len _)) => match tSize P e with
      | some es => match Nat.beq es sz with
        | true => .chk (XOk w0 a cell sz len ∧ 0 ≤ i ∧ i < (len : Int) ∧ 0 < sz) (.leaf (.v (.one (.xp a cell sz len i.toNat 0))))
        | false => .fail
      | none => .fail
    | some (.slice e), .v (.one (.gs r nl sz off len _)) => match tSize P e with
      | some es => match Nat.beq es sz with
        | true => .chk (nl = false ∧ 0 ≤ i ∧ i < (len : Int)) (.leaf (.v (.one (.rp r sz (off + i.toNat) 0))))
        | false => .fail
      | none => .fail
    | some (.slice e), .v (.one (.xr a ks xs len _)) => match tSize P e with
      | some es => match Nat.beq es ks.length with
        | true => .chk (XR w0 a ks xs len ∧ 0 ≤ i ∧ i < (len : Int) ∧ 0 < ks.length) (.leaf (.v (.one (.xq a ks xs i.toNat 0))))
        | false => .fail
      | none => .fail
    | some (.slice e), .v (.one (.fz r f)) => match tSize P e with
      | some es => match Nat.beq es 1 with
        | true => .chk (0 ≤ i ∧ i < (f.xs.length : Int)) (.leaf (.v (.one (.fq r f i.toNat))))
        | false => .fail
      | none => .fail
    | _, _ => .fail
  | _ => .fail
/-- A slice's bound: as it is told, and as a number. -/
def bnd : Option AV → Nat → Option (Int × Nat)
  | none, d => some ((d : Int), d)
  | some (.v (.one (.int _ _ n))), _ => some (n, n.toNat)
  | _, _ => none
def litB : Option AV → Bool
  | none => true
  | some x => match x with
    | .v (.one (.int l _ _)) => l
    | _ => false
def sliceT (t : TypeId) (x : AV) (lo hi : Option AV) : T AV :=
  match P.underlying t, x with
  | some (.slice e), .v (.one (.xr a ks xs len cap)) => match tSize P e, bnd lo 0, bnd hi len with
    | some es, some (l, l'), some (h, h') => match Nat.beq es ks.length with
      | true => .chk (0 ≤ l ∧ l ≤ h ∧ h ≤ (len : Int) ∧ len ≤ cap) (.leaf (.v (.one (.xr (cutA a cap l' ks.length) ks (cutL xs l' h' ks.length) (h' - l') (cap - l')))))
      | false => .fail
    | _, _, _ => .fail
  | some (.slice e), .v (.one (.gs r nl sz off len cap)) => match tSize P e, bnd lo 0, bnd hi len with
    | some es, some (l, l'), some (h, h') => match Nat.beq es sz with
      | true => .chk (0 ≤ l ∧ l ≤ h ∧ h ≤ (cap : Int)) (.leaf (.v (.one (.gs r nl sz (cutO off cap l') (h' - l') (cap - l')))))
      | false => .fail
    | _, _, _ => .fail
  | some (.slice e), .v (.one (.os r off len cap)) => match tSize P e, bnd lo 0, bnd hi len with
    | some es, some (l, l'), some (h, h') => match litB lo && litB hi with
      | true => if 0 ≤ l ∧ l ≤ h ∧ h ≤ (cap : Int) then .leaf (.v (.one (.os r (if cap = l' then off else off + l' * es) (h' - l') (cap - l')))) else .fail "bounds"
      | false => .fail "os"
    | _, _, _ => .fail
  | some (.slice e), .v (.one .nos) => match tSize P e, bnd lo 0, bnd hi 0 with
    | some _, some (l, _), some (h, _) => .chk (0 ≤ l ∧ l ≤ h ∧ h ≤ 0) (.leaf (.v (.one .nos)))
    | _, _, _ => .fail
  | some .string, .v (.one (.val (.string s))) => match bnd lo 0, bnd hi s.size with
    | some (l, l'), some (h, h') => .chk (0 ≤ l ∧ l ≤ h ∧ h ≤ (s.size : Int)) (.leaf (.v (.one (.val (.string (s.extract l' h'))))))
    | _, _ => .fail
  | _, _ => .fail
def extractT (x : AV) (i : Nat) : T AV :=
  match x with
  | .tuple vs => match vs[i]? with
    | some v => .leaf (.v v)
    | none => .fail
  | _ => .fail
/-- A row, where one is. -/
def rowOf (h : List Blk) (r : Nat) : Option (Bool × List IntKind × List Int × Nat × TypeId) := match h[r]? with
  | some k => match k.cells with
    | [.row nl ks xs cap] => some (nl, ks, xs, cap, k.t)
    | _ => none
  | none => none
/-- Frames, where they are. -/
def frOf (h : List Blk) (r : Nat) : Option (Bool × List Fr × Nat × TypeId) := match h[r]? with
  | some k => match k.cells with
    | [.frs nl fs cap] => some (nl, fs, cap, k.t)
    | _ => none
  | none => none
def frAt (fs : List Fr) (i : Nat) : Fr := (fs[i]?).getD .zero
def frPart (r : Nat) (f : Fr) (isA : Bool) (n q : Nat) : T (AV × Eff) := match isA with
  | true => match Nat.beq n 2 && Nat.beq q 0 with
    | true => .leaf (.v (.agg [.int false .u8 f.s, .fz r f]), .rd r 0 1)
    | false => .fail
  | false => match Nat.beq n 1 with
    | true => match q with
      | 0 => .leaf (.v (.one (.int false .u8 f.s)), .rd r 0 1)
      | 1 => .leaf (.v (.one (.fz r f)), .rd r 0 1)
      | _ => .fail
    | false => .fail
def loadT (h : List Blk) (t : TypeId) (x : AV) : T (AV × Eff) :=
  match tAgg P t, tSize P t, x with
  | some isA, some n, .v (.one (.ptr r off)) => match h[r]? with
    | some k => match k.plain with
      | true => if off + n ≤ k.cells.length then
        match isA with
        | true => .leaf (.v (.agg ((k.cells.drop off).take n)), .rd r off n)
        | false => match k.cells[off]? with
          | some c => .leaf (.v (.one c), .rd r off 1)
          | none => .fail
        else .fail
      | false => .fail "row"
    | none => .fail
  | some isA, some n, .v (.one (.rp r sz i q)) => match rowOf h r with
    | some (nl, ks, xs, _, _) => match Nat.beq sz ks.length && Nat.ble (q + n) sz with
      | true => .chk (nl = false ∧ i * sz + (q + n) ≤ xs.length) (match isA with
        | true => .leaf (.v (.agg ((List.range n).map fun p => .int false (ks.getD (q + p) .u8) (xs.getD (i * sz + (q + p)) 0))), .rd r 0 1)
        | false => match Nat.beq n 1 with
          | true => .leaf (.v (.one (.int false (ks.getD q .u8) (xs.getD (i * sz + q) 0))), .rd r 0 1)
          | false => .fail)
      | false => .fail
    | none => match frOf h r with
      | some (nl, fs, _, _) => match Nat.beq sz 2 with
        | true => .chk (nl = false ∧ i < fs.length) (frPart r (frAt fs i) isA n q)
        | false => .fail
      | none => .fail "row"
  | some false, some 1, .v (.one (.fq r f i)) => match frOf h r with
    | some (_, fs, _, _) => .chk (f ∈ fs ∧ i < f.xs.length) (.leaf (.v (.one (.int false .u8 (f.xs.getD i 0))), .rd r 0 1))
    | none => .fail "frames"
  | some isA, some n, .v (.one (.xq a ks xs i q)) => match Nat.ble (q + n) ks.length with
    | true => .chk (XC w0 a ks xs ∧ 0 < n ∧ i * ks.length + (q + n) ≤ xs.length) (match isA with
      | true => .leaf (.v (.agg ((List.range n).map fun p => .int false (ks.getD (q + p) .u8) (xs.getD (i * ks.length + (q + p)) 0))), .none)
      | false => match Nat.beq n 1 with
        | true => .leaf (.v (.one (.int false (ks.getD q .u8) (xs.getD (i * ks.length + q) 0))), .none)
        | false => .fail)
    | false => .fail
  | some true, some n, .v (.one (.xp a cell sz len i off)) => .chk (XOk w0 a cell sz len ∧ 0 < sz ∧ i < len ∧ off + n ≤ sz) (.leaf (.v (.agg ((List.range n).map fun q => cell i (off + q))), .none))
  | some false, some _, .v (.one (.xp a cell sz len i off)) => .chk (XOk w0 a cell sz len ∧ i < len ∧ off + 1 ≤ sz) (.leaf (.v (.one (cell i off)), .none))
  | _, _, _ => .fail
def V.list : V → List Sc
  | .one s => [s]
  | .agg cs => cs
def V.fine : V → Bool
  | .one s => s.flat
  | .agg cs => cs.all Sc.flat
def storeT (h : List Blk) (t : TypeId) (x : AV) (y : AV) : T (AV × Eff) :=
  match tSize P t, x, y with
  | some n, .v (.one (.ptr r off)), .v y => match h[r]? with
    | some k => match k.plain with
      | true => if off + n ≤ k.cells.length then
        if y.list.length = n then
          match y.fine with
          | true => .leaf (.undef, .wr r off y.list)
          | false => .fail
        else .fail
        else .fail
      | false => .fail "row"
    | none => .fail
  | _, _, _ => .fail
def fillA (place : Nat → Option (Nat × Nat)) (cells : List Sc) : List (Nat × V) → Option (List Sc)
  | [] => some cells
  | (i, v) :: rest => match place i with
    | none => none
    | some (off, size) => if v.list.length = size then
        if off + size ≤ cells.length then
          match v.fine with
          | true => fillA place (setAll cells off v.list) rest
          | false => none
        else none
      else none
def partsOf (ts : List AV) : List (Nat × Operand) → Option (List (Nat × V))
  | [] => some []
  | (i, x) :: r => match opd ts x, partsOf ts r with
    | .v y, some l => some ((i, y) :: l)
    | _, _ => none
def placesOf : List Field → Option (List (Nat × Nat))
  | [] => some []
  | f :: r => match tSize P f.type, placesOf r with
    | some n, some l => some ((f.offset, n) :: l)
    | _, _ => none
def buildV (t : TypeId) (parts : List (Nat × V)) : Option (List Sc) :=
  match zeroV P t with
  | some z => match z.fine with
    | true => match P.underlying t with
      | some (.struct fs) => match placesOf P fs.toList with
        | some pl => fillA (fun i => pl[i]?) z.list parts
        | none => none
      | some (.array _ e) => match tSize P e with
        | some sz => fillA (fun i => some (i * sz, sz)) z.list parts
        | none => none
      | _ => none
    | false => none
  | none => none
def lenT (t : TypeId) (x : AV) : T AV :=
  match P.underlying t, x with
  | some (.array n _), _ => mkI true .i64 (n : Int)
  | some (.slice _), .v (.one (.xs _ _ _ len _)) => mkI false .i64 (len : Int)
  | some (.slice _), .v (.one (.os _ _ len _)) => mkI true .i64 (len : Int)
  | some (.slice _), .v (.one .nos) => mkI true .i64 0
  | some (.slice _), .v (.one (.gs _ _ _ _ len _)) => mkI false .i64 (len : Int)
  | some (.slice _), .v (.one (.xr _ _ _ len _)) => mkI false .i64 (len : Int)
  | some (.slice _), .v (.one (.fz _ f)) => mkI false .i64 (f.xs.length : Int)
  | some .string, .v (.one (.val (.string s))) => mkI false .i64 (s.size : Int)
  | _, _ => .fail
def capT (t : TypeId) (x : AV) : T AV :=
  match P.underlying t, x with
  | some (.slice _), .v (.one (.os _ _ _ cap)) => mkI true .i64 (cap : Int)
  | some (.slice _), .v (.one .nos) => mkI true .i64 0
  | some (.slice _), .v (.one (.gs _ _ _ _ _ cap)) => mkI false .i64 (cap : Int)
  | some (.slice _), .v (.one (.xr _ _ _ _ cap)) => mkI false .i64 (cap : Int)
  | _, _ => .fail
/-- Bytes as a text. -/
def strOf (xs : List Int) : ByteArray := xs.foldl (fun r n => r.push (UInt8.ofNat n.toNat)) ByteArray.empty
/-- Numbers of their kinds. -/
def intsAs (ks : List IntKind) : Nat → List Sc → Option (List Int)
  | _, [] => some []
  | j, .int _ k n :: l => if k = ks.getD (j % ks.length) .u8 then match intsAs ks (j + 1) l with
      | some ys => some (n :: ys)
      | none => none
    else none
  | _, _ => none
/-- Bytes to a text. -/
def bytesT (h : List Blk) (x : AV) : T (AV × Eff) :=
  match x with
  | .v (.one (.xr a ks xs len _)) => if ks = [.u8] then .chk (XR w0 a ks xs len) (.leaf (.v (.one (.val (.string (strOf xs)))), .none)) else .fail
  | .v (.one (.gs r nl sz off len _)) => match rowOf h r with
    | some (nl', ks, xs, _, _) => if ks = [.u8] ∧ sz = 1 then .chk (nl = nl' ∧ off + len ≤ xs.length) (.leaf (.v (.one (.val (.string (strOf (cutL xs off (off + len) 1))))), .rd r 0 1)) else .fail
    | none => .fail
  | .v (.one .nos) => .leaf (.v (.one (.val (.string (strOf [])))), .none)
  | _ => .fail
def minmaxT (mx : Bool) : List AV → T AV
  | [.v (.one (.int l k a)), .v (.one (.int l' _ b))] => mkI (l && l') k (if mx then (if b > a then b else a) else (if b < a then b else a))
  | _ => .fail

def argsOf (ts : List AV) (l : List Operand) : List AV := l.map (opd ts)
def capsOf (ts : List AV) : List Operand → Option (List (Nat × Nat))
  | [] => some []
  | x :: r => match opd ts x, capsOf ts r with
    | .v (.one (.ptr r off)), some l => some ((r, off) :: l)
    | _, _ => none
def capA (c : Nat × Nat) : AV := .v (.one (.ptr c.1 c.2))

def newT (_ : ASt) (cells : List Sc) (t : TypeId) (x : AV) : T (AV × Eff) := match cells.all Sc.real with
  | true => .leaf (x, .new ⟨cells, t⟩)
  | false => .fail
/-- A contract's call: what it comes to, and which block it looks at. -/
def ctrT (h : List Blk) : T AV × Option Nat → T (AV × Eff)
  | (t, none) => t.map fun v => (v, .none)
  | (t, some r) => match h[r]? with
    | some k => match k.plain with
      | true => t.map fun v => (v, .rd r 0 k.cells.length)
      | false => .fail "row"
    | none => .fail "block"
/- A contract from without: what a call comes to. -/
variable (ctr : FuncId → List AV → List Blk → Option (T AV × Option Nat))
def locT (s : ASt) (o : Oper) : T (AV × Eff) :=
  let p (t : T AV) : T (AV × Eff) := t.map fun v => (v, .none)
  match o.op with
  | .move x | .assign x => match opd s.ts x with
    | .any => .fail
    | y => .leaf (y, .none)
  | .pick c x y => match opd s.ts c, opd s.ts x, opd s.ts y with
    | .v (.one (.bool l b)), .v x, .v y => p (fork l b (.leaf (.v x)) (.leaf (.v y)))
    | .v (.one (.bool true true)), .v x, _ => p (.leaf (.v x))
    | .v (.one (.bool true false)), _, .v y => p (.leaf (.v y))
    | _, _, _ => .fail
  | .load t x => loadT P w0 s.h t (opd s.ts x)
  | .store t x y => storeT P s.h t (opd s.ts x) (opd s.ts y)
  | .nilCheck x => match opd s.ts x with
    | .v (.one (.ptr r off)) => .leaf (.v (.one (.ptr r off)), .none)
    | .v (.one (.xp a cell sz len i off)) => .chk (XOk w0 a cell sz len ∧ 0 < len ∧ 0 < sz) (.leaf (.v (.one (.xp a cell sz len i off)), .none))
    | .v (.one (.fn f caps)) => .leaf (.v (.one (.fn f caps)), .none)
    | .v (.one (.rp r sz i q)) => .leaf (.v (.one (.rp r sz i q)), .none)
    | _ => .fail
  | .binOp op t x y _ => p (binT P eqT op t (opd s.ts x) (opd s.ts y))
  | .unOp op _ x => p (unT op (opd s.ts x))
  | .convert src dst x => match P.underlying dst, P.underlying src with
    | some .string, some (.slice e) => match P.underlying e with
      | some (.int .u8) => bytesT w0 s.h (opd s.ts x)
      | _ => .fail
    | _, _ => p (convT P src dst (opd s.ts x))
  | .slice t x lo hi mx => match mx with
    | none => p (sliceT P t (opd s.ts x) (lo.map (opd s.ts)) (hi.map (opd s.ts)))
    | some _ => .fail
  | .field t x f => p (fieldT P t (opd s.ts x) f)
  | .index t x i => p (indexT P t (opd s.ts x) (opd s.ts i))
  | .fieldAddr t x f => p (fieldAddrT P w0 t (opd s.ts x) f)
  | .indexAddr t x i => p (indexAddrT P w0 t (opd s.ts x) (opd s.ts i))
  | .extract x i => p (extractT (opd s.ts x) i)
  | .build t parts => match partsOf s.ts parts.toList with
    | some l => match buildV P t l with
      | some cs => .leaf (.v (.agg cs), .none)
      | none => .fail
    | none => .fail
  | .makeFunc (.func f) first caps =>
    if first.size = 0 then
      match capsOf s.ts caps.toList with
      | some l => .leaf (.v (.one (.fn f l)), .none)
      | none => .fail
    else match first.toList, caps.toList with
      | [x], [] => match opd s.ts x with
        | .v y => match y.wf (lt 0) with
          | true => .leaf (.v (.one (.val (.func (.func f) #[y.γ []] #[]))), .none)
          | false => .fail
        | _ => .fail
      | _, _ => .fail
  | .box e x => match opd s.ts x with
    | .v y => match y.fine with
      | true => newT s y.list e (.v (.one (.ptr s.h.length 0)))
      | false => .fail
    | _ => .fail
  | .alloc e => match zeroV P e with
    | some z => match z.fine with
      | true => newT s z.list e (.v (.one (.ptr s.h.length 0)))
      | false => .fail
    | none => .fail
  | .buildSlice t len parts => match P.underlying t with
    | some (.slice e) => match tSize P e, zeroV P e, partsOf s.ts parts.toList with
      | some sz, some z, some l =>
        if len * sz ≤ 2 ^ 24 then
          if z.list.length = sz then
            if sz = 0 then .fail else
            match z.fine with
            | true => match fillA (fun i => some (i * sz, sz)) ((List.range (len * sz)).map fun i => z.list.getD (i % sz) .nil) l with
              | some cs => newT s cs e (.v (.one (.os s.h.length 0 len len)))
              | none => .fail
            | false => .fail
          else .fail
        else .fail
      | _, _, _ => .fail
    | _ => .fail
  | .call ⟨.builtin b, args, argTypes⟩ => match b, args.toList with
    | .len, [x] => match argTypes[0]? with
      | some t => p (lenT P t (opd s.ts x))
      | none => .fail
    | .cap, [x] => match argTypes[0]? with
      | some t => p (capT P t (opd s.ts x))
      | none => .fail
    | .min, [x, y] => p (minmaxT false [opd s.ts x, opd s.ts y])
    | .max, [x, y] => p (minmaxT true [opd s.ts x, opd s.ts y])
    | _, _ => .fail
  | .call ⟨.value f, args, _⟩ => match opd s.ts f with
    | .v (.one (.fn g caps)) => match ctr g (argsOf s.ts args.toList ++ caps.map capA) s.h with
      | some t => ctrT s.h t
      | none => .fail "contract"
    | _ => .fail
  | _ => .fail

/-! ### Rows that grow -/
/-- The kinds of an element's cells, if all are numbers. -/
def kindsL : List Sc → Option (List IntKind)
  | [] => some []
  | .int _ k _ :: l => match kindsL l with
    | some ks => some (k :: ks)
    | none => none
  | _ => none
def kindsOf (e : TypeId) : Option (List IntKind) := match zeroV P e with
  | some z => match z.fine with
    | true => kindsL z.list
    | false => none
  | none => none
/-- What a slice holds: what is asked for that, how many, and what. -/
def srcT (h : List Blk) (ks : List IntKind) (x : AV) : Option (Prop × Nat × List Int) :=
  match x with
  | .v (.one (.xr a ks' xs len cap)) => if ks' = ks then some (XR w0 a ks xs len ∧ len ≤ cap, len, xs) else none
  | .v (.one (.gs r nl sz off len cap)) => match rowOf h r with
    | some (nl', ks', xs, _, _) => if ks' = ks ∧ sz = ks.length then some (nl = nl' ∧ (off + len) * sz ≤ xs.length ∧ len ≤ cap, len, cutL xs off (off + len) sz) else none
    | none => none
  | .v (.one (.os r off len cap)) => match h[r]? with
    | some k => match k.plain, intsAs ks 0 ((k.cells.drop off).take (len * ks.length)) with
      | true, some ys => if ys.length = len * ks.length ∧ len ≤ cap then some (True, len, ys) else none
      | _, _ => none
    | none => none
  | .v (.one .nos) => some (True, 0, [])
  | .v (.one (.iz r b off xs cap)) => match h[r]? with
    | some k => match k.cells with
      | [.keep L _] => if ks = [.u8] then some (xs.length ≤ cap ∧ ∃ C t fr, L b = some (.cells C t fr) ∧ ∀ j, j < xs.length → C[off + j]? = some (.int .u8 (xs.getD j 0)), xs.length, xs) else none
      | _ => none
    | none => none
  | _ => none
def kill (h : List Blk) (r : Nat) : List Blk := updBlk h r fun k => ⟨[.dead], k.t⟩
structure Dst where
  ask : Prop
  nl : Bool
  len : Nat
  xs : List Int
  h : List Blk
/-- What is appended to. -/
def dstT (h : List Blk) (e : TypeId) (ks : List IntKind) (x : AV) : Option Dst :=
  match x with
  | .v (.one .nos) => some ⟨True, true, 0, [], h⟩
  | .v (.one (.os r off len cap)) => match h[r]? with
    | some k => match k.plain, intsAs ks 0 (k.cells.take (len * ks.length)) with
      | true, some ys => if off = 0 ∧ k.cells.length = cap * ks.length ∧ len ≤ cap ∧ cap ≤ 65536 ∧ ys.length = len * ks.length ∧ k.t = e then some ⟨True, false, len, ys, kill h r⟩ else none
      | _, _ => none
    | none => none
  | .v (.one (.gs r nl sz off len cap)) => match rowOf h r with
    | some (nl', ks', xs, cap', t') => if ks' = ks ∧ sz = ks.length ∧ t' = e then some ⟨nl = nl' ∧ off = 0 ∧ cap = cap' ∧ len * ks.length ≤ xs.length ∧ len ≤ cap ∧ cap ≤ maxLen ∧ (nl = true → cap = 0), nl, len, xs.take (len * ks.length), kill h r⟩ else none
    | none => none
  | _ => none
/-- A slice that has grown: by m, to n. -/
structure Grown (nl : Bool) (m n : Nat) where
  nl' : Bool
  cap : Nat
  nil : nl' = true ↔ (nl = true ∧ m = 0)
  none : nl' = true → cap = 0
  le : n ≤ cap
  max : cap ≤ maxLen
def FrOf (s : Int) (xs : List Int) : Type := { f : Fr // f.s = s ∧ f.xs = xs }
/-- Frames that are appended, and what is left: bytes that one has are nobody else's from then on. -/
def frSrcT (h : List Blk) (e : TypeId) (y : AV) : T (List Fr × List Blk) := match y with
  | .v (.one .nos) => .leaf ([], h)
  | .v (.one (.gs r nl sz off len _)) => match frOf h r with
    | some (nl', fs, _, t') => match Nat.beq sz 2 && Nat.beq t' e with
      | true => .chk (nl = nl' ∧ off + len ≤ fs.length) (.leaf ((fs.drop off).take len, h))
      | false => .fail "frames"
    | none => .fail "frames"
  | .v (.one (.os r off 1 _)) => match h[r]? with
    | some k => match k.plain, k.cells[off]?, k.cells[off + 1]? with
      | true, some (.int _ .u8 s), some .nos => .all fun f : FrOf s [] => .leaf ([f.1], h)
      | true, some (.int _ .u8 s), some (.xr a [.u8] xs len _) => .chk (XR w0 a [.u8] xs len) (.all fun f : FrOf s xs => .leaf ([f.1], h))
      | true, some (.int _ .u8 s), some (.fz r2 g) => match frOf h r2 with
        | some (_, fs, _, _) => .chk (g ∈ fs) (.all fun f : FrOf s g.xs => .leaf ([f.1], h))
        | none => .fail "frames"
      | true, some (.int _ .u8 s), some (.gs r2 nl 1 o len _) => match rowOf h r2 with
        | some (nl', [.u8], xs, _, _) => .chk (nl = nl' ∧ o + len ≤ xs.length) (.all fun f : FrOf s (cutL xs o (o + len) 1) => .leaf ([f.1], kill h r2))
        | _ => .fail "frame's row"
      | _, _, _ => .fail "frame"
    | none => .fail "frame"
  | _ => .fail "frames"
structure DstF where
  ask : Prop
  nl : Bool
  len : Nat
  fs : List Fr
  h : List Blk
def frDst (h : List Blk) (e : TypeId) (x : AV) : Option DstF := match x with
  | .v (.one .nos) => some ⟨True, true, 0, [], h⟩
  | .v (.one (.gs r nl sz off len cap)) => match frOf h r with
    | some (nl', fs, cap', t') => match Nat.beq sz 2 && Nat.beq t' e with
      | true => some ⟨nl = nl' ∧ off = 0 ∧ cap = cap' ∧ len ≤ fs.length ∧ len ≤ cap ∧ cap ≤ maxLen ∧ (nl = true → cap = 0), nl, len, fs.take len, kill h r⟩
      | false => none
    | none => none
  | _ => none
/-- An element is a number and a slice. -/
def isFr (i : TypeInfo) : Bool := Nat.beq i.size 2 && match i.zero with
  | some (.agg z) => match z.toList with
    | [.int .u8 0, .slice none 0 0] => true
    | _ => false
  | _ => false
def appendF (s : ASt) (e : TypeId) (i : TypeInfo) (x y : AV) : T (AV × Eff) :=
  (frSrcT w0 s.h e y).bind fun src => match frDst src.2 e x with
    | some d => .chk (d.ask ∧ (d.len + src.1.length) * i.bytes ≤ 140737488355328) (.all fun g : Grown d.nl src.1.length (d.len + src.1.length) =>
        .leaf (.v (.one (.gs s.h.length g.nl' 2 0 (d.len + src.1.length) g.cap)), .full (d.h ++ [⟨[.frs g.nl' (d.fs ++ src.1) g.cap], e⟩])))
    | none => .fail "append frames"
/-- Zeros behind nothing. -/
def appendZ (s : ASt) (e : TypeId) (x y : AV) : T (AV × Eff) :=
  match x, y, P.info? e with
  | .v (.one .nos), .v (.one (.int _ _ n)), some i => match i.zero with
    | some (.int k z) => if i.size = 1 ∧ z = 0 ∧ 0 < i.bytes then
        .chk (0 ≤ n ∧ n.toNat * i.bytes ≤ 140737488355328) (.all fun g : Grown true n.toNat n.toNat => .leaf (.v (.one (.gs s.h.length g.nl' 1 0 n.toNat g.cap)), .full (s.h ++ [⟨[.row g.nl' [k] (List.replicate n.toNat 0) g.cap], e⟩])))
      else .fail "zeros"
    | _ => .fail "zeros"
  | _, _, _ => .fail "zeros"
def appendT (s : ASt) (ats : Array TypeId) (x y : AV) : T (AV × Eff) :=
  match ats.toList with
  | [t, t'] => match P.underlying t, P.underlying t' with
    | some (.slice e), some (.slice _) => match kindsOf P e, P.info? e with
      | some ks, some i => if t' = t ∧ i.size = ks.length ∧ 0 < ks.length ∧ 0 < i.bytes then
          match srcT w0 s.h ks y, dstT s.h e ks x with
          | some (pre, m, ys), some d => .chk (pre ∧ d.ask ∧ (d.len + m) * i.bytes ≤ 140737488355328) (.all fun g : Grown d.nl m (d.len + m) =>
              .leaf (.v (.one (.gs s.h.length g.nl' ks.length 0 (d.len + m) g.cap)), .full (d.h ++ [⟨[.row g.nl' ks (d.xs ++ ys) g.cap], e⟩])))
          | _, _ => .fail "append"
        else .fail
      | none, some i => match isFr i && Nat.beq t t' && Nat.blt 0 i.bytes with
       | true => appendF w0 s e i x y
       | false => .fail "append"
      | _, _ => .fail
    | some (.slice e), some (.int _) => appendZ P s e x y
    | _, _ => .fail
  | _ => .fail
def copyT (s : ASt) (ats : Array TypeId) (x y : AV) : T (AV × Eff) :=
  match ats.toList with
  | [t, t'] => match P.underlying t, P.underlying t' with
    | some (.slice e), some (.slice _) => match kindsOf P e, P.info? e with
      | some ks, some i => if i.size = ks.length ∧ ks.length = 1 then
          match srcT w0 s.h ks y, x with
          | some (pre, m, ys), .v (.one (.gs r nl sz off len _)) => match rowOf s.h r with
            | some (nl', ks', xs, cap', t') => if ks' = ks ∧ sz = ks.length then
                .chk (pre ∧ nl = nl' ∧ (off + len) * ks.length ≤ xs.length) (.leaf (.v (.one (.int false .i64 (min m len : Nat))), .full (updBlk s.h r fun k => ⟨[.row nl' ks (xs.take (off * ks.length) ++ ys.take (min m len * ks.length) ++ xs.drop ((off + min m len) * ks.length)) cap'], k.t⟩)))
              else .fail
            | none => .fail
          | _, _ => .fail "copy"
        else .fail
      | _, _ => .fail
    | _, _ => .fail
  | _ => .fail
def storeRow (s : ASt) (t : TypeId) (x y : AV) : T (AV × Eff) :=
  match x, y with
  | .v (.one (.rp r sz i q)), .v (.one (.int _ k n)) => match rowOf s.h r, tSize P t with
    | some (nl, ks, xs, cap, _), some 1 => if sz = ks.length ∧ q < sz ∧ k = ks.getD q .u8 then
        .chk (nl = false ∧ i * sz + q < xs.length) (.leaf (.undef, .full (updBlk s.h r fun k => ⟨[.row nl ks (xs.set (i * sz + q) n) cap], k.t⟩)))
      else .fail
    | _, _ => .fail
  | _, _ => .fail
/-- A row of zeros. -/
def makeT (s : ASt) (t : TypeId) (l c : AV) : T (AV × Eff) :=
  match P.underlying t, l, c with
  | some (.slice e), .v (.one (.int _ _ n)), .v (.one (.int _ _ m)) => match P.info? e with
    | some i => match i.zero with
      | some (.int k z) => if i.size = 1 ∧ z = 0 then
          .chk (0 ≤ n ∧ n ≤ m ∧ m * (i.bytes : Int) ≤ 140737488355328 ∧ m ≤ 140737488355328) (.leaf (.v (.one (.gs s.h.length false 1 0 n.toNat m.toNat)), .full (s.h ++ [⟨[.row false [k] (List.replicate n.toNat 0) m.toNat], e⟩])))
        else .fail "make"
      | _ => .fail "make"
    | none => .fail "make"
  | _, _, _ => .fail "make"
/-- A block with bytes that is marked: as it is from then on. -/
structure IzOf (xs : List Int) (off : Nat) where
  b : Nat
  C : Array Value
  t : TypeId
  fr : Nat × Nat
  it : ∀ j, j < xs.length → C[off + j]? = some (.int .u8 (xs.getD j 0))
def izL {xs : List Int} {off : Nat} (z : IzOf xs off) : Nat → Option Obj := fun b => if b = z.b then some (.cells z.C z.t z.fr) else none
def convB (s : ASt) (src dst e : TypeId) (r off len cap : Nat) : T (AV × Eff) :=
  match Nat.beq src dst, P.underlying e, s.h[r]? with
  | true, some (.int .u8), some k => match k.plain, intsAs [.u8] 0 ((k.cells.drop off).take len) with
    | true, some xs => match Nat.beq xs.length len with
      | true => .all fun z : IzOf xs off => .leaf (.v (.one (.iz s.h.length z.b off xs cap)), .full (kill s.h r ++ [⟨[.keep (izL z) fun _ => false], k.t⟩]))
      | false => .fail "mark"
    | _, _ => .fail "mark"
  | _, _, _ => .fail "mark"
def isRp : AV → Bool
  | .v (.one (.rp _ _ _ _)) => true
  | _ => false
/-- Rows are written, or grow. -/
def rowT (s : ASt) (o : Oper) : Option (T (AV × Eff)) :=
  match o.op with
  | .store t x y => match isRp (opd s.ts x) with
    | true => some (storeRow P s t (opd s.ts x) (opd s.ts y))
    | false => none
  | .convert src dst x => match P.underlying src, P.underlying dst, opd s.ts x with
    | some (.slice e), some (.slice _), .v (.one (.os r off len cap)) => some (convB P s src dst e r off len cap)
    | _, _, _ => none
  | .makeSlice t l c => some (makeT P s t (opd s.ts l) (opd s.ts c))
  | .call ⟨.builtin b, args, ats⟩ => match b, args.toList with
    | .append, [x, y] => some (appendT P w0 s ats (opd s.ts x) (opd s.ts y))
    | .copy, [x, y] => some (copyT P w0 s ats (opd s.ts x) (opd s.ts y))
    | _, _ => none
  | _ => none

/- The call of a Go function that is walked in place. -/
variable (call : FuncId → List AV → List Blk → T (AV × List Blk))
def opT (s : ASt) (o : Oper) : T (AV × Eff) :=
  match o.op with
  | .call ⟨.value f, args, _⟩ => match opd s.ts f with
    | .v (.one (.fn g caps)) => match ctr g (argsOf s.ts args.toList ++ caps.map capA) s.h with
      | some t => ctrT s.h t
      | none => (call g (argsOf s.ts args.toList ++ caps.map capA) s.h).map fun r => (r.1, .full r.2)
    | .v (.one (.val (.func (.func g) first caps))) => match first.toList, caps.toList with
      | [v], [] => (call g (.v (.one (.val v)) :: argsOf s.ts args.toList) s.h).map fun r => (r.1, .full r.2)
      | _, _ => .fail
    | _ => .fail
  | _ => match rowT P w0 s o with
    | some t => t
    | none => locT P w0 eqT ctr s o

def putA (ts : List AV) (d : Option Tmp) (v : AV) : List AV := match d with
  | some t => ts.set t v
  | none => ts
/-- What was asked for is known behind that. -/
def knows (l : Bool) (ts : List AV) (t : Tmp) (b : Bool) : List AV := match l with
  | true => ts
  | false => ts.set t (.v (.one (.bool true b)))
def knowsO (l : Bool) (ts : List AV) (x : Operand) (b : Bool) : List AV := match x with
  | .tmp t => knows l ts t b
  | _ => ts
/-- An operation with a guard: is it wanted? -/
def wantT {α : Type} (ops : Array Oper) (ts : List AV) (o : Oper) (yes no : List AV → T α) : T α :=
  match o.guard with
  | none => yes ts
  | some (g, want) => match (ops[g]?).bind (·.dst) with
    | none => no ts
    | some t => match ts[t]? with
      | none => no ts
      | some (.v (.one (.bool l b))) => match want with
        | true => fork l b (yes (knows l ts t true)) (no (knows l ts t false))
        | false => fork l b (no (knows l ts t true)) (yes (knows l ts t false))
      | some .undef => no ts
      | _ => .fail
def regSeq (ops : Array Oper) : List Oper → ASt → T ASt
  | [], s => .leaf s
  | o :: rest, s => wantT ops s.ts o
      (fun ts => ((opT P w0 eqT ctr call ⟨ts, s.h⟩ o).tag o.pos).bind fun r => match r.1.wf (lt (r.2.app s.h).length) && r.2.wf (lt s.h.length) with
        | true => regSeq ops rest ⟨putA ts o.dst r.1, r.2.app s.h⟩
        | false => .fail)
      (fun ts => regSeq ops rest ⟨putA ts o.dst .undef, s.h⟩)

/-! ### A region without memory, whose paths are made one -/
def pureB (ts : List AV) (o : Oper) : Option (T AV) :=
  match o.op with
  | .move x | .assign x => match opd ts x with
    | .any => none
    | y => some (.leaf y)
  | .binOp op t x y _ => some (binT P eqT op t (opd ts x) (opd ts y))
  | .pick c x y => match opd ts c, opd ts x, opd ts y with
    | .v (.one (.bool l b)), .v x, .v y => some (fork l b (.leaf (.v x)) (.leaf (.v y)))
    | .v (.one (.bool true true)), .v x, _ => some (.leaf (.v x))
    | .v (.one (.bool true false)), _, .v y => some (.leaf (.v y))
    | _, _, _ => none
  | _ => none
def regSeqB (n : Nat) (ops : Array Oper) : List Oper → List AV → T (List AV)
  | [], ts => .leaf ts
  | o :: rest, ts => wantT ops ts o
      (fun ts => match pureB P eqT ts o with
        | some t => (t.tag o.pos).bind fun x => match x.wf (lt n) with
          | true => regSeqB n ops rest (putA ts o.dst x)
          | false => .fail
        | none => .fail "merge")
      (fun ts => regSeqB n ops rest (putA ts o.dst .undef))
def mergeB {β : Type} (k : Nat) : T (List AV) → (Bool → T β) → T β
  | .leaf ts, f => match ts[k]? with
    | some (.v (.one (.bool _ b))) => f b
    | _ => .fail "merge"
  | .br c t e, f => mergeB k t fun bt => mergeB k e fun be => f (bif c then bt else be)
  | _, _ => .fail "merge"
/-- All that the operations name is forgotten. -/
def blank : List Oper → List AV → List AV
  | [], ts => ts
  | o :: l, ts => putA (blank l ts) o.dst .any

structure Rec where
  v : AV
  want : Bool
  eff : Eff
  n : Nat
def regAny (ops : Array Oper) : List Oper → ASt → List Rec → T (ASt × List Rec)
  | [], s, acc => .leaf (s, acc.reverse)
  | o :: rest, s, acc => wantT ops s.ts o
      (fun ts => ((locT P w0 eqT ctr ⟨ts, s.h⟩ o).tag o.pos).bind fun r => match r.1.wf (lt (r.2.app s.h).length) && r.2.wf (lt s.h.length) with
        | true => regAny ops rest ⟨putA ts o.dst r.1, r.2.app s.h⟩ (⟨r.1, true, r.2, s.h.length⟩ :: acc)
        | false => .fail)
      (fun ts => regAny ops rest ⟨putA ts o.dst .undef, s.h⟩ (⟨.undef, false, .none, s.h.length⟩ :: acc))

/-! ### Orders one by one, where calls stand among them -/
/-- What an operation comes to that looks at no memory. -/
def pureT (ts : List AV) (o : Oper) : Option (T AV) :=
  match o.op with
  | .move x | .assign x => match opd ts x with
    | .any => some .fail
    | y => some (.leaf y)
  | .slice t x lo hi none => some (sliceT P t (opd ts x) (lo.map (opd ts)) (hi.map (opd ts)))
  | .binOp op t x y _ => some (binT P eqT op t (opd ts x) (opd ts y))
  | .field t x f => some (fieldT P t (opd ts x) f)
  | .indexAddr t x i => some (indexAddrT P w0 t (opd ts x) (opd ts i))
  | .build t parts => match partsOf ts parts.toList with
    | some l => match buildV P t l with
      | some cs => some (.leaf (.v (.agg cs)))
      | none => none
    | none => none
  | .convert src dst x => match P.underlying dst with
    | some .string => none
    | some (.int _) => some (convT P src dst (opd ts x))
    | _ => none
  | .extract x i => some (extractT (opd ts x) i)
  | .makeFunc (.func f) first caps =>
    if first.size = 0 then
      match capsOf ts caps.toList with
      | some l => some (.leaf (.v (.one (.fn f l))))
      | none => none
    else none
  | .fieldAddr t x f => some (fieldAddrT P w0 t (opd ts x) f)
  | _ => none
/-- All of them. -/
def conjT {α : Type} : List (T α) → T α
  | [] => .fail "none"
  | [t] => t
  | t :: l => .all fun b : Bool => .br b t (conjT l)
def mixT (ops : Array Oper) : Nat → Array Bool → ASt → T ASt
  | 0, listed, s => match Region.ready .any ops listed with
    | [] => .leaf s
    | _ => .fail "fuel"
  | g + 1, listed, s => match Region.ready .any ops listed with
    | [] => .leaf s
    | rs => match rs.find? (fun i => (match ops[i]? with
        | some o => (pureT P w0 eqT s.ts o).isSome
        | none => false) && Region.free .any ops listed i) with
      | some i => match ops[i]? with
        | some o => wantT ops s.ts o
            (fun ts => match pureT P w0 eqT ts o with
              | some t => (t.tag o.pos).bind fun x => match x.wf (lt s.h.length) with
                | true => mixT ops g (listed.setIfInBounds i true) ⟨putA ts o.dst x, s.h⟩
                | false => .fail
              | none => .fail)
            (fun ts => mixT ops g (listed.setIfInBounds i true) ⟨putA ts o.dst .undef, s.h⟩)
        | none => .fail
      | none => conjT (rs.map fun i => match ops[i]? with
        | some o => wantT ops s.ts o
            (fun ts => ((opT P w0 eqT ctr call ⟨ts, s.h⟩ o).tag o.pos).bind fun r => match r.1.wf (lt (r.2.app s.h).length) && r.2.wf (lt s.h.length) with
              | true => mixT ops g (listed.setIfInBounds i true) ⟨putA ts o.dst r.1, r.2.app s.h⟩
              | false => .fail)
            (fun ts => mixT ops g (listed.setIfInBounds i true) ⟨putA ts o.dst .undef, s.h⟩)
        | none => .fail)
/-- Who comes ahead of whom, by the edges: a number's bits. -/
def ancE (acc : List Nat) : List Edge → Nat
  | [] => 0
  | e :: r => match Region.binds .any e with
    | true => (2 ^ e.on ||| acc.getD e.on 0) ||| ancE acc r
    | false => ancE acc r
def ancs : List Oper → List Nat → List Nat
  | [], acc => acc
  | o :: l, acc => ancs l (acc ++ [ancE acc o.after.toList])
/-- j comes ahead of i. -/
def anc (ops : Array Oper) (i j : Nat) : Bool := ((ancs ops.toList []).getD i 0).testBit j
def opTmps (ops : Array Oper) (o : Oper) : List Tmp :=
  (o.op.operands.toList.filterMap fun | .tmp t => some t | _ => none) ++
  (match o.guard with
   | some (g, _) => ((ops[g]?).bind (·.dst)).toList
   | none => [])
def hits : Eff → Eff → Bool
  | .wr r off cs, .wr r' off' cs' => r == r' && !(off + cs.length ≤ off' || off' + cs'.length ≤ off)
  | .wr r off cs, .rd r' off' n => r == r' && !(off + cs.length ≤ off' || off' + n ≤ off)
  | .rd r' off' n, .wr r off cs => r == r' && !(off + cs.length ≤ off' || off' + n ≤ off)
  | .full _, _ => true
  | _, .full _ => true
  | _, _ => false
/-- What an operation looks at, or writes, is not in block r; nor does it name it. -/
def Eff.off (r : Nat) : Eff → Bool
  | .rd r' _ _ => !(r' == r)
  | .wr r' _ cs => !(r' == r) && cs.all (Sc.wf fun x => !(x == r))
  | .new k => k.cells.all (Sc.wf fun x => !(x == r))
  | _ => true
def Rec.free (a b : Rec) : Bool := match a.eff with
  | .new _ => b.eff.off a.n && b.v.wf (fun x => !(x == a.n))
  | _ => true
/-- Two operations, the first ahead of the second in the text: either they are in order by the edges, or neither minds the other. -/
def pairOk (ops : Array Oper) (i j : Nat) (oi oj : Oper) (ri rj : Rec) : Bool :=
  anc ops j i ||
  (!(hits ri.eff rj.eff) && ri.free rj &&
   (match oi.dst with
    | some d => !(opTmps ops oj).contains d && oj.dst != some d
    | none => true) &&
   (match oj.dst with
    | some d => !(opTmps ops oi).contains d
    | none => true))
def edgesOk (i : Nat) (o : Oper) : Bool := o.after.toList.all fun e => !Region.binds .any e || decide (e.on < i)
def okAfter (ops : Array Oper) (i : Nat) (o : Oper) (e : Rec) : Nat → List Oper → List Rec → Bool
  | _, [], _ => true
  | _, _ :: _, [] => false
  | j, o' :: l, r :: rs => pairOk ops i j o o' e r && okAfter ops i o e (j + 1) l rs
def okOrder (ops : Array Oper) : Nat → List Oper → List Rec → Bool
  | _, [], _ => true
  | _, _ :: _, [] => false
  | i, o :: l, r :: rs => edgesOk i o && okAfter ops i o r (i + 1) l rs && okOrder ops (i + 1) l rs

/-- Behind all others, one by one. -/
def lastOk (ops : Array Oper) (t : Nat) : Bool := match ops[t]? with
  | some o => edgesOk t o && (List.range t).all fun i => anc ops t i
  | none => false
/-- Where the operations begin that stand behind all others, one by one. -/
def tailAt (ops : Array Oper) : Nat → Nat
  | 0 => 0
  | t + 1 => match lastOk ops t with
    | true => tailAt ops t
    | false => t + 1

inductive Ex where
  | normal
  | exit (id : Nat)
  | ret
  | goto (l : Nat)
/- A loop's contract, from without: by the block's number that holds it; the loop's text is told beside it. -/
variable (lc : Nat → ASt → Option (Code × T (Ex × ASt)))
def iter (body : ASt → T (Ex × ASt)) : Nat → ASt → T (Ex × ASt)
  | 0, _ => .fail "rounds"
  | n + 1, s => (body s).bind fun r => match r.1 with
    | .normal => iter body n r.2
    | e => .leaf (e, r.2)
/-- A sequence that is told from without, by the region that it begins with. -/
def cutAt (a : Code) (s : ASt) : Option (Code × T (Ex × ASt)) := match a with
  | .region id _ _ => lc (20000 + id) s
  | _ => none
def codeT : Code → ASt → T (Ex × ASt)
  | .skip, s => .leaf (.normal, s)
  | .region id ops false, s => match lc (9000 + id) s with
    | some _ => match (ops.toList.getLast?).bind (·.dst) with
      | some k => mergeB k (regSeqB P eqT s.h.length ops ops.toList s.ts) fun b => .leaf (.normal, ⟨(blank ops.toList s.ts).set k (.v (.one (.bool false b))), s.h⟩)
      | none => .fail "merge"
    | none => (regSeq P w0 eqT ctr call ops ops.toList s).map fun s => (.normal, s)
  | .region id ops true, s => match lc (5000 + id) s with
    | some _ => match Region.noSelect ops with
      | true => (mixT P w0 eqT ctr call ops ops.size (Array.replicate ops.size false) s).map fun s => (.normal, s)
      | false => .fail
    | none => (regAny P w0 eqT ctr ops (ops.toList.take (tailAt ops ops.size)) s []).bind fun r =>
      match okOrder ops 0 (ops.toList.take (tailAt ops ops.size)) r.2 with
      | true => (regSeq P w0 eqT ctr call ops (ops.toList.drop (tailAt ops ops.size)) r.1).map fun s => (.normal, s)
      | false => .fail "order"
  | .seq a b, s => match cutAt lc a s with
    | some (body', t) => .chk (Code.seq a b = body') t
    | none => (codeT a s).bind fun r => match r.1 with
      | .normal => codeT b r.2
      | e => .leaf (e, r.2)
  | .cond c t e, s => match opd s.ts c with
    | .v (.one (.bool l b)) => fork l b (codeT t ⟨knowsO l s.ts c true, s.h⟩) (codeT e ⟨knowsO l s.ts c false, s.h⟩)
    | _ => .fail
  | .block id body, s => match lc id s with
    | some (body', t) => .chk (body = body') (t.map fun r => match r.1 with
      | .exit id' => if id' = id then (.normal, r.2) else r
      | _ => r)
    | none => (codeT body s).map fun r => match r.1 with
      | .exit id' => if id' = id then (.normal, r.2) else r
      | _ => r
  | .loop body, s => iter (codeT body) 300 s
  | .scope body, s => match lc 777 s with
    | some (body', t) => .chk (Code.scope body = body') t
    | none => (codeT body s).bind fun r => match r.1 with
      | .goto _ => .fail "goto"
      | e => .leaf (e, r.2)
  | .label _, s => .leaf (.normal, s)
  | .goto l, s => .leaf (.goto l, s)
  | .exit id, s => .leaf (.exit id, s)
  | .ret, s => .leaf (.ret, s)
  | _, _ => .fail "code"
end

def resT (P : Program) (w0 : World) (s : ASt) : ResultVar → T AV
  | .tmp t => match s.ts[t]? with
    | some (.v x) => .leaf (.v x)
    | _ => .fail
  | .cell a t => match s.ts[a]? with
    | some x => (loadT P w0 s.h t x).map (·.1)
    | none => .fail
def resAll (P : Program) (w0 : World) (s : ASt) : List ResultVar → T (List V)
  | [] => .leaf []
  | r :: l => (resT P w0 s r).bind fun x => match x with
    | .v y => (resAll P w0 s l).map fun ys => y :: ys
    | _ => .fail
def bodyT (P : Program) (w0 : World) (eqT : TypeId → Bool) (ctr : FuncId → List AV → List Blk → Option (T AV × Option Nat)) (call : FuncId → List AV → List Blk → T (AV × List Blk)) (lc : FuncId → Nat → ASt → Option (Code × T (Ex × ASt))) (f : FuncId) (args : List AV) (h : List Blk) : T (AV × List Blk) := match P.funcs[f]? with
    | some fn => match fn.body with
      | some c => (codeT P w0 eqT ctr call (lc f) c ⟨args ++ List.replicate (fn.ntmps - args.length) .undef, h⟩).bind fun r => match r.1 with
        | .exit _ => .fail
        | .goto _ => .fail
        | _ => (resAll P w0 r.2 fn.results.toList).map fun vs => match vs with
          | [x] => (.v x, r.2.h)
          | vs => (.tuple vs, r.2.h)
      | none => .fail
    | none => .fail
def callT (P : Program) (w0 : World) (eqT : TypeId → Bool) (ctr : FuncId → List AV → List Blk → Option (T AV × Option Nat)) (pre : FuncId → List AV → List Blk → Option (T (AV × List Blk))) (lc : FuncId → Nat → ASt → Option (Code × T (Ex × ASt))) : Nat → FuncId → List AV → List Blk → T (AV × List Blk)
  | 0, _, _, _ => .fail "depth"
  | n + 1, f, args, h => match pre f args h with
   | some t => t
   | none => bodyT P w0 eqT ctr (callT P w0 eqT ctr pre lc n) lc f args h
end Go.Proofs.Ytmbahohmiecfiaa.sym
