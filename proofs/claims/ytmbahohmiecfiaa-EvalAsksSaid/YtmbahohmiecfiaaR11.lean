/-
  Texts are read: signs, digits, spaces, and whether a text stands somewhere. Texts have at most 1000 bytes.
-/
import Derived.Test.YtmbahohmiecfiaaR10
namespace Go.Proofs.Ytmbahohmiecfiaa
open Go.RowKit sym
set_option linter.unusedVariables false
set_option linter.unusedSimpArgs false
set_option maxRecDepth 100000
/-- A sign's text, and its level. -/
def sgS (op : Int) : ByteArray := if op = 7 then ⟨#[124, 124]⟩ else if op = 8 then ⟨#[38, 38]⟩ else if op = 9 then ⟨#[124]⟩ else if op = 10 then ⟨#[94]⟩ else if op = 11 then ⟨#[38]⟩ else if op = 12 then ⟨#[61, 61]⟩ else if op = 13 then ⟨#[33, 61]⟩ else if op = 14 then ⟨#[60]⟩ else if op = 15 then ⟨#[60, 61]⟩ else if op = 16 then ⟨#[62]⟩ else if op = 17 then ⟨#[62, 61]⟩ else if op = 18 then ⟨#[60, 60]⟩ else if op = 19 then ⟨#[62, 62]⟩ else if op = 20 then ⟨#[43]⟩ else if op = 21 then ⟨#[45]⟩ else if op = 22 then ⟨#[42]⟩ else if op = 23 then ⟨#[47]⟩ else if op = 24 then ⟨#[37]⟩ else ⟨#[]⟩
def sgL (op : Int) : Int := if op = 7 then 0 else if op = 8 then 1 else if op = 9 then 2 else if op = 10 then 3 else if op = 11 then 4 else if op = 12 then 5 else if op = 13 then 5 else if op = 14 then 6 else if op = 15 then 6 else if op = 16 then 6 else if op = 17 then 6 else if op = 18 then 7 else if op = 19 then 7 else if op = 20 then 8 else if op = 21 then 8 else if op = 22 then 9 else if op = 23 then 9 else if op = 24 then 9 else -1
def signC : FCtr := ⟨39, fun args h => match args, h with
  | [.v (.one (.int _ .i64 op))], [] => some (.leaf (.tuple [.one (.val (.string (sgS op))), .one (.int false .i64 (sgL op))], []))
  | _, _ => none⟩
def digitC : FCtr := ⟨45, fun args h => match args, h with
  | [.v (.one (.int _ .u8 b)), .v (.one (.int _ .i64 base))], [] => some (.all fun x : {x : Int // J6 x} => .leaf (.v (.one (.int false .i64 x.1)), []))
  | _, _ => none⟩
def hasC : FCtr := ⟨44, fun args h => match args, rdOf h with
  | [.v (.one (.ptr 1 0)), .v (.one (.val (.string x)))], some r => some (.chk ((r.so ∧ RdOk r.s r.a r.nl r.xs r.m r.cap r.d) ∧ x.size ≤ 10) (.all fun b : {b : Bool // b = true → r.a + x.size ≤ r.s.size} => .leaf (.v (.one (.bool false b.1)), rdH r.s r.a r.nl r.xs r.m r.cap r.d (.int false .i64 r.e))))
  | _, _ => none⟩
def spaceC : FCtr := ⟨35, fun args h => match args, rdOf h with
  | [.v (.one (.ptr 1 0))], some r => some (.chk (r.so ∧ RdOk r.s r.a r.nl r.xs r.m r.cap r.d) (.all fun x : {x : Int // r.a ≤ x ∧ x ≤ r.s.size} => .leaf (.tuple [], rdH r.s x.1 r.nl r.xs r.m r.cap r.d (.int false .i64 r.e))))
  | _, _ => none⟩
def findC : FCtr := ⟨38, fun args h => match args, rdOf h with
  | [.v (.one (.ptr 1 0))], some r => some (.chk (r.so ∧ RdOk r.s r.a r.nl r.xs r.m r.cap r.d) (.all fun x : {x : Int // x = 0 ∨ (7 ≤ x ∧ x ≤ 24 ∧ r.a + (sgS x).size ≤ r.s.size)} => .leaf (.v (.one (.int false .i64 x.1)), rdH r.s r.a r.nl r.xs r.m r.cap r.d (.int false .i64 r.e))))
  | _, _ => none⟩
structure spP where
structure spX where
  a : Int
def spSt (L : Nat → Option Obj) (O : Nat → Bool) (a0 : Int) (tx : ByteArray) (nl : Bool) (xs : List Int) (m cap : Nat) (d e : Int) : spP → spX → ASt := fun ⟨⟩ ⟨a⟩ => ⟨slots (List.replicate 31 .any) [(0, .v (.one (.ptr 1 0)))], [⟨[.keep L O], 0⟩, ⟨[.val (.string tx), .int false .i64 a, .gs 2 nl 2 0 m cap, .int false .i64 d, .int false .i64 e], 72⟩, ⟨[.row nl [.i64, .i64] xs cap], 60⟩]⟩
def spFin (L : Nat → Option Obj) (O : Nat → Bool) (a0 : Int) (tx : ByteArray) (nl : Bool) (xs : List Int) (m cap : Nat) (d e : Int) : spP → spX → ASt := fun ⟨⟩ ⟨a⟩ => ⟨slots (List.replicate 31 .any) [(0, .v (.one (.ptr 1 0)))], [⟨[.keep L O], 0⟩, ⟨[.val (.string tx), .int false .i64 a, .gs 2 nl 2 0 m cap, .int false .i64 d, .int false .i64 e], 72⟩, ⟨[.row nl [.i64, .i64] xs cap], 60⟩]⟩
def spBck (L : Nat → Option Obj) (O : Nat → Bool) (a0 : Int) (tx : ByteArray) (nl : Bool) (xs : List Int) (m cap : Nat) (d e : Int) : spP → Empty → ASt := fun _ z => nomatch z
def spNxP : ASt → Option spP := fun s => some ⟨⟩
def spNxX : ASt → Option spX := fun s => match hI s 1 1 with | none => none | some a => some ⟨a⟩
def spNxZ : ASt → Option Empty := fun _ => none
def spRo : ASt → List (Option Nat) := (fun _ => [])
def spRf : ASt → List (Option Nat) := (fun _ => [])
def spRb : ASt → List (Option Nat) := (fun _ => [])
structure spInv (L : Nat → Option Obj) (O : Nat → Bool) (a0 : Int) (tx : ByteArray) (nl : Bool) (xs : List Int) (m cap : Nat) (d e : Int) (p : spP) (x : spX) : Prop where
  lo : a0 ≤ x.a ∧ x.a ≤ tx.size
structure spPost (L : Nat → Option Obj) (O : Nat → Bool) (a0 : Int) (tx : ByteArray) (nl : Bool) (xs : List Int) (m cap : Nat) (d e : Int) (p : spP) (x : spX) : Prop where
  lo : a0 ≤ x.a ∧ x.a ≤ tx.size
def spBack (L : Nat → Option Obj) (O : Nat → Bool) (a0 : Int) (tx : ByteArray) (nl : Bool) (xs : List Int) (m cap : Nat) (d e : Int) (p : spP) (x : Empty) : Prop := False
def spLp (L : Nat → Option Obj) (O : Nat → Bool) (a0 : Int) (tx : ByteArray) (nl : Bool) (xs : List Int) (m cap : Nat) (d e : Int) : Lp := ⟨35, 0, fun s => match spNxP s with
  | some p => match spNxX s with
    | some x => some (loopT 0 3 false spRo (spSt L O a0 tx nl xs m cap d e p) (spFin L O a0 tx nl xs m cap d e p) (spBck L O a0 tx nl xs m cap d e p) (spInv L O a0 tx nl xs m cap d e p) (spPost L O a0 tx nl xs m cap d e p) (spBack L O a0 tx nl xs m cap d e p) s x)
    | none => none
  | none => none⟩
structure fiP where
structure fiX where
  best : Int
  op : Int
structure fiY where
  best : Int
def fiSt (L : Nat → Option Obj) (O : Nat → Bool) (tx : ByteArray) (a : Int) (nl : Bool) (xs : List Int) (m cap : Nat) (d e : Int) : fiP → fiX → ASt := fun ⟨⟩ ⟨best, op⟩ => ⟨slots (List.replicate 35 .any) [(0, .v (.one (.ptr 1 0))), (2, .v (.one (.int true .i64 (0)))), (3, .v (.one (.int false .i64 best))), (4, .v (.one (.int false .i64 op)))], [⟨[.keep L O], 0⟩, ⟨[.val (.string tx), .int false .i64 a, .gs 2 nl 2 0 m cap, .int false .i64 d, .int false .i64 e], 72⟩, ⟨[.row nl [.i64, .i64] xs cap], 60⟩]⟩
def fiFin (L : Nat → Option Obj) (O : Nat → Bool) (tx : ByteArray) (a : Int) (nl : Bool) (xs : List Int) (m cap : Nat) (d e : Int) : fiP → fiY → ASt := fun ⟨⟩ ⟨best⟩ => ⟨slots (List.replicate 35 .any) [(0, .v (.one (.ptr 1 0))), (2, .v (.one (.int true .i64 (0)))), (3, .v (.one (.int false .i64 best)))], [⟨[.keep L O], 0⟩, ⟨[.val (.string tx), .int false .i64 a, .gs 2 nl 2 0 m cap, .int false .i64 d, .int false .i64 e], 72⟩, ⟨[.row nl [.i64, .i64] xs cap], 60⟩]⟩
def fiBck (L : Nat → Option Obj) (O : Nat → Bool) (tx : ByteArray) (a : Int) (nl : Bool) (xs : List Int) (m cap : Nat) (d e : Int) : fiP → Empty → ASt := fun _ z => nomatch z
def fiNxP : ASt → Option fiP := fun s => some ⟨⟩
def fiNxX : ASt → Option fiX := fun s => match gI s 3 with | none => none | some best => match gI s 4 with | none => none | some op => some ⟨best, op⟩
def fiNxY : ASt → Option fiY := fun s => match gI s 3 with | none => none | some best => some ⟨best⟩
def fiNxZ : ASt → Option Empty := fun _ => none
def fiRo : ASt → List (Option Nat) := (fun _ => [])
def fiRf : ASt → List (Option Nat) := (fun _ => [])
def fiRb : ASt → List (Option Nat) := (fun _ => [])
structure fiInv (L : Nat → Option Obj) (O : Nat → Bool) (tx : ByteArray) (a : Int) (nl : Bool) (xs : List Int) (m cap : Nat) (d e : Int) (p : fiP) (x : fiX) : Prop where
  o : 7 ≤ x.op ∧ x.op ≤ 25
  b : x.best = 0 ∨ (7 ≤ x.best ∧ x.best ≤ 24 ∧ a + (sgS x.best).size ≤ tx.size)
structure fiPost (L : Nat → Option Obj) (O : Nat → Bool) (tx : ByteArray) (a : Int) (nl : Bool) (xs : List Int) (m cap : Nat) (d e : Int) (p : fiP) (x : fiY) : Prop where
  b : x.best = 0 ∨ (7 ≤ x.best ∧ x.best ≤ 24 ∧ a + (sgS x.best).size ≤ tx.size)
def fiBack (L : Nat → Option Obj) (O : Nat → Bool) (tx : ByteArray) (a : Int) (nl : Bool) (xs : List Int) (m cap : Nat) (d e : Int) (p : fiP) (x : Empty) : Prop := False
def fiLp (L : Nat → Option Obj) (O : Nat → Bool) (tx : ByteArray) (a : Int) (nl : Bool) (xs : List Int) (m cap : Nat) (d e : Int) : Lp := ⟨38, 0, fun s => match fiNxP s with
  | some p => match fiNxX s with
    | some x => some (loopT 0 3 false fiRo (fiSt L O tx a nl xs m cap d e p) (fiFin L O tx a nl xs m cap d e p) (fiBck L O tx a nl xs m cap d e p) (fiInv L O tx a nl xs m cap d e p) (fiPost L O tx a nl xs m cap d e p) (fiBack L O tx a nl xs m cap d e p) s x)
    | none => none
  | none => none⟩
theorem sign_tree (w : World) (L : Nat → Option Obj) (O : Nat → Bool) (op : Int) :
    callT Try.prog w (flatT Try.prog) (noCtr) (noPre) (noLoop) 20 39 [.v (.one (.int false .i64 op))] [⟨[.keep L O], 0⟩] =
(.br (op == (7 : Int))
 (.leaf ((.tuple [(.one (.val (Go.Value.string { data := #[(124 : UInt8), (124 : UInt8)] }))), (.one (.int true .i64 (0)))]), [⟨[(.keep (L) (O))], 0⟩]))
 (.br (op == (8 : Int))
  (.leaf ((.tuple [(.one (.val (Go.Value.string { data := #[(38 : UInt8), (38 : UInt8)] }))), (.one (.int true .i64 (1)))]), [⟨[(.keep (L) (O))], 0⟩]))
  (.br (op == (9 : Int))
   (.leaf ((.tuple [(.one (.val (Go.Value.string { data := #[(124 : UInt8)] }))), (.one (.int true .i64 (2)))]), [⟨[(.keep (L) (O))], 0⟩]))
   (.br (op == (10 : Int))
    (.leaf ((.tuple [(.one (.val (Go.Value.string { data := #[(94 : UInt8)] }))), (.one (.int true .i64 (3)))]), [⟨[(.keep (L) (O))], 0⟩]))
    (.br (op == (11 : Int))
     (.leaf ((.tuple [(.one (.val (Go.Value.string { data := #[(38 : UInt8)] }))), (.one (.int true .i64 (4)))]), [⟨[(.keep (L) (O))], 0⟩]))
     (.br (op == (12 : Int))
      (.leaf ((.tuple [(.one (.val (Go.Value.string { data := #[(61 : UInt8), (61 : UInt8)] }))), (.one (.int true .i64 (5)))]), [⟨[(.keep (L) (O))], 0⟩]))
      (.br (op == (13 : Int))
       (.leaf ((.tuple [(.one (.val (Go.Value.string { data := #[(33 : UInt8), (61 : UInt8)] }))), (.one (.int true .i64 (5)))]), [⟨[(.keep (L) (O))], 0⟩]))
       (.br (op == (14 : Int))
        (.leaf ((.tuple [(.one (.val (Go.Value.string { data := #[(60 : UInt8)] }))), (.one (.int true .i64 (6)))]), [⟨[(.keep (L) (O))], 0⟩]))
        (.br (op == (15 : Int))
         (.leaf ((.tuple [(.one (.val (Go.Value.string { data := #[(60 : UInt8), (61 : UInt8)] }))), (.one (.int true .i64 (6)))]), [⟨[(.keep (L) (O))], 0⟩]))
         (.br (op == (16 : Int))
          (.leaf ((.tuple [(.one (.val (Go.Value.string { data := #[(62 : UInt8)] }))), (.one (.int true .i64 (6)))]), [⟨[(.keep (L) (O))], 0⟩]))
          (.br (op == (17 : Int))
           (.leaf ((.tuple [(.one (.val (Go.Value.string { data := #[(62 : UInt8), (61 : UInt8)] }))), (.one (.int true .i64 (6)))]), [⟨[(.keep (L) (O))], 0⟩]))
           (.br (op == (18 : Int))
            (.leaf ((.tuple [(.one (.val (Go.Value.string { data := #[(60 : UInt8), (60 : UInt8)] }))), (.one (.int true .i64 (7)))]), [⟨[(.keep (L) (O))], 0⟩]))
            (.br (op == (19 : Int))
             (.leaf ((.tuple [(.one (.val (Go.Value.string { data := #[(62 : UInt8), (62 : UInt8)] }))), (.one (.int true .i64 (7)))]), [⟨[(.keep (L) (O))], 0⟩]))
             (.br (op == (20 : Int))
              (.leaf ((.tuple [(.one (.val (Go.Value.string { data := #[(43 : UInt8)] }))), (.one (.int true .i64 (8)))]), [⟨[(.keep (L) (O))], 0⟩]))
              (.br (op == (21 : Int))
               (.leaf ((.tuple [(.one (.val (Go.Value.string { data := #[(45 : UInt8)] }))), (.one (.int true .i64 (8)))]), [⟨[(.keep (L) (O))], 0⟩]))
               (.br (op == (22 : Int))
                (.leaf ((.tuple [(.one (.val (Go.Value.string { data := #[(42 : UInt8)] }))), (.one (.int true .i64 (9)))]), [⟨[(.keep (L) (O))], 0⟩]))
                (.br (op == (23 : Int))
                 (.leaf ((.tuple [(.one (.val (Go.Value.string { data := #[(47 : UInt8)] }))), (.one (.int true .i64 (9)))]), [⟨[(.keep (L) (O))], 0⟩]))
                 (.br (op == (24 : Int))
                  (.leaf ((.tuple [(.one (.val (Go.Value.string { data := #[(37 : UInt8)] }))), (.one (.int true .i64 (9)))]), [⟨[(.keep (L) (O))], 0⟩]))
                  (.leaf ((.tuple [(.one (.val (Go.Value.string { data := #[] }))), (.one (.int true .i64 (-1)))]), [⟨[(.keep (L) (O))], 0⟩])))))))))))))))))))) := by kernel_rfl
theorem digit_tree (w : World) (L : Nat → Option Obj) (O : Nat → Bool) (b base : Int) :
    callT Try.prog w (flatT Try.prog) (noCtr) (noPre) (noLoop) 20 45 [.v (.one (.int false .u8 b)), .v (.one (.int false .i64 base))] [⟨[.keep L O], 0⟩] =
(.br (decide (b ≥ (48 : Int)))
 (.br (decide (b ≤ (57 : Int)))
  (.br (decide (b ≥ (97 : Int)))
   (.br (decide (b ≤ (102 : Int)))
    (.br (decide (b ≥ (65 : Int)))
     (.br (decide (b ≤ (70 : Int)))
      (.br (decide (IntKind.i64.wrap (IntKind.i64.wrap (IntKind.i64.wrap b - (65 : Int)) + (10 : Int)) ≥ base))
       (.leaf ((.v (.one (.int true .i64 (-1)))), [⟨[(.keep (L) (O))], 0⟩]))
       (.leaf ((.v (.one (.int false .i64 (IntKind.i64.wrap (IntKind.i64.wrap (IntKind.i64.wrap b - (65 : Int)) + (10 : Int)))))), [⟨[(.keep (L) (O))], 0⟩])))
      (.br (decide (IntKind.i64.wrap (IntKind.i64.wrap (IntKind.i64.wrap b - (97 : Int)) + (10 : Int)) ≥ base))
       (.leaf ((.v (.one (.int true .i64 (-1)))), [⟨[(.keep (L) (O))], 0⟩]))
       (.leaf ((.v (.one (.int false .i64 (IntKind.i64.wrap (IntKind.i64.wrap (IntKind.i64.wrap b - (97 : Int)) + (10 : Int)))))), [⟨[(.keep (L) (O))], 0⟩]))))
     (.br (decide (IntKind.i64.wrap (IntKind.i64.wrap (IntKind.i64.wrap b - (97 : Int)) + (10 : Int)) ≥ base))
      (.leaf ((.v (.one (.int true .i64 (-1)))), [⟨[(.keep (L) (O))], 0⟩]))
      (.leaf ((.v (.one (.int false .i64 (IntKind.i64.wrap (IntKind.i64.wrap (IntKind.i64.wrap b - (97 : Int)) + (10 : Int)))))), [⟨[(.keep (L) (O))], 0⟩]))))
    (.br (decide (b ≥ (65 : Int)))
     (.br (decide (b ≤ (70 : Int)))
      (.br (decide (IntKind.i64.wrap (IntKind.i64.wrap (IntKind.i64.wrap b - (65 : Int)) + (10 : Int)) ≥ base))
       (.leaf ((.v (.one (.int true .i64 (-1)))), [⟨[(.keep (L) (O))], 0⟩]))
       (.leaf ((.v (.one (.int false .i64 (IntKind.i64.wrap (IntKind.i64.wrap (IntKind.i64.wrap b - (65 : Int)) + (10 : Int)))))), [⟨[(.keep (L) (O))], 0⟩])))
      (.br (decide (IntKind.i64.wrap (IntKind.i64.wrap b - (48 : Int)) ≥ base))
       (.leaf ((.v (.one (.int true .i64 (-1)))), [⟨[(.keep (L) (O))], 0⟩]))
       (.leaf ((.v (.one (.int false .i64 (IntKind.i64.wrap (IntKind.i64.wrap b - (48 : Int)))))), [⟨[(.keep (L) (O))], 0⟩]))))
     (.br (decide (IntKind.i64.wrap (IntKind.i64.wrap b - (48 : Int)) ≥ base))
      (.leaf ((.v (.one (.int true .i64 (-1)))), [⟨[(.keep (L) (O))], 0⟩]))
      (.leaf ((.v (.one (.int false .i64 (IntKind.i64.wrap (IntKind.i64.wrap b - (48 : Int)))))), [⟨[(.keep (L) (O))], 0⟩])))))
   (.br (decide (b ≥ (65 : Int)))
    (.br (decide (b ≤ (70 : Int)))
     (.br (decide (IntKind.i64.wrap (IntKind.i64.wrap (IntKind.i64.wrap b - (65 : Int)) + (10 : Int)) ≥ base))
      (.leaf ((.v (.one (.int true .i64 (-1)))), [⟨[(.keep (L) (O))], 0⟩]))
      (.leaf ((.v (.one (.int false .i64 (IntKind.i64.wrap (IntKind.i64.wrap (IntKind.i64.wrap b - (65 : Int)) + (10 : Int)))))), [⟨[(.keep (L) (O))], 0⟩])))
     (.br (decide (IntKind.i64.wrap (IntKind.i64.wrap b - (48 : Int)) ≥ base))
      (.leaf ((.v (.one (.int true .i64 (-1)))), [⟨[(.keep (L) (O))], 0⟩]))
      (.leaf ((.v (.one (.int false .i64 (IntKind.i64.wrap (IntKind.i64.wrap b - (48 : Int)))))), [⟨[(.keep (L) (O))], 0⟩]))))
    (.br (decide (IntKind.i64.wrap (IntKind.i64.wrap b - (48 : Int)) ≥ base))
     (.leaf ((.v (.one (.int true .i64 (-1)))), [⟨[(.keep (L) (O))], 0⟩]))
     (.leaf ((.v (.one (.int false .i64 (IntKind.i64.wrap (IntKind.i64.wrap b - (48 : Int)))))), [⟨[(.keep (L) (O))], 0⟩])))))
  (.br (decide (b ≥ (97 : Int)))
   (.br (decide (b ≤ (102 : Int)))
    (.br (decide (b ≥ (65 : Int)))
     (.br (decide (b ≤ (70 : Int)))
      (.br (decide (IntKind.i64.wrap (IntKind.i64.wrap (IntKind.i64.wrap b - (65 : Int)) + (10 : Int)) ≥ base))
       (.leaf ((.v (.one (.int true .i64 (-1)))), [⟨[(.keep (L) (O))], 0⟩]))
       (.leaf ((.v (.one (.int false .i64 (IntKind.i64.wrap (IntKind.i64.wrap (IntKind.i64.wrap b - (65 : Int)) + (10 : Int)))))), [⟨[(.keep (L) (O))], 0⟩])))
      (.br (decide (IntKind.i64.wrap (IntKind.i64.wrap (IntKind.i64.wrap b - (97 : Int)) + (10 : Int)) ≥ base))
       (.leaf ((.v (.one (.int true .i64 (-1)))), [⟨[(.keep (L) (O))], 0⟩]))
       (.leaf ((.v (.one (.int false .i64 (IntKind.i64.wrap (IntKind.i64.wrap (IntKind.i64.wrap b - (97 : Int)) + (10 : Int)))))), [⟨[(.keep (L) (O))], 0⟩]))))
     (.br (decide (IntKind.i64.wrap (IntKind.i64.wrap (IntKind.i64.wrap b - (97 : Int)) + (10 : Int)) ≥ base))
      (.leaf ((.v (.one (.int true .i64 (-1)))), [⟨[(.keep (L) (O))], 0⟩]))
      (.leaf ((.v (.one (.int false .i64 (IntKind.i64.wrap (IntKind.i64.wrap (IntKind.i64.wrap b - (97 : Int)) + (10 : Int)))))), [⟨[(.keep (L) (O))], 0⟩]))))
    (.br (decide (b ≥ (65 : Int)))
     (.br (decide (b ≤ (70 : Int)))
      (.br (decide (IntKind.i64.wrap (IntKind.i64.wrap (IntKind.i64.wrap b - (65 : Int)) + (10 : Int)) ≥ base))
       (.leaf ((.v (.one (.int true .i64 (-1)))), [⟨[(.keep (L) (O))], 0⟩]))
       (.leaf ((.v (.one (.int false .i64 (IntKind.i64.wrap (IntKind.i64.wrap (IntKind.i64.wrap b - (65 : Int)) + (10 : Int)))))), [⟨[(.keep (L) (O))], 0⟩])))
      (.br (decide ((-1 : Int) ≥ base))
       (.leaf ((.v (.one (.int true .i64 (-1)))), [⟨[(.keep (L) (O))], 0⟩]))
       (.leaf ((.v (.one (.int true .i64 (-1)))), [⟨[(.keep (L) (O))], 0⟩]))))
     (.br (decide ((-1 : Int) ≥ base))
      (.leaf ((.v (.one (.int true .i64 (-1)))), [⟨[(.keep (L) (O))], 0⟩]))
      (.leaf ((.v (.one (.int true .i64 (-1)))), [⟨[(.keep (L) (O))], 0⟩])))))
   (.br (decide (b ≥ (65 : Int)))
    (.br (decide (b ≤ (70 : Int)))
     (.br (decide (IntKind.i64.wrap (IntKind.i64.wrap (IntKind.i64.wrap b - (65 : Int)) + (10 : Int)) ≥ base))
      (.leaf ((.v (.one (.int true .i64 (-1)))), [⟨[(.keep (L) (O))], 0⟩]))
      (.leaf ((.v (.one (.int false .i64 (IntKind.i64.wrap (IntKind.i64.wrap (IntKind.i64.wrap b - (65 : Int)) + (10 : Int)))))), [⟨[(.keep (L) (O))], 0⟩])))
     (.br (decide ((-1 : Int) ≥ base))
      (.leaf ((.v (.one (.int true .i64 (-1)))), [⟨[(.keep (L) (O))], 0⟩]))
      (.leaf ((.v (.one (.int true .i64 (-1)))), [⟨[(.keep (L) (O))], 0⟩]))))
    (.br (decide ((-1 : Int) ≥ base))
     (.leaf ((.v (.one (.int true .i64 (-1)))), [⟨[(.keep (L) (O))], 0⟩]))
     (.leaf ((.v (.one (.int true .i64 (-1)))), [⟨[(.keep (L) (O))], 0⟩]))))))
 (.br (decide (b ≥ (97 : Int)))
  (.br (decide (b ≤ (102 : Int)))
   (.br (decide (b ≥ (65 : Int)))
    (.br (decide (b ≤ (70 : Int)))
     (.br (decide (IntKind.i64.wrap (IntKind.i64.wrap (IntKind.i64.wrap b - (65 : Int)) + (10 : Int)) ≥ base))
      (.leaf ((.v (.one (.int true .i64 (-1)))), [⟨[(.keep (L) (O))], 0⟩]))
      (.leaf ((.v (.one (.int false .i64 (IntKind.i64.wrap (IntKind.i64.wrap (IntKind.i64.wrap b - (65 : Int)) + (10 : Int)))))), [⟨[(.keep (L) (O))], 0⟩])))
     (.br (decide (IntKind.i64.wrap (IntKind.i64.wrap (IntKind.i64.wrap b - (97 : Int)) + (10 : Int)) ≥ base))
      (.leaf ((.v (.one (.int true .i64 (-1)))), [⟨[(.keep (L) (O))], 0⟩]))
      (.leaf ((.v (.one (.int false .i64 (IntKind.i64.wrap (IntKind.i64.wrap (IntKind.i64.wrap b - (97 : Int)) + (10 : Int)))))), [⟨[(.keep (L) (O))], 0⟩]))))
    (.br (decide (IntKind.i64.wrap (IntKind.i64.wrap (IntKind.i64.wrap b - (97 : Int)) + (10 : Int)) ≥ base))
     (.leaf ((.v (.one (.int true .i64 (-1)))), [⟨[(.keep (L) (O))], 0⟩]))
     (.leaf ((.v (.one (.int false .i64 (IntKind.i64.wrap (IntKind.i64.wrap (IntKind.i64.wrap b - (97 : Int)) + (10 : Int)))))), [⟨[(.keep (L) (O))], 0⟩]))))
   (.br (decide (b ≥ (65 : Int)))
    (.br (decide (b ≤ (70 : Int)))
     (.br (decide (IntKind.i64.wrap (IntKind.i64.wrap (IntKind.i64.wrap b - (65 : Int)) + (10 : Int)) ≥ base))
      (.leaf ((.v (.one (.int true .i64 (-1)))), [⟨[(.keep (L) (O))], 0⟩]))
      (.leaf ((.v (.one (.int false .i64 (IntKind.i64.wrap (IntKind.i64.wrap (IntKind.i64.wrap b - (65 : Int)) + (10 : Int)))))), [⟨[(.keep (L) (O))], 0⟩])))
     (.br (decide ((-1 : Int) ≥ base))
      (.leaf ((.v (.one (.int true .i64 (-1)))), [⟨[(.keep (L) (O))], 0⟩]))
      (.leaf ((.v (.one (.int true .i64 (-1)))), [⟨[(.keep (L) (O))], 0⟩]))))
    (.br (decide ((-1 : Int) ≥ base))
     (.leaf ((.v (.one (.int true .i64 (-1)))), [⟨[(.keep (L) (O))], 0⟩]))
     (.leaf ((.v (.one (.int true .i64 (-1)))), [⟨[(.keep (L) (O))], 0⟩])))))
  (.br (decide (b ≥ (65 : Int)))
   (.br (decide (b ≤ (70 : Int)))
    (.br (decide (IntKind.i64.wrap (IntKind.i64.wrap (IntKind.i64.wrap b - (65 : Int)) + (10 : Int)) ≥ base))
     (.leaf ((.v (.one (.int true .i64 (-1)))), [⟨[(.keep (L) (O))], 0⟩]))
     (.leaf ((.v (.one (.int false .i64 (IntKind.i64.wrap (IntKind.i64.wrap (IntKind.i64.wrap b - (65 : Int)) + (10 : Int)))))), [⟨[(.keep (L) (O))], 0⟩])))
    (.br (decide ((-1 : Int) ≥ base))
     (.leaf ((.v (.one (.int true .i64 (-1)))), [⟨[(.keep (L) (O))], 0⟩]))
     (.leaf ((.v (.one (.int true .i64 (-1)))), [⟨[(.keep (L) (O))], 0⟩]))))
   (.br (decide ((-1 : Int) ≥ base))
    (.leaf ((.v (.one (.int true .i64 (-1)))), [⟨[(.keep (L) (O))], 0⟩]))
    (.leaf ((.v (.one (.int true .i64 (-1)))), [⟨[(.keep (L) (O))], 0⟩])))))) := by kernel_rfl
theorem has_tree (w : World) (L : Nat → Option Obj) (O : Nat → Bool) (tx : ByteArray) (a : Int) (nl : Bool) (xs : List Int) (m cap : Nat) (d e : Int) (x : ByteArray) :
    callT Try.prog w (flatT Try.prog) (noCtr) (noPre) (noLoop) 20 44 [.v (.one (.ptr 1 0)), .v (.one (.val (.string x)))] [⟨[.keep L O], 0⟩, ⟨[.val (.string tx), .int false .i64 a, .gs 2 nl 2 0 m cap, .int false .i64 d, .int false .i64 e], 72⟩, ⟨[.row nl [.i64, .i64] xs cap], 60⟩] =
(.br (decide (IntKind.i64.wrap (a + (↑x.size : Int)) ≤ (↑tx.size : Int)))
 (.chk ((0 : Int) ≤ a ∧
  a ≤ IntKind.i64.wrap (a + (↑x.size : Int)) ∧ IntKind.i64.wrap (a + (↑x.size : Int)) ≤ (↑tx.size : Int))
 (.leaf ((.v (.one (.bool false ((tx.extract a.toNat (IntKind.i64.wrap (a + (↑x.size : Int))).toNat).toList == x.toList)))), [⟨[(.keep (L) (O))], 0⟩, ⟨[(.val (Go.Value.string tx)), (.int false .i64 (a)), (.gs 2 (nl) 2 0 (m) (cap)), (.int false .i64 (d)), (.int false .i64 (e))], 72⟩, ⟨[(.row (nl) ([IntKind.i64, IntKind.i64]) (xs) (cap))], 60⟩])))
 (.leaf ((.v (.one (.bool true false))), [⟨[(.keep (L) (O))], 0⟩, ⟨[(.val (Go.Value.string tx)), (.int false .i64 (a)), (.gs 2 (nl) 2 0 (m) (cap)), (.int false .i64 (d)), (.int false .i64 (e))], 72⟩, ⟨[(.row (nl) ([IntKind.i64, IntKind.i64]) (xs) (cap))], 60⟩]))) := by kernel_rfl
theorem spstep_tree (w : World) (L : Nat → Option Obj) (O : Nat → Bool) (a0 : Int) (tx : ByteArray) (nl : Bool) (xs : List Int) (m cap : Nat) (d e : Int) (a : Int) :
    roundT Try.prog w (flatT Try.prog) (noCtr) (callT Try.prog w (flatT Try.prog) (noCtr) (noPre) (noLoop) 20) ((noLoop) 35) (roundOf (bodyAt Try.prog 35 0)) 0 3 spRo spRf spRb (spSt L O a0 tx nl xs m cap d e ⟨⟩) (spFin L O a0 tx nl xs m cap d e ⟨⟩) (spBck L O a0 tx nl xs m cap d e ⟨⟩) spNxX spNxX spNxZ ⟨a⟩ =
(.br (decide (a < (↑tx.size : Int)))
 (.chk ((0 : Int) ≤ a ∧ a < (↑tx.size : Int))
 (.br (sym.byteAt tx a.toNat == (32 : Int))
  (.chk (L = L ∧ O = O)
  (.chk (Go.Value.string tx = Go.Value.string tx)
  (.chk (IntKind.i64 = IntKind.i64 ∧ IntKind.i64.wrap (a + (1 : Int)) = IntKind.i64.wrap (a + (1 : Int)))
  (.chk (nl = nl ∧ (2 : Nat) = (2 : Nat) ∧ (0 : Nat) = (0 : Nat) ∧ m = m ∧ cap = cap)
  (.chk (IntKind.i64 = IntKind.i64 ∧ d = d)
  (.chk (IntKind.i64 = IntKind.i64 ∧ e = e)
  (.chk (nl = nl ∧ [IntKind.i64, IntKind.i64] = [IntKind.i64, IntKind.i64] ∧ xs = xs ∧ cap = cap)
  (.leaf (.inl ⟨IntKind.i64.wrap (a + (1 : Int))⟩)))))))))
  (.chk (L = L ∧ O = O)
  (.chk (Go.Value.string tx = Go.Value.string tx)
  (.chk (IntKind.i64 = IntKind.i64 ∧ a = a)
  (.chk (nl = nl ∧ (2 : Nat) = (2 : Nat) ∧ (0 : Nat) = (0 : Nat) ∧ m = m ∧ cap = cap)
  (.chk (IntKind.i64 = IntKind.i64 ∧ d = d)
  (.chk (IntKind.i64 = IntKind.i64 ∧ e = e)
  (.chk (nl = nl ∧ [IntKind.i64, IntKind.i64] = [IntKind.i64, IntKind.i64] ∧ xs = xs ∧ cap = cap)
  (.leaf (.inr (.inl ⟨a⟩))))))))))))
 (.chk (L = L ∧ O = O)
 (.chk (Go.Value.string tx = Go.Value.string tx)
 (.chk (IntKind.i64 = IntKind.i64 ∧ a = a)
 (.chk (nl = nl ∧ (2 : Nat) = (2 : Nat) ∧ (0 : Nat) = (0 : Nat) ∧ m = m ∧ cap = cap)
 (.chk (IntKind.i64 = IntKind.i64 ∧ d = d)
 (.chk (IntKind.i64 = IntKind.i64 ∧ e = e)
 (.chk (nl = nl ∧ [IntKind.i64, IntKind.i64] = [IntKind.i64, IntKind.i64] ∧ xs = xs ∧ cap = cap)
 (.leaf (.inr (.inl ⟨a⟩))))))))))) := by kernel_rfl
theorem space_tree (w : World) (L : Nat → Option Obj) (O : Nat → Bool) (tx : ByteArray) (a : Int) (nl : Bool) (xs : List Int) (m cap : Nat) (d e : Int) :
    callT Try.prog w (flatT Try.prog) (noCtr) (noPre) (lpOf Try.prog [spLp L O a tx nl xs m cap d e]) 20 35 [.v (.one (.ptr 1 0))] [⟨[.keep L O], 0⟩, ⟨[.val (.string tx), .int false .i64 a, .gs 2 nl 2 0 m cap, .int false .i64 d, .int false .i64 e], 72⟩, ⟨[.row nl [.i64, .i64] xs cap], 60⟩] =
(.chk (sym.textAt Go.Proofs.Try.prog (35 : Go.FuncId) (0 : Nat) = sym.textAt Go.Proofs.Try.prog (35 : Go.FuncId) (0 : Nat))
(.chk (L = L ∧ O = O)
(.chk (Go.Value.string tx = Go.Value.string tx)
(.chk (IntKind.i64 = IntKind.i64 ∧ a = a)
(.chk (nl = nl ∧ (2 : Nat) = (2 : Nat) ∧ (0 : Nat) = (0 : Nat) ∧ m = m ∧ cap = cap)
(.chk (IntKind.i64 = IntKind.i64 ∧ d = d)
(.chk (IntKind.i64 = IntKind.i64 ∧ e = e)
(.chk (nl = nl ∧ [IntKind.i64, IntKind.i64] = [IntKind.i64, IntKind.i64] ∧ xs = xs ∧ cap = cap)
(.chk (spInv L O a tx nl xs m cap d e { } { a := a })
(.all fun x : sym.Got spX
  (spPost L O a tx nl xs m cap d e { }) =>
 (.leaf ((.tuple []), [⟨[(.keep (L) (O))], 0⟩, ⟨[(.val (Go.Value.string tx)), (.int false .i64 (x.1.1)), (.gs 2 (nl) 2 0 (m) (cap)), (.int false .i64 (d)), (.int false .i64 (e))], 72⟩, ⟨[(.row (nl) ([IntKind.i64, IntKind.i64]) (xs) (cap))], 60⟩])))))))))))) := by kernel_rfl
theorem fistep_tree (w : World) (L : Nat → Option Obj) (O : Nat → Bool) (tx : ByteArray) (a : Int) (nl : Bool) (xs : List Int) (m cap : Nat) (d e : Int) (best : Int) (op : Int) :
    roundT Try.prog w (flatT Try.prog) (noCtr) (callT Try.prog w (flatT Try.prog) (noCtr) (fpreOf [signC, hasC]) (noLoop) 20) ((noLoop) 38) (roundOf (bodyAt Try.prog 38 0)) 0 3 fiRo fiRf fiRb (fiSt L O tx a nl xs m cap d e ⟨⟩) (fiFin L O tx a nl xs m cap d e ⟨⟩) (fiBck L O tx a nl xs m cap d e ⟨⟩) fiNxX fiNxY fiNxZ ⟨best, op⟩ =
(.br (decide (op ≤ (24 : Int)))
 (.chk (((nl = nl ∧ cap = cap) ∧ RdOk tx a nl xs m cap d) ∧
  (sgS op).size ≤ (10 : Nat))
 (.all fun x : { b // b = true → a + (↑(sgS op).size : Int) ≤ (↑tx.size : Int) } =>
  (.br (x.val)
   (.br (decide
  ((↑(sgS op).size : Int) > (↑(sgS best).size : Int)))
    (.chk (IntKind.i64 = IntKind.i64 ∧ (0 : Int) = (0 : Int))
    (.chk (IntKind.i64 = IntKind.i64 ∧ op = op)
    (.chk (IntKind.i64 = IntKind.i64 ∧ IntKind.i64.wrap (op + (1 : Int)) = IntKind.i64.wrap (op + (1 : Int)))
    (.chk (L = L ∧ O = O)
    (.chk (Go.Value.string tx = Go.Value.string tx)
    (.chk (IntKind.i64 = IntKind.i64 ∧ a = a)
    (.chk (nl = nl ∧ (2 : Nat) = (2 : Nat) ∧ (0 : Nat) = (0 : Nat) ∧ m = m ∧ cap = cap)
    (.chk (IntKind.i64 = IntKind.i64 ∧ d = d)
    (.chk (IntKind.i64 = IntKind.i64 ∧ e = e)
    (.chk (nl = nl ∧ [IntKind.i64, IntKind.i64] = [IntKind.i64, IntKind.i64] ∧ xs = xs ∧ cap = cap)
    (.leaf (.inl ⟨op, IntKind.i64.wrap (op + (1 : Int))⟩))))))))))))
    (.chk (IntKind.i64 = IntKind.i64 ∧ (0 : Int) = (0 : Int))
    (.chk (IntKind.i64 = IntKind.i64 ∧ best = best)
    (.chk (IntKind.i64 = IntKind.i64 ∧ IntKind.i64.wrap (op + (1 : Int)) = IntKind.i64.wrap (op + (1 : Int)))
    (.chk (L = L ∧ O = O)
    (.chk (Go.Value.string tx = Go.Value.string tx)
    (.chk (IntKind.i64 = IntKind.i64 ∧ a = a)
    (.chk (nl = nl ∧ (2 : Nat) = (2 : Nat) ∧ (0 : Nat) = (0 : Nat) ∧ m = m ∧ cap = cap)
    (.chk (IntKind.i64 = IntKind.i64 ∧ d = d)
    (.chk (IntKind.i64 = IntKind.i64 ∧ e = e)
    (.chk (nl = nl ∧ [IntKind.i64, IntKind.i64] = [IntKind.i64, IntKind.i64] ∧ xs = xs ∧ cap = cap)
    (.leaf (.inl ⟨best, IntKind.i64.wrap (op + (1 : Int))⟩)))))))))))))
   (.chk (IntKind.i64 = IntKind.i64 ∧ (0 : Int) = (0 : Int))
   (.chk (IntKind.i64 = IntKind.i64 ∧ best = best)
   (.chk (IntKind.i64 = IntKind.i64 ∧ IntKind.i64.wrap (op + (1 : Int)) = IntKind.i64.wrap (op + (1 : Int)))
   (.chk (L = L ∧ O = O)
   (.chk (Go.Value.string tx = Go.Value.string tx)
   (.chk (IntKind.i64 = IntKind.i64 ∧ a = a)
   (.chk (nl = nl ∧ (2 : Nat) = (2 : Nat) ∧ (0 : Nat) = (0 : Nat) ∧ m = m ∧ cap = cap)
   (.chk (IntKind.i64 = IntKind.i64 ∧ d = d)
   (.chk (IntKind.i64 = IntKind.i64 ∧ e = e)
   (.chk (nl = nl ∧ [IntKind.i64, IntKind.i64] = [IntKind.i64, IntKind.i64] ∧ xs = xs ∧ cap = cap)
   (.leaf (.inl ⟨best, IntKind.i64.wrap (op + (1 : Int))⟩)))))))))))))))
 (.chk (IntKind.i64 = IntKind.i64 ∧ (0 : Int) = (0 : Int))
 (.chk (IntKind.i64 = IntKind.i64 ∧ best = best)
 (.chk (L = L ∧ O = O)
 (.chk (Go.Value.string tx = Go.Value.string tx)
 (.chk (IntKind.i64 = IntKind.i64 ∧ a = a)
 (.chk (nl = nl ∧ (2 : Nat) = (2 : Nat) ∧ (0 : Nat) = (0 : Nat) ∧ m = m ∧ cap = cap)
 (.chk (IntKind.i64 = IntKind.i64 ∧ d = d)
 (.chk (IntKind.i64 = IntKind.i64 ∧ e = e)
 (.chk (nl = nl ∧ [IntKind.i64, IntKind.i64] = [IntKind.i64, IntKind.i64] ∧ xs = xs ∧ cap = cap)
 (.leaf (.inr (.inl ⟨best⟩))))))))))))) := by kernel_rfl
theorem find_tree (w : World) (L : Nat → Option Obj) (O : Nat → Bool) (tx : ByteArray) (a : Int) (nl : Bool) (xs : List Int) (m cap : Nat) (d e : Int) :
    callT Try.prog w (flatT Try.prog) (noCtr) (fpreOf [signC, hasC]) (lpOf Try.prog [fiLp L O tx a nl xs m cap d e]) 20 38 [.v (.one (.ptr 1 0))] [⟨[.keep L O], 0⟩, ⟨[.val (.string tx), .int false .i64 a, .gs 2 nl 2 0 m cap, .int false .i64 d, .int false .i64 e], 72⟩, ⟨[.row nl [.i64, .i64] xs cap], 60⟩] =
(.chk (sym.textAt Go.Proofs.Try.prog (38 : Go.FuncId) (0 : Nat) = sym.textAt Go.Proofs.Try.prog (38 : Go.FuncId) (0 : Nat))
(.chk (IntKind.i64 = IntKind.i64 ∧ (0 : Int) = (0 : Int))
(.chk (IntKind.i64 = IntKind.i64 ∧ (0 : Int) = (0 : Int))
(.chk (IntKind.i64 = IntKind.i64 ∧ (7 : Int) = (7 : Int))
(.chk (L = L ∧ O = O)
(.chk (Go.Value.string tx = Go.Value.string tx)
(.chk (IntKind.i64 = IntKind.i64 ∧ a = a)
(.chk (nl = nl ∧ (2 : Nat) = (2 : Nat) ∧ (0 : Nat) = (0 : Nat) ∧ m = m ∧ cap = cap)
(.chk (IntKind.i64 = IntKind.i64 ∧ d = d)
(.chk (IntKind.i64 = IntKind.i64 ∧ e = e)
(.chk (nl = nl ∧ [IntKind.i64, IntKind.i64] = [IntKind.i64, IntKind.i64] ∧ xs = xs ∧ cap = cap)
(.chk (fiInv L O tx a nl xs m cap d e { } { best := (0 : Int), op := (7 : Int) })
(.all fun x : sym.Got fiY
  (fiPost L O tx a nl xs m cap d e { }) =>
 (.leaf ((.v (.one (.int false .i64 (x.1.1)))), [⟨[(.keep (L) (O))], 0⟩, ⟨[(.val (Go.Value.string tx)), (.int false .i64 (a)), (.gs 2 (nl) 2 0 (m) (cap)), (.int false .i64 (d)), (.int false .i64 (e))], 72⟩, ⟨[(.row (nl) ([IntKind.i64, IntKind.i64]) (xs) (cap))], 60⟩]))))))))))))))) := by kernel_rfl
theorem sg_all (op : Int) : (op = 7 ∨ op = 8 ∨ op = 9 ∨ op = 10 ∨ op = 11 ∨ op = 12 ∨ op = 13 ∨ op = 14 ∨ op = 15 ∨ op = 16 ∨ op = 17 ∨ op = 18 ∨ op = 19 ∨ op = 20 ∨ op = 21 ∨ op = 22 ∨ op = 23 ∨ op = 24) ∨ (op < 7 ∨ 24 < op) := by omega
theorem sg_size (op : Int) : (sgS op).size ≤ 2 := by
  rcases sg_all op with h | h
  · rcases h with rfl | rfl | rfl | rfl | rfl | rfl | rfl | rfl | rfl | rfl | rfl | rfl | rfl | rfl | rfl | rfl | rfl | rfl <;> decide
  · have e : sgS op = ⟨#[]⟩ := by
      unfold sgS
      simp only [show (op = 7) = False from eq_false (by omega), show (op = 8) = False from eq_false (by omega), show (op = 9) = False from eq_false (by omega), show (op = 10) = False from eq_false (by omega), show (op = 11) = False from eq_false (by omega), show (op = 12) = False from eq_false (by omega), show (op = 13) = False from eq_false (by omega), show (op = 14) = False from eq_false (by omega), show (op = 15) = False from eq_false (by omega), show (op = 16) = False from eq_false (by omega), show (op = 17) = False from eq_false (by omega), show (op = 18) = False from eq_false (by omega), show (op = 19) = False from eq_false (by omega), show (op = 20) = False from eq_false (by omega), show (op = 21) = False from eq_false (by omega), show (op = 22) = False from eq_false (by omega), show (op = 23) = False from eq_false (by omega), show (op = 24) = False from eq_false (by omega), if_false]
    rw [e]
    decide
theorem sg_pos (op : Int) (h1 : 7 ≤ op) (h2 : op ≤ 24) : 1 ≤ (sgS op).size := by
  rcases sg_all op with h | h
  · rcases h with rfl | rfl | rfl | rfl | rfl | rfl | rfl | rfl | rfl | rfl | rfl | rfl | rfl | rfl | rfl | rfl | rfl | rfl <;> decide
  · omega
theorem wrapJ (x : Int) : J6 (IntKind.i64.wrap x) := by
  simp only [IntKind.wrap, IntKind.bits, IntKind.signed, Bool.true_and]
  split <;> rename_i h <;> simp at h <;> constructor <;> omega
theorem signC_ok (w0 : World) : signC.Ok Try.prog w0 := by
  refine ⟨fun args h t h0 L O => ?_⟩
  unfold signC at h0
  simp only at h0
  split at h0
  · rename_i l op
    cases h0
    refine CallOne.weak (args' := [.v (.one (.int false .i64 op))]) (h' := keepH L O []) [] ⟨⟨rfl, rfl⟩, ⟨rfl, rfl⟩, trivial⟩ (by kernel_rfl) (one_ok base2 (ctrs_none _ _) (pre_none _ _) (n := 20) fun K hK => ⟨noLoop, loops_none _ _, ?_⟩)
    have hK : K (.tuple [.one (.val (.string (sgS op))), .one (.int false .i64 (sgL op))], []) := hK
    have key : ∀ (s : ByteArray) (l : Int), sgS op = s → sgL op = l → ∃ y h2, K (y, h2) ∧ AsF (keepH L O []).length (.tuple [.one (.val (.string s)), .one (.int true .i64 l)]) (keepH L O []) y (keepH L O h2) := fun s l e1 e2 => ⟨_, _, hK, as_end [] ⟨congrArg Value.string e1.symm, ⟨rfl, e2.symm⟩, ⟨rfl, rfl⟩, trivial⟩ (by kernel_rfl) (fun h => by cases h)⟩
    show T.holds (callT Try.prog w0 (flatT Try.prog) noCtr noPre noLoop 20 39 [.v (.one (.int false .i64 op))] [⟨[.keep L O], 0⟩]) _
    rw [sign_tree]
    simp only [T.holds, beq_iff_eq, beq_eq_false_iff_ne, ne_eq]
    repeat' (first | (intro _) | (refine And.intro ?_ ?_))
    all_goals (refine key _ _ ?_ ?_ <;> simp [sgS, sgL, *])
  · cases h0
theorem digitC_ok (w0 : World) : digitC.Ok Try.prog w0 := by
  refine ⟨fun args h t h0 L O => ?_⟩
  unfold digitC at h0
  simp only at h0
  split at h0
  · rename_i l b l' bs
    cases h0
    refine CallOne.weak (args' := [.v (.one (.int false .u8 b)), .v (.one (.int false .i64 bs))]) (h' := keepH L O []) [] ⟨⟨rfl, rfl⟩, ⟨rfl, rfl⟩, ⟨rfl, rfl⟩, trivial⟩ (by kernel_rfl) (one_ok base2 (ctrs_none _ _) (pre_none _ _) (n := 20) fun K hK => ⟨noLoop, loops_none _ _, ?_⟩)
    have key : ∀ (l : Bool) (x : Int), J6 x → ∃ y h2, K (y, h2) ∧ AsF (keepH L O []).length (.v (.one (.int l .i64 x))) (keepH L O []) y (keepH L O h2) := fun l x hx => ⟨_, _, hK ⟨x, hx⟩, as_end [] ⟨⟨rfl, rfl⟩, ⟨rfl, rfl⟩, trivial⟩ (by kernel_rfl) (fun h => by cases h)⟩
    show T.holds (callT Try.prog w0 (flatT Try.prog) noCtr noPre noLoop 20 45 [.v (.one (.int false .u8 b)), .v (.one (.int false .i64 bs))] [⟨[.keep L O], 0⟩]) _
    rw [digit_tree]
    simp only [T.holds]
    repeat' (first | (intro _) | (refine And.intro ?_ ?_))
    all_goals exact key _ _ (by first | exact wrapJ _ | exact ⟨by decide, by decide⟩)
  · cases h0
theorem hasC_ok (w0 : World) : hasC.Ok Try.prog w0 := by
  refine ⟨fun args h t h0 L O => ?_⟩
  unfold hasC at h0
  simp only at h0
  split at h0
  · rename_i x r hr
    cases h0
    refine CallOne.asks fun ⟨⟨so, ok⟩, hx⟩ => ?_
    refine rd_weak (args' := [.v (.one (.ptr 1 0)), .v (.one (.val (.string x)))]) hr so L O false (fun n ro h' t hn ht => by refine ptr_le hn ?_; exact ⟨rfl, ht⟩) (by kernel_rfl) (one_ok base2 (ctrs_none _ _) (pre_none _ _) (n := 20) fun K hK => ⟨noLoop, loops_none _ _, ?_⟩)
    obtain ⟨tx, a, nl, xs, m, cap, d, e, p⟩ := r
    simp only at ok hx
    replace hK := T.of_chk hK
    show T.holds (callT Try.prog w0 (flatT Try.prog) noCtr noPre noLoop 20 44 [.v (.one (.ptr 1 0)), .v (.one (.val (.string x)))] (keepH L O (rdH tx a nl xs m cap d (.int false .i64 e)))) _
    rw [show keepH L O (rdH tx a nl xs m cap d (.int false .i64 e)) = [⟨[.keep L O], 0⟩, ⟨[.val (.string tx), .int false .i64 a, .gs 2 nl 2 0 m cap, .int false .i64 d, .int false .i64 e], 72⟩, ⟨[.row nl [.i64, .i64] xs cap], 60⟩] from rfl, has_tree]
    have o1 := ok.at_
    have o2 := ok.sz
    rw [wi64 (a + (x.size : Int)) (by omega) (by omega)]
    have key : ∀ (l b : Bool), (b = true → a + (x.size : Int) ≤ tx.size) → ∃ y h2, K (y, h2) ∧ AsF 3 (.v (.one (.bool l b))) [⟨[.keep L O], 0⟩, ⟨[.val (.string tx), .int false .i64 a, .gs 2 nl 2 0 m cap, .int false .i64 d, .int false .i64 e], 72⟩, ⟨[.row nl [.i64, .i64] xs cap], 60⟩] y (keepH L O h2) := fun l b hb => ⟨_, _, T.of_all hK ⟨b, hb⟩, as_end [] (by repeat' (first | exact trivial | exact rfl | (refine And.intro ?_ ?_))) (by kernel_rfl) (fun h => by cases h)⟩
    refine ⟨fun hlt => ⟨⟨o1.1, by omega, of_decide_eq_true hlt⟩, key _ _ fun _ => of_decide_eq_true hlt⟩, fun _ => key _ _ fun h => by cases h⟩
  · cases h0
theorem RdOk.any {tx : ByteArray} {a : Int} {nl : Bool} {xs : List Int} {m cap : Nat} {d : Int} (ok : RdOk tx a nl xs m cap d) {a' : Int} (h : a ≤ a') (h2 : a' ≤ tx.size) : RdOk tx a' nl xs m cap d := ⟨⟨by have := ok.at_; omega, h2⟩, ok.sz, ok.dp, ok.l, ok.c, ok.nil, by have := ok.le; omega, ok.i6⟩
def spMu (L : Nat → Option Obj) (O : Nat → Bool) (a0 : Int) (tx : ByteArray) (nl : Bool) (xs : List Int) (m cap : Nat) (d e : Int) (p : spP) (x : spX) : Nat := (tx.size - x.a).toNat
theorem sp_step (w : World) (L : Nat → Option Obj) (O : Nat → Bool) (a0 : Int) (tx : ByteArray) (nl : Bool) (xs : List Int) (m cap : Nat) (d e : Int) (p : spP) (x : spX) (h0 : 0 ≤ a0) (hs : tx.size ≤ 1000) (h : spInv L O a0 tx nl xs m cap d e p x) : Hid (roundT Try.prog w (flatT Try.prog) (noCtr) (callT Try.prog w (flatT Try.prog) (noCtr) (noPre) (noLoop) 20) ((noLoop) 35) (roundOf (bodyAt Try.prog 35 0)) 0 3 spRo spRf spRb (spSt L O a0 tx nl xs m cap d e p) (spFin L O a0 tx nl xs m cap d e p) (spBck L O a0 tx nl xs m cap d e p) spNxX spNxX spNxZ x) (Kept (spInv L O a0 tx nl xs m cap d e p) (spPost L O a0 tx nl xs m cap d e p) (spBack L O a0 tx nl xs m cap d e p) (spMu L O a0 tx nl xs m cap d e p) x) := by
  obtain ⟨⟩ := p
  obtain ⟨a⟩ := x
  constructor
  rw [spstep_tree]
  simp only [T.holds, Kept, spMu, and_self, true_and, and_true]
  obtain ⟨lo⟩ := h
  simp only at lo
  refine ⟨fun hlt => ⟨⟨by omega, of_decide_eq_true hlt⟩, fun _ => ?_, fun _ => ⟨lo⟩⟩, fun _ => ⟨lo⟩⟩
  have hlt := of_decide_eq_true hlt
  rw [wi64 _ (by omega) (by omega)]
  exact ⟨⟨by show a0 ≤ a + 1; omega, by show a + 1 ≤ (tx.size : Int); omega⟩, by show (tx.size - (a + 1)).toNat < (tx.size - a).toNat; omega⟩
theorem spLp_ok (w : World) (L : Nat → Option Obj) (O : Nat → Bool) (a0 : Int) (tx : ByteArray) (nl : Bool) (xs : List Int) (m cap : Nat) (d e : Int) (h0 : 0 ≤ a0) (hs : tx.size ≤ 1000) : (spLp L O a0 tx nl xs m cap d e).ok Try.prog w := by
  intro s t h
  unfold spLp at h
  simp only at h
  split at h
  · rename_i p _
    split at h
    · rename_i x _
      cases h
      exact loop_ok base2 (ctrs_none _ w) (callT_ok base2.mixed base2.names base2.eqs (ctrs_none _ w).ok (ctrs_none _ w).there (pre_none _ _) (loops_none _ _) 20) ((loops_none _ _) 35) (c := roundOf (bodyAt Try.prog 35 0)) (by kernel_rfl) (id := 0) (n := 3) (hr := false) (ro := spRo) (rf := spRf) (rr := spRb) (st := spSt L O a0 tx nl xs m cap d e p) (fin := spFin L O a0 tx nl xs m cap d e p) (bck := spBck L O a0 tx nl xs m cap d e p) (inv := spInv L O a0 tx nl xs m cap d e p) (post := spPost L O a0 tx nl xs m cap d e p) (back := spBack L O a0 tx nl xs m cap d e p) (nx := spNxX) (fx := spNxX) (bx := spNxZ) (spMu L O a0 tx nl xs m cap d e p) (nf := 3) (nf' := 3) (nf'' := 3) (fun x => by kernel_rfl) (fun y => by kernel_rfl) (fun z => nomatch z) (.inr fun z => nomatch z) (fun x hx => sp_step w L O a0 tx nl xs m cap d e p x h0 hs hx) s x
    · cases h
  · cases h
theorem spaceC_ok (w0 : World) : spaceC.Ok Try.prog w0 := by
  refine ⟨fun args h t h0 L O => ?_⟩
  unfold spaceC at h0
  simp only at h0
  split at h0
  · rename_i r hr
    cases h0
    refine CallOne.asks fun ⟨so, ok⟩ => ?_
    obtain ⟨tx, a, nl, xs, m, cap, d, e, p⟩ := r
    simp only at so ok
    refine rd_weak (args' := [.v (.one (.ptr 1 0))]) hr so L O false (fun n ro h' t hn ht => ptr_le hn ht) (by kernel_rfl) (one_ok base2 (ctrs_none _ _) (pre_none _ _) (n := 20) fun K hK => ⟨lpOf Try.prog [spLp L O a tx nl xs m cap d e], lps_ok fun l hl => by (simp only [List.mem_cons, List.not_mem_nil, or_false] at hl; subst hl; exact spLp_ok w0 L O a tx nl xs m cap d e ok.at_.1 ok.sz), ?_⟩)
    replace hK := T.of_chk hK
    show T.holds (callT Try.prog w0 (flatT Try.prog) noCtr (noPre) (lpOf Try.prog [spLp L O a tx nl xs m cap d e]) 20 35 [.v (.one (.ptr 1 0))] [⟨[.keep L O], 0⟩, ⟨[.val (.string tx), .int false .i64 a, .gs 2 nl 2 0 m cap, .int false .i64 d, .int false .i64 e], 72⟩, ⟨[.row nl [.i64, .i64] xs cap], 60⟩]) _
    rw [space_tree]
    simp only [T.holds, true_and, and_true, and_self]
    refine ⟨⟨⟨Int.le_refl _, ok.at_.2⟩⟩, fun y => ?_⟩
    exact ⟨_, _, T.of_all hK ⟨y.it.a, y.so.lo⟩, as_end [] (by repeat' (first | exact trivial | exact rfl | (refine And.intro ?_ ?_))) (by kernel_rfl) (fun h => by cases h)⟩
  · cases h0
theorem fpre1_ok (w : World) : PreOk Try.prog w (fpreOf [signC, hasC]) := fpreOf_ok fun c hc => by
  simp only [List.mem_cons, List.not_mem_nil, or_false] at hc
  rcases hc with rfl | rfl
  · exact signC_ok w
  · exact hasC_ok w
def fiMu (L : Nat → Option Obj) (O : Nat → Bool) (tx : ByteArray) (a : Int) (nl : Bool) (xs : List Int) (m cap : Nat) (d e : Int) (p : fiP) (x : fiX) : Nat := (25 - x.op).toNat
theorem fi_step (w : World) (L : Nat → Option Obj) (O : Nat → Bool) (tx : ByteArray) (a : Int) (nl : Bool) (xs : List Int) (m cap : Nat) (d e : Int) (p : fiP) (x : fiX) (hr : RdOk tx a nl xs m cap d) (h : fiInv L O tx a nl xs m cap d e p x) : Hid (roundT Try.prog w (flatT Try.prog) (noCtr) (callT Try.prog w (flatT Try.prog) (noCtr) (fpreOf [signC, hasC]) (noLoop) 20) ((noLoop) 38) (roundOf (bodyAt Try.prog 38 0)) 0 3 fiRo fiRf fiRb (fiSt L O tx a nl xs m cap d e p) (fiFin L O tx a nl xs m cap d e p) (fiBck L O tx a nl xs m cap d e p) fiNxX fiNxY fiNxZ x) (Kept (fiInv L O tx a nl xs m cap d e p) (fiPost L O tx a nl xs m cap d e p) (fiBack L O tx a nl xs m cap d e p) (fiMu L O tx a nl xs m cap d e p) x) := by
  obtain ⟨⟩ := p
  obtain ⟨best, op⟩ := x
  constructor
  rw [fistep_tree]
  simp only [T.holds, Kept, fiMu, and_self, true_and, and_true]
  obtain ⟨o1, b⟩ := h
  simp only at o1 b
  have sz := sg_size op
  rw [wi64 (op + 1) (by omega) (by omega)]
  refine ⟨fun hlt => ⟨⟨hr, by omega⟩, fun x => ⟨fun hx => ?_, fun _ => ?_⟩⟩, fun _ => ⟨b⟩⟩
  · have hlt := of_decide_eq_true hlt
    exact ⟨fun _ => ⟨⟨⟨by show 7 ≤ op + 1; omega, by show op + 1 ≤ 25; omega⟩, .inr ⟨o1.1, hlt, x.2 hx⟩⟩, by show (25 - (op + 1)).toNat < (25 - op).toNat; omega⟩, fun _ => ⟨⟨⟨by show 7 ≤ op + 1; omega, by show op + 1 ≤ 25; omega⟩, b⟩, by show (25 - (op + 1)).toNat < (25 - op).toNat; omega⟩⟩
  · have hlt := of_decide_eq_true hlt
    exact ⟨⟨⟨by show 7 ≤ op + 1; omega, by show op + 1 ≤ 25; omega⟩, b⟩, by show (25 - (op + 1)).toNat < (25 - op).toNat; omega⟩
theorem fiLp_ok (w : World) (L : Nat → Option Obj) (O : Nat → Bool) (tx : ByteArray) (a : Int) (nl : Bool) (xs : List Int) (m cap : Nat) (d e : Int) (hr : RdOk tx a nl xs m cap d) : (fiLp L O tx a nl xs m cap d e).ok Try.prog w := by
  intro s t h
  unfold fiLp at h
  simp only at h
  split at h
  · rename_i p _
    split at h
    · rename_i x _
      cases h
      exact loop_ok base2 (ctrs_none _ w) (callT_ok base2.mixed base2.names base2.eqs (ctrs_none _ w).ok (ctrs_none _ w).there (fpre1_ok w) (loops_none _ _) 20) ((loops_none _ _) 38) (c := roundOf (bodyAt Try.prog 38 0)) (by kernel_rfl) (id := 0) (n := 3) (hr := false) (ro := fiRo) (rf := fiRf) (rr := fiRb) (st := fiSt L O tx a nl xs m cap d e p) (fin := fiFin L O tx a nl xs m cap d e p) (bck := fiBck L O tx a nl xs m cap d e p) (inv := fiInv L O tx a nl xs m cap d e p) (post := fiPost L O tx a nl xs m cap d e p) (back := fiBack L O tx a nl xs m cap d e p) (nx := fiNxX) (fx := fiNxY) (bx := fiNxZ) (fiMu L O tx a nl xs m cap d e p) (nf := 3) (nf' := 3) (nf'' := 3) (fun x => by kernel_rfl) (fun y => by kernel_rfl) (fun z => nomatch z) (.inr fun z => nomatch z) (fun x hx => fi_step w L O tx a nl xs m cap d e p x hr hx) s x
    · cases h
  · cases h
theorem findC_ok (w0 : World) : findC.Ok Try.prog w0 := by
  refine ⟨fun args h t h0 L O => ?_⟩
  unfold findC at h0
  simp only at h0
  split at h0
  · rename_i r hr
    cases h0
    refine CallOne.asks fun ⟨so, ok⟩ => ?_
    obtain ⟨tx, a, nl, xs, m, cap, d, e, p⟩ := r
    simp only at so ok
    refine rd_weak (args' := [.v (.one (.ptr 1 0))]) hr so L O false (fun n ro h' t hn ht => ptr_le hn ht) (by kernel_rfl) (one_ok base2 (ctrs_none _ _) (fpre1_ok w0) (n := 20) fun K hK => ⟨lpOf Try.prog [fiLp L O tx a nl xs m cap d e], lps_ok fun l hl => by (simp only [List.mem_cons, List.not_mem_nil, or_false] at hl; subst hl; exact fiLp_ok w0 L O tx a nl xs m cap d e ok), ?_⟩)
    replace hK := T.of_chk hK
    show T.holds (callT Try.prog w0 (flatT Try.prog) noCtr (fpreOf [signC, hasC]) (lpOf Try.prog [fiLp L O tx a nl xs m cap d e]) 20 38 [.v (.one (.ptr 1 0))] [⟨[.keep L O], 0⟩, ⟨[.val (.string tx), .int false .i64 a, .gs 2 nl 2 0 m cap, .int false .i64 d, .int false .i64 e], 72⟩, ⟨[.row nl [.i64, .i64] xs cap], 60⟩]) _
    rw [find_tree]
    simp only [T.holds, true_and, and_true, and_self]
    refine ⟨⟨⟨by decide, by decide⟩, .inl rfl⟩, fun y => ?_⟩
    exact ⟨_, _, T.of_all hK ⟨y.it.best, y.so.b⟩, as_end [] (by repeat' (first | exact trivial | exact rfl | (refine And.intro ?_ ?_))) (by kernel_rfl) (fun h => by cases h)⟩
  · cases h0
end Go.Proofs.Ytmbahohmiecfiaa
