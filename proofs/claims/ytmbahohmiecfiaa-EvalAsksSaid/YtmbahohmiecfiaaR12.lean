/-
  Numbers and names are read. Texts have at most 1000 bytes.
-/
import Derived.Test.YtmbahohmiecfiaaR11
namespace Go.Proofs.Ytmbahohmiecfiaa
open Go.RowKit sym
set_option linter.unusedVariables false
set_option linter.unusedSimpArgs false
set_option maxRecDepth 100000
/-- What a piece of a text comes to: where the reader is then, the orders, the error's number. -/
structure Nx (tx : ByteArray) (a : Int) (xs : List Int) (m : Nat) where
  a' : Int
  nl : Bool
  zs : List Int
  k : Nat
  cap : Nat
  e : Int
  ha : a ≤ a' ∧ a' ≤ tx.size
  hl : zs.length = k * 2
  hc : k ≤ cap ∧ cap ≤ maxLen
  nil : nl = true → k = 0 ∧ cap = 0
  le : (k : Int) + 2 * (tx.size - a') ≤ (m : Int) + 2 * (tx.size - a) + 1
  i6 : ∀ j, J6 (zs.getD j 0)
  ok : e = 0 → ∃ ys, One ys ∧ zs = xs ++ ys
def nxH {tx : ByteArray} {a : Int} {xs : List Int} {m : Nat} (d : Int) (r : Nx tx a xs m) : List Blk := [rdB tx r.a' 3 r.nl r.k r.cap d (.int false .i64 r.e), ⟨[.dead], 60⟩, rdR r.nl r.zs r.cap]
def nxT (tx : ByteArray) (a : Int) (xs : List Int) (m : Nat) (d : Int) : T (AV × List Blk) := .all fun r : Nx tx a xs m => .leaf (.tuple [], nxH d r)
def numberC : FCtr := ⟨42, fun args h => match args, rdOf h with
  | [.v (.one (.ptr 1 0)), .v (.one (.int _ .i64 fr)), .v (.one (.int _ .i64 bs))], some r => some (.chk ((r.so ∧ RdOk r.s r.a r.nl r.xs r.m r.cap r.d) ∧ r.e = 0 ∧ r.a ≤ fr ∧ fr ≤ r.s.size) (nxT r.s r.a r.xs r.m r.d))
  | _, _ => none⟩
def nameC0 : FCtr := ⟨43, fun args h => match args, rdOf h with
  | [.v (.one (.ptr 1 0))], some r => some (.chk ((r.so ∧ RdOk r.s r.a r.nl r.xs r.m r.cap r.d) ∧ r.e = 0) (nxT r.s r.a r.xs r.m r.d))
  | _, _ => none⟩
structure nuP where
structure nuX where
  i : Int
  n : Int
def nuSt (L : Nat → Option Obj) (O : Nat → Bool) (tx : ByteArray) (a : Int) (nl : Bool) (xs : List Int) (m cap : Nat) (d e : Int) (fr bs : Int) : nuP → nuX → ASt := fun ⟨⟩ ⟨i, n⟩ => ⟨slots (List.replicate 78 .any) [(0, .v (.one (.ptr 1 0))), (1, .v (.one (.int false .i64 fr))), (2, .v (.one (.int false .i64 bs))), (6, .v (.one (.int false .i64 i))), (7, .v (.one (.int false .i64 n)))], [⟨[.keep L O], 0⟩, ⟨[.val (.string tx), .int false .i64 a, .gs 2 nl 2 0 m cap, .int false .i64 d, .int false .i64 e], 72⟩, ⟨[.row nl [.i64, .i64] xs cap], 60⟩]⟩
def nuFin (L : Nat → Option Obj) (O : Nat → Bool) (tx : ByteArray) (a : Int) (nl : Bool) (xs : List Int) (m cap : Nat) (d e : Int) (fr bs : Int) : nuP → nuX → ASt := fun ⟨⟩ ⟨i, n⟩ => ⟨slots (List.replicate 78 .any) [(0, .v (.one (.ptr 1 0))), (1, .v (.one (.int false .i64 fr))), (2, .v (.one (.int false .i64 bs))), (6, .v (.one (.int false .i64 i))), (7, .v (.one (.int false .i64 n)))], [⟨[.keep L O], 0⟩, ⟨[.val (.string tx), .int false .i64 a, .gs 2 nl 2 0 m cap, .int false .i64 d, .int false .i64 e], 72⟩, ⟨[.row nl [.i64, .i64] xs cap], 60⟩]⟩
def nuBck (L : Nat → Option Obj) (O : Nat → Bool) (tx : ByteArray) (a : Int) (nl : Bool) (xs : List Int) (m cap : Nat) (d e : Int) (fr bs : Int) : nuP → Empty → ASt := fun _ z => nomatch z
def nuNxP : ASt → Option nuP := fun s => some ⟨⟩
def nuNxX : ASt → Option nuX := fun s => match gI s 6 with | none => none | some i => match gI s 7 with | none => none | some n => some ⟨i, n⟩
def nuNxZ : ASt → Option Empty := fun _ => none
def nuRo : ASt → List (Option Nat) := (fun _ => [])
def nuRf : ASt → List (Option Nat) := (fun _ => [])
def nuRb : ASt → List (Option Nat) := (fun _ => [])
structure nuInv (L : Nat → Option Obj) (O : Nat → Bool) (tx : ByteArray) (a : Int) (nl : Bool) (xs : List Int) (m cap : Nat) (d e : Int) (fr bs : Int) (p : nuP) (x : nuX) : Prop where
  i1 : fr ≤ x.i ∧ x.i ≤ tx.size
  n1 : J6 x.n
structure nuPost (L : Nat → Option Obj) (O : Nat → Bool) (tx : ByteArray) (a : Int) (nl : Bool) (xs : List Int) (m cap : Nat) (d e : Int) (fr bs : Int) (p : nuP) (x : nuX) : Prop where
  i1 : fr ≤ x.i ∧ x.i ≤ tx.size
  n1 : J6 x.n
def nuBack (L : Nat → Option Obj) (O : Nat → Bool) (tx : ByteArray) (a : Int) (nl : Bool) (xs : List Int) (m cap : Nat) (d e : Int) (fr bs : Int) (p : nuP) (x : Empty) : Prop := False
def nuLp (L : Nat → Option Obj) (O : Nat → Bool) (tx : ByteArray) (a : Int) (nl : Bool) (xs : List Int) (m cap : Nat) (d e : Int) (fr bs : Int) : Lp := ⟨42, 0, fun s => match nuNxP s with
  | some p => match nuNxX s with
    | some x => some (loopT 0 3 false nuRo (nuSt L O tx a nl xs m cap d e fr bs p) (nuFin L O tx a nl xs m cap d e fr bs p) (nuBck L O tx a nl xs m cap d e fr bs p) (nuInv L O tx a nl xs m cap d e fr bs p) (nuPost L O tx a nl xs m cap d e fr bs p) (nuBack L O tx a nl xs m cap d e fr bs p) s x)
    | none => none
  | none => none⟩
structure naP where
structure naX where
  i : Int
def naSt (L : Nat → Option Obj) (O : Nat → Bool) (tx : ByteArray) (a : Int) (nl : Bool) (xs : List Int) (m cap : Nat) (d e : Int) : naP → naX → ASt := fun ⟨⟩ ⟨i⟩ => ⟨slots (List.replicate 76 .any) [(0, .v (.one (.ptr 1 0))), (2, .v (.one (.int false .i64 i)))], [⟨[.keep L O], 0⟩, ⟨[.val (.string tx), .int false .i64 a, .gs 2 nl 2 0 m cap, .int false .i64 d, .int false .i64 e], 72⟩, ⟨[.row nl [.i64, .i64] xs cap], 60⟩]⟩
def naFin (L : Nat → Option Obj) (O : Nat → Bool) (tx : ByteArray) (a : Int) (nl : Bool) (xs : List Int) (m cap : Nat) (d e : Int) : naP → naX → ASt := fun ⟨⟩ ⟨i⟩ => ⟨slots (List.replicate 76 .any) [(0, .v (.one (.ptr 1 0))), (2, .v (.one (.int false .i64 i)))], [⟨[.keep L O], 0⟩, ⟨[.val (.string tx), .int false .i64 a, .gs 2 nl 2 0 m cap, .int false .i64 d, .int false .i64 e], 72⟩, ⟨[.row nl [.i64, .i64] xs cap], 60⟩]⟩
def naBck (L : Nat → Option Obj) (O : Nat → Bool) (tx : ByteArray) (a : Int) (nl : Bool) (xs : List Int) (m cap : Nat) (d e : Int) : naP → Empty → ASt := fun _ z => nomatch z
def naNxP : ASt → Option naP := fun s => some ⟨⟩
def naNxX : ASt → Option naX := fun s => match gI s 2 with | none => none | some i => some ⟨i⟩
def naNxZ : ASt → Option Empty := fun _ => none
def naRo : ASt → List (Option Nat) := (fun _ => [])
def naRf : ASt → List (Option Nat) := (fun _ => [])
def naRb : ASt → List (Option Nat) := (fun _ => [])
structure naInv (L : Nat → Option Obj) (O : Nat → Bool) (tx : ByteArray) (a : Int) (nl : Bool) (xs : List Int) (m cap : Nat) (d e : Int) (p : naP) (x : naX) : Prop where
  i1 : a ≤ x.i ∧ x.i ≤ tx.size
structure naPost (L : Nat → Option Obj) (O : Nat → Bool) (tx : ByteArray) (a : Int) (nl : Bool) (xs : List Int) (m cap : Nat) (d e : Int) (p : naP) (x : naX) : Prop where
  i1 : a ≤ x.i ∧ x.i ≤ tx.size
def naBack (L : Nat → Option Obj) (O : Nat → Bool) (tx : ByteArray) (a : Int) (nl : Bool) (xs : List Int) (m cap : Nat) (d e : Int) (p : naP) (x : Empty) : Prop := False
def naLp (L : Nat → Option Obj) (O : Nat → Bool) (tx : ByteArray) (a : Int) (nl : Bool) (xs : List Int) (m cap : Nat) (d e : Int) : Lp := ⟨43, 0, fun s => match naNxP s with
  | some p => match naNxX s with
    | some x => some (loopT 0 3 false naRo (naSt L O tx a nl xs m cap d e p) (naFin L O tx a nl xs m cap d e p) (naBck L O tx a nl xs m cap d e p) (naInv L O tx a nl xs m cap d e p) (naPost L O tx a nl xs m cap d e p) (naBack L O tx a nl xs m cap d e p) s x)
    | none => none
  | none => none⟩
theorem nustep_tree (w : World) (L : Nat → Option Obj) (O : Nat → Bool) (tx : ByteArray) (a : Int) (nl : Bool) (xs : List Int) (m cap : Nat) (d e : Int) (fr bs : Int) (i : Int) (n : Int) :
    roundT Try.prog w (flatT Try.prog) (noCtr) (callT Try.prog w (flatT Try.prog) (noCtr) (fpreOf [digitC]) (noLoop) 20) ((noLoop) 42) (roundOf (bodyAt Try.prog 42 0)) 0 3 nuRo nuRf nuRb (nuSt L O tx a nl xs m cap d e fr bs ⟨⟩) (nuFin L O tx a nl xs m cap d e fr bs ⟨⟩) (nuBck L O tx a nl xs m cap d e fr bs ⟨⟩) nuNxX nuNxX nuNxZ ⟨i, n⟩ =
(.br (decide (i < (↑tx.size : Int)))
 (.chk ((0 : Int) ≤ i ∧ i < (↑tx.size : Int))
 (.all fun x : { x // J6 x } =>
  (.br (decide (x.val ≥ (0 : Int)))
   (.chk ((0 : Int) ≤ i ∧ i < (↑tx.size : Int))
   (.all fun x_1 : { x // J6 x } =>
    (.chk (IntKind.i64 = IntKind.i64 ∧ fr = fr)
    (.chk (IntKind.i64 = IntKind.i64 ∧ bs = bs)
    (.chk (IntKind.i64 = IntKind.i64 ∧ IntKind.i64.wrap (i + (1 : Int)) = IntKind.i64.wrap (i + (1 : Int)))
    (.chk (IntKind.i64 = IntKind.i64 ∧
  (if false = true then
      if (1099511627776 : Int) > IntKind.i64.wrap (IntKind.i64.wrap (n * bs) + x_1.val) then (1099511627776 : Int)
      else IntKind.i64.wrap (IntKind.i64.wrap (n * bs) + x_1.val)
    else
      if (1099511627776 : Int) < IntKind.i64.wrap (IntKind.i64.wrap (n * bs) + x_1.val) then (1099511627776 : Int)
      else IntKind.i64.wrap (IntKind.i64.wrap (n * bs) + x_1.val)) =
    if false = true then
      if (1099511627776 : Int) > IntKind.i64.wrap (IntKind.i64.wrap (n * bs) + x_1.val) then (1099511627776 : Int)
      else IntKind.i64.wrap (IntKind.i64.wrap (n * bs) + x_1.val)
    else
      if (1099511627776 : Int) < IntKind.i64.wrap (IntKind.i64.wrap (n * bs) + x_1.val) then (1099511627776 : Int)
      else IntKind.i64.wrap (IntKind.i64.wrap (n * bs) + x_1.val))
    (.chk (L = L ∧ O = O)
    (.chk (Go.Value.string tx = Go.Value.string tx)
    (.chk (IntKind.i64 = IntKind.i64 ∧ a = a)
    (.chk (nl = nl ∧ (2 : Nat) = (2 : Nat) ∧ (0 : Nat) = (0 : Nat) ∧ m = m ∧ cap = cap)
    (.chk (IntKind.i64 = IntKind.i64 ∧ d = d)
    (.chk (IntKind.i64 = IntKind.i64 ∧ e = e)
    (.chk (nl = nl ∧ [IntKind.i64, IntKind.i64] = [IntKind.i64, IntKind.i64] ∧ xs = xs ∧ cap = cap)
    (.leaf (.inl ⟨IntKind.i64.wrap (i + (1 : Int)), if false = true then
  if (1099511627776 : Int) > IntKind.i64.wrap (IntKind.i64.wrap (n * bs) + x_1.val) then (1099511627776 : Int)
  else IntKind.i64.wrap (IntKind.i64.wrap (n * bs) + x_1.val)
else
  if (1099511627776 : Int) < IntKind.i64.wrap (IntKind.i64.wrap (n * bs) + x_1.val) then (1099511627776 : Int)
  else IntKind.i64.wrap (IntKind.i64.wrap (n * bs) + x_1.val)⟩)))))))))))))))
   (.chk (IntKind.i64 = IntKind.i64 ∧ fr = fr)
   (.chk (IntKind.i64 = IntKind.i64 ∧ bs = bs)
   (.chk (IntKind.i64 = IntKind.i64 ∧ i = i)
   (.chk (IntKind.i64 = IntKind.i64 ∧ n = n)
   (.chk (L = L ∧ O = O)
   (.chk (Go.Value.string tx = Go.Value.string tx)
   (.chk (IntKind.i64 = IntKind.i64 ∧ a = a)
   (.chk (nl = nl ∧ (2 : Nat) = (2 : Nat) ∧ (0 : Nat) = (0 : Nat) ∧ m = m ∧ cap = cap)
   (.chk (IntKind.i64 = IntKind.i64 ∧ d = d)
   (.chk (IntKind.i64 = IntKind.i64 ∧ e = e)
   (.chk (nl = nl ∧ [IntKind.i64, IntKind.i64] = [IntKind.i64, IntKind.i64] ∧ xs = xs ∧ cap = cap)
   (.leaf (.inr (.inl ⟨i, n⟩)))))))))))))))))
 (.chk (IntKind.i64 = IntKind.i64 ∧ fr = fr)
 (.chk (IntKind.i64 = IntKind.i64 ∧ bs = bs)
 (.chk (IntKind.i64 = IntKind.i64 ∧ i = i)
 (.chk (IntKind.i64 = IntKind.i64 ∧ n = n)
 (.chk (L = L ∧ O = O)
 (.chk (Go.Value.string tx = Go.Value.string tx)
 (.chk (IntKind.i64 = IntKind.i64 ∧ a = a)
 (.chk (nl = nl ∧ (2 : Nat) = (2 : Nat) ∧ (0 : Nat) = (0 : Nat) ∧ m = m ∧ cap = cap)
 (.chk (IntKind.i64 = IntKind.i64 ∧ d = d)
 (.chk (IntKind.i64 = IntKind.i64 ∧ e = e)
 (.chk (nl = nl ∧ [IntKind.i64, IntKind.i64] = [IntKind.i64, IntKind.i64] ∧ xs = xs ∧ cap = cap)
 (.leaf (.inr (.inl ⟨i, n⟩))))))))))))))) := by kernel_rfl
theorem nastep_tree (w : World) (L : Nat → Option Obj) (O : Nat → Bool) (tx : ByteArray) (a : Int) (nl : Bool) (xs : List Int) (m cap : Nat) (d e : Int) (i : Int) :
    roundT Try.prog w (flatT Try.prog) (noCtr) (callT Try.prog w (flatT Try.prog) (noCtr) (noPre) (noLoop) 20) ((noLoop) 43) (roundOf (bodyAt Try.prog 43 0)) 0 3 naRo naRf naRb (naSt L O tx a nl xs m cap d e ⟨⟩) (naFin L O tx a nl xs m cap d e ⟨⟩) (naBck L O tx a nl xs m cap d e ⟨⟩) naNxX naNxX naNxZ ⟨i⟩ =
(.br (decide (i < (↑tx.size : Int)))
 (.chk ((0 : Int) ≤ i ∧ i < (↑tx.size : Int))
 (.br (decide (sym.byteAt tx i.toNat ≥ (97 : Int)))
  (.chk ((0 : Int) ≤ i ∧ i < (↑tx.size : Int))
  (.br (decide (sym.byteAt tx i.toNat ≤ (122 : Int)))
   (.chk (IntKind.i64 = IntKind.i64 ∧ IntKind.i64.wrap (i + (1 : Int)) = IntKind.i64.wrap (i + (1 : Int)))
   (.chk (L = L ∧ O = O)
   (.chk (Go.Value.string tx = Go.Value.string tx)
   (.chk (IntKind.i64 = IntKind.i64 ∧ a = a)
   (.chk (nl = nl ∧ (2 : Nat) = (2 : Nat) ∧ (0 : Nat) = (0 : Nat) ∧ m = m ∧ cap = cap)
   (.chk (IntKind.i64 = IntKind.i64 ∧ d = d)
   (.chk (IntKind.i64 = IntKind.i64 ∧ e = e)
   (.chk (nl = nl ∧ [IntKind.i64, IntKind.i64] = [IntKind.i64, IntKind.i64] ∧ xs = xs ∧ cap = cap)
   (.leaf (.inl ⟨IntKind.i64.wrap (i + (1 : Int))⟩))))))))))
   (.chk (IntKind.i64 = IntKind.i64 ∧ i = i)
   (.chk (L = L ∧ O = O)
   (.chk (Go.Value.string tx = Go.Value.string tx)
   (.chk (IntKind.i64 = IntKind.i64 ∧ a = a)
   (.chk (nl = nl ∧ (2 : Nat) = (2 : Nat) ∧ (0 : Nat) = (0 : Nat) ∧ m = m ∧ cap = cap)
   (.chk (IntKind.i64 = IntKind.i64 ∧ d = d)
   (.chk (IntKind.i64 = IntKind.i64 ∧ e = e)
   (.chk (nl = nl ∧ [IntKind.i64, IntKind.i64] = [IntKind.i64, IntKind.i64] ∧ xs = xs ∧ cap = cap)
   (.leaf (.inr (.inl ⟨i⟩)))))))))))))
  (.chk (IntKind.i64 = IntKind.i64 ∧ i = i)
  (.chk (L = L ∧ O = O)
  (.chk (Go.Value.string tx = Go.Value.string tx)
  (.chk (IntKind.i64 = IntKind.i64 ∧ a = a)
  (.chk (nl = nl ∧ (2 : Nat) = (2 : Nat) ∧ (0 : Nat) = (0 : Nat) ∧ m = m ∧ cap = cap)
  (.chk (IntKind.i64 = IntKind.i64 ∧ d = d)
  (.chk (IntKind.i64 = IntKind.i64 ∧ e = e)
  (.chk (nl = nl ∧ [IntKind.i64, IntKind.i64] = [IntKind.i64, IntKind.i64] ∧ xs = xs ∧ cap = cap)
  (.leaf (.inr (.inl ⟨i⟩)))))))))))))
 (.chk (IntKind.i64 = IntKind.i64 ∧ i = i)
 (.chk (L = L ∧ O = O)
 (.chk (Go.Value.string tx = Go.Value.string tx)
 (.chk (IntKind.i64 = IntKind.i64 ∧ a = a)
 (.chk (nl = nl ∧ (2 : Nat) = (2 : Nat) ∧ (0 : Nat) = (0 : Nat) ∧ m = m ∧ cap = cap)
 (.chk (IntKind.i64 = IntKind.i64 ∧ d = d)
 (.chk (IntKind.i64 = IntKind.i64 ∧ e = e)
 (.chk (nl = nl ∧ [IntKind.i64, IntKind.i64] = [IntKind.i64, IntKind.i64] ∧ xs = xs ∧ cap = cap)
 (.leaf (.inr (.inl ⟨i⟩)))))))))))) := by kernel_rfl
theorem number_tree (w : World) (L : Nat → Option Obj) (O : Nat → Bool) (tx : ByteArray) (a : Int) (nl : Bool) (xs : List Int) (m cap : Nat) (d e : Int) (fr bs : Int) :
    callT Try.prog w (flatT Try.prog) (noCtr) (fpreOf [digitC]) (lpOf Try.prog [nuLp L O tx a nl xs m cap d e fr bs]) 20 42 [.v (.one (.ptr 1 0)), .v (.one (.int false .i64 fr)), .v (.one (.int false .i64 bs))] [⟨[.keep L O], 0⟩, ⟨[.val (.string tx), .int false .i64 a, .gs 2 nl 2 0 m cap, .int false .i64 d, .int false .i64 e], 72⟩, ⟨[.row nl [.i64, .i64] xs cap], 60⟩] =
(.chk (sym.textAt Go.Proofs.Try.prog (42 : Go.FuncId) (0 : Nat) = sym.textAt Go.Proofs.Try.prog (42 : Go.FuncId) (0 : Nat))
(.chk (IntKind.i64 = IntKind.i64 ∧ fr = fr)
(.chk (IntKind.i64 = IntKind.i64 ∧ bs = bs)
(.chk (IntKind.i64 = IntKind.i64 ∧ fr = fr)
(.chk (IntKind.i64 = IntKind.i64 ∧ (0 : Int) = (0 : Int))
(.chk (L = L ∧ O = O)
(.chk (Go.Value.string tx = Go.Value.string tx)
(.chk (IntKind.i64 = IntKind.i64 ∧ a = a)
(.chk (nl = nl ∧ (2 : Nat) = (2 : Nat) ∧ (0 : Nat) = (0 : Nat) ∧ m = m ∧ cap = cap)
(.chk (IntKind.i64 = IntKind.i64 ∧ d = d)
(.chk (IntKind.i64 = IntKind.i64 ∧ e = e)
(.chk (nl = nl ∧ [IntKind.i64, IntKind.i64] = [IntKind.i64, IntKind.i64] ∧ xs = xs ∧ cap = cap)
(.chk (nuInv L O tx a nl xs m cap d e fr bs { } { i := fr, n := (0 : Int) })
(.all fun x : sym.Got nuX
  (nuPost L O tx a nl xs m cap d e fr bs { }) =>
 (.br (x.1.1 == fr)
  (.br (decide (fr > a))
   (.leaf ((.tuple []), [⟨[(.keep (L) (O))], 0⟩, ⟨[(.val (Go.Value.string tx)), (.int false .i64 (fr)), (.gs 2 (nl) 2 0 (m) (cap)), (.int false .i64 (d)), (.int true .i64 (11))], 72⟩, ⟨[(.row (nl) ([IntKind.i64, IntKind.i64]) (xs) (cap))], 60⟩]))
   (.leaf ((.tuple []), [⟨[(.keep (L) (O))], 0⟩, ⟨[(.val (Go.Value.string tx)), (.int false .i64 (a)), (.gs 2 (nl) 2 0 (m) (cap)), (.int false .i64 (d)), (.int true .i64 (11))], 72⟩, ⟨[(.row (nl) ([IntKind.i64, IntKind.i64]) (xs) (cap))], 60⟩])))
  (.br (decide (x.1.2 > (2147483647 : Int)))
   (.leaf ((.tuple []), [⟨[(.keep (L) (O))], 0⟩, ⟨[(.val (Go.Value.string tx)), (.int false .i64 (a)), (.gs 2 (nl) 2 0 (m) (cap)), (.int false .i64 (d)), (.int true .i64 (11))], 72⟩, ⟨[(.row (nl) ([IntKind.i64, IntKind.i64]) (xs) (cap))], 60⟩]))
   (.chk (True ∧
  (nl = nl ∧
      (0 : Nat) = (0 : Nat) ∧
        cap = cap ∧
          m * [IntKind.i64, IntKind.i64].length ≤ xs.length ∧
            m ≤ cap ∧ cap ≤ Go.maxLen ∧ (nl = true → cap = (0 : Nat))) ∧
    (m + (1 : Nat)) * (16 : Nat) ≤ (140737488355328 : Nat))
   (.all fun x_1 : sym.Grown nl (1 : Nat) (m + (1 : Nat)) =>
    (.leaf ((.tuple []), [⟨[(.keep (L) (O))], 0⟩, ⟨[(.val (Go.Value.string tx)), (.int false .i64 (x.1.1)), (.gs 4 (x_1.nl') 2 0 (m + (1 : Nat)) (x_1.cap)), (.int false .i64 (d)), (.int false .i64 (e))], 72⟩, ⟨[.dead], 60⟩, ⟨[(.int true .i64 (1)), (.int false .i64 (x.1.2))], 60⟩, ⟨[(.row (x_1.nl') ([IntKind.i64, IntKind.i64]) (List.take (m * [IntKind.i64, IntKind.i64].length) xs ++ [(1 : Int), x.1.2]) (x_1.cap))], 60⟩])))))))))))))))))))) := by kernel_rfl
theorem pname_tree (w : World) (L : Nat → Option Obj) (O : Nat → Bool) (tx : ByteArray) (a : Int) (nl : Bool) (xs : List Int) (m cap : Nat) (d e : Int) :
    callT Try.prog w (flatT Try.prog) (noCtr) (noPre) (lpOf Try.prog [naLp L O tx a nl xs m cap d e]) 20 43 [.v (.one (.ptr 1 0))] [⟨[.keep L O], 0⟩, ⟨[.val (.string tx), .int false .i64 a, .gs 2 nl 2 0 m cap, .int false .i64 d, .int false .i64 e], 72⟩, ⟨[.row nl [.i64, .i64] xs cap], 60⟩] =
(.chk (sym.textAt Go.Proofs.Try.prog (43 : Go.FuncId) (0 : Nat) = sym.textAt Go.Proofs.Try.prog (43 : Go.FuncId) (0 : Nat))
(.chk (IntKind.i64 = IntKind.i64 ∧ a = a)
(.chk (L = L ∧ O = O)
(.chk (Go.Value.string tx = Go.Value.string tx)
(.chk (IntKind.i64 = IntKind.i64 ∧ a = a)
(.chk (nl = nl ∧ (2 : Nat) = (2 : Nat) ∧ (0 : Nat) = (0 : Nat) ∧ m = m ∧ cap = cap)
(.chk (IntKind.i64 = IntKind.i64 ∧ d = d)
(.chk (IntKind.i64 = IntKind.i64 ∧ e = e)
(.chk (nl = nl ∧ [IntKind.i64, IntKind.i64] = [IntKind.i64, IntKind.i64] ∧ xs = xs ∧ cap = cap)
(.chk (naInv L O tx a nl xs m cap d e { } { i := a })
(.all fun x : sym.Got naX
  (naPost L O tx a nl xs m cap d e { }) =>
 (.chk ((0 : Int) ≤ a ∧ a ≤ x.1.1 ∧ x.1.1 ≤ (↑tx.size : Int))
 (.br ((ByteArray.mk #[(97 : UInt8)]).toList == (tx.extract a.toNat x.1.1.toNat).toList)
  (.chk (True ∧
  (nl = nl ∧
      (0 : Nat) = (0 : Nat) ∧
        cap = cap ∧
          m * [IntKind.i64, IntKind.i64].length ≤ xs.length ∧
            m ≤ cap ∧ cap ≤ Go.maxLen ∧ (nl = true → cap = (0 : Nat))) ∧
    (m + (1 : Nat)) * (16 : Nat) ≤ (140737488355328 : Nat))
  (.all fun x_1 : sym.Grown nl (1 : Nat) (m + (1 : Nat)) =>
   (.leaf ((.tuple []), [⟨[(.keep (L) (O))], 0⟩, ⟨[(.val (Go.Value.string tx)), (.int false .i64 (x.1.1)), (.gs 5 (x_1.nl') 2 0 (m + (1 : Nat)) (x_1.cap)), (.int false .i64 (d)), (.int false .i64 (e))], 72⟩, ⟨[.dead], 60⟩, ⟨[(.val (Go.Value.string { data := #[(97 : UInt8)] })), (.val (Go.Value.string { data := #[(102 : UInt8)] })), (.val (Go.Value.string { data := #[(98 : UInt8)] })), (.val (Go.Value.string { data := #[(99 : UInt8)] })), (.val (Go.Value.string { data := #[(100 : UInt8)] })), (.val (Go.Value.string { data := #[(101 : UInt8)] })), (.val (Go.Value.string { data := #[(104 : UInt8)] })), (.val (Go.Value.string { data := #[(108 : UInt8)] })), (.val (Go.Value.string { data := #[(97 : UInt8), (102 : UInt8)] })), (.val (Go.Value.string { data := #[(98 : UInt8), (99 : UInt8)] })), (.val (Go.Value.string { data := #[(100 : UInt8), (101 : UInt8)] })), (.val (Go.Value.string { data := #[(104 : UInt8), (108 : UInt8)] })), (.val (Go.Value.string { data := #[(115 : UInt8), (112 : UInt8)] })), (.val (Go.Value.string { data := #[(112 : UInt8), (99 : UInt8)] })), (.val (Go.Value.string { data := #[(97 : UInt8), (100 : UInt8), (100 : UInt8), (114 : UInt8)] })), (.val (Go.Value.string { data := #[(118 : UInt8), (97 : UInt8), (108 : UInt8), (117 : UInt8), (101 : UInt8)] })), (.val (Go.Value.string { data := #[(107 : UInt8), (105 : UInt8), (110 : UInt8), (100 : UInt8)] })), (.val (Go.Value.string { data := #[(98 : UInt8), (97 : UInt8), (110 : UInt8), (107 : UInt8)] }))], 9⟩, ⟨[(.int true .i64 (2)), (.int true .i64 (0))], 60⟩, ⟨[(.row (x_1.nl') ([IntKind.i64, IntKind.i64]) (List.take (m * [IntKind.i64, IntKind.i64].length) xs ++ [(2 : Int), (0 : Int)]) (x_1.cap))], 60⟩]))))
  (.chk ((0 : Int) ≤ a ∧ a ≤ x.1.1 ∧ x.1.1 ≤ (↑tx.size : Int))
  (.br ((ByteArray.mk #[(102 : UInt8)]).toList == (tx.extract a.toNat x.1.1.toNat).toList)
   (.chk (True ∧
  (nl = nl ∧
      (0 : Nat) = (0 : Nat) ∧
        cap = cap ∧
          m * [IntKind.i64, IntKind.i64].length ≤ xs.length ∧
            m ≤ cap ∧ cap ≤ Go.maxLen ∧ (nl = true → cap = (0 : Nat))) ∧
    (m + (1 : Nat)) * (16 : Nat) ≤ (140737488355328 : Nat))
   (.all fun x_1 : sym.Grown nl (1 : Nat) (m + (1 : Nat)) =>
    (.leaf ((.tuple []), [⟨[(.keep (L) (O))], 0⟩, ⟨[(.val (Go.Value.string tx)), (.int false .i64 (x.1.1)), (.gs 5 (x_1.nl') 2 0 (m + (1 : Nat)) (x_1.cap)), (.int false .i64 (d)), (.int false .i64 (e))], 72⟩, ⟨[.dead], 60⟩, ⟨[(.val (Go.Value.string { data := #[(97 : UInt8)] })), (.val (Go.Value.string { data := #[(102 : UInt8)] })), (.val (Go.Value.string { data := #[(98 : UInt8)] })), (.val (Go.Value.string { data := #[(99 : UInt8)] })), (.val (Go.Value.string { data := #[(100 : UInt8)] })), (.val (Go.Value.string { data := #[(101 : UInt8)] })), (.val (Go.Value.string { data := #[(104 : UInt8)] })), (.val (Go.Value.string { data := #[(108 : UInt8)] })), (.val (Go.Value.string { data := #[(97 : UInt8), (102 : UInt8)] })), (.val (Go.Value.string { data := #[(98 : UInt8), (99 : UInt8)] })), (.val (Go.Value.string { data := #[(100 : UInt8), (101 : UInt8)] })), (.val (Go.Value.string { data := #[(104 : UInt8), (108 : UInt8)] })), (.val (Go.Value.string { data := #[(115 : UInt8), (112 : UInt8)] })), (.val (Go.Value.string { data := #[(112 : UInt8), (99 : UInt8)] })), (.val (Go.Value.string { data := #[(97 : UInt8), (100 : UInt8), (100 : UInt8), (114 : UInt8)] })), (.val (Go.Value.string { data := #[(118 : UInt8), (97 : UInt8), (108 : UInt8), (117 : UInt8), (101 : UInt8)] })), (.val (Go.Value.string { data := #[(107 : UInt8), (105 : UInt8), (110 : UInt8), (100 : UInt8)] })), (.val (Go.Value.string { data := #[(98 : UInt8), (97 : UInt8), (110 : UInt8), (107 : UInt8)] }))], 9⟩, ⟨[(.int true .i64 (2)), (.int true .i64 (1))], 60⟩, ⟨[(.row (x_1.nl') ([IntKind.i64, IntKind.i64]) (List.take (m * [IntKind.i64, IntKind.i64].length) xs ++ [(2 : Int), IntKind.i64.wrap ((0 : Int) + (1 : Int))]) (x_1.cap))], 60⟩]))))
   (.chk ((0 : Int) ≤ a ∧ a ≤ x.1.1 ∧ x.1.1 ≤ (↑tx.size : Int))
   (.br ((ByteArray.mk #[(98 : UInt8)]).toList == (tx.extract a.toNat x.1.1.toNat).toList)
    (.chk (True ∧
  (nl = nl ∧
      (0 : Nat) = (0 : Nat) ∧
        cap = cap ∧
          m * [IntKind.i64, IntKind.i64].length ≤ xs.length ∧
            m ≤ cap ∧ cap ≤ Go.maxLen ∧ (nl = true → cap = (0 : Nat))) ∧
    (m + (1 : Nat)) * (16 : Nat) ≤ (140737488355328 : Nat))
    (.all fun x_1 : sym.Grown nl (1 : Nat) (m + (1 : Nat)) =>
     (.leaf ((.tuple []), [⟨[(.keep (L) (O))], 0⟩, ⟨[(.val (Go.Value.string tx)), (.int false .i64 (x.1.1)), (.gs 5 (x_1.nl') 2 0 (m + (1 : Nat)) (x_1.cap)), (.int false .i64 (d)), (.int false .i64 (e))], 72⟩, ⟨[.dead], 60⟩, ⟨[(.val (Go.Value.string { data := #[(97 : UInt8)] })), (.val (Go.Value.string { data := #[(102 : UInt8)] })), (.val (Go.Value.string { data := #[(98 : UInt8)] })), (.val (Go.Value.string { data := #[(99 : UInt8)] })), (.val (Go.Value.string { data := #[(100 : UInt8)] })), (.val (Go.Value.string { data := #[(101 : UInt8)] })), (.val (Go.Value.string { data := #[(104 : UInt8)] })), (.val (Go.Value.string { data := #[(108 : UInt8)] })), (.val (Go.Value.string { data := #[(97 : UInt8), (102 : UInt8)] })), (.val (Go.Value.string { data := #[(98 : UInt8), (99 : UInt8)] })), (.val (Go.Value.string { data := #[(100 : UInt8), (101 : UInt8)] })), (.val (Go.Value.string { data := #[(104 : UInt8), (108 : UInt8)] })), (.val (Go.Value.string { data := #[(115 : UInt8), (112 : UInt8)] })), (.val (Go.Value.string { data := #[(112 : UInt8), (99 : UInt8)] })), (.val (Go.Value.string { data := #[(97 : UInt8), (100 : UInt8), (100 : UInt8), (114 : UInt8)] })), (.val (Go.Value.string { data := #[(118 : UInt8), (97 : UInt8), (108 : UInt8), (117 : UInt8), (101 : UInt8)] })), (.val (Go.Value.string { data := #[(107 : UInt8), (105 : UInt8), (110 : UInt8), (100 : UInt8)] })), (.val (Go.Value.string { data := #[(98 : UInt8), (97 : UInt8), (110 : UInt8), (107 : UInt8)] }))], 9⟩, ⟨[(.int true .i64 (2)), (.int true .i64 (2))], 60⟩, ⟨[(.row (x_1.nl') ([IntKind.i64, IntKind.i64]) (List.take (m * [IntKind.i64, IntKind.i64].length) xs ++
  [(2 : Int), IntKind.i64.wrap (IntKind.i64.wrap ((0 : Int) + (1 : Int)) + (1 : Int))]) (x_1.cap))], 60⟩]))))
    (.chk ((0 : Int) ≤ a ∧ a ≤ x.1.1 ∧ x.1.1 ≤ (↑tx.size : Int))
    (.br ((ByteArray.mk #[(99 : UInt8)]).toList == (tx.extract a.toNat x.1.1.toNat).toList)
     (.chk (True ∧
  (nl = nl ∧
      (0 : Nat) = (0 : Nat) ∧
        cap = cap ∧
          m * [IntKind.i64, IntKind.i64].length ≤ xs.length ∧
            m ≤ cap ∧ cap ≤ Go.maxLen ∧ (nl = true → cap = (0 : Nat))) ∧
    (m + (1 : Nat)) * (16 : Nat) ≤ (140737488355328 : Nat))
     (.all fun x_1 : sym.Grown nl (1 : Nat) (m + (1 : Nat)) =>
      (.leaf ((.tuple []), [⟨[(.keep (L) (O))], 0⟩, ⟨[(.val (Go.Value.string tx)), (.int false .i64 (x.1.1)), (.gs 5 (x_1.nl') 2 0 (m + (1 : Nat)) (x_1.cap)), (.int false .i64 (d)), (.int false .i64 (e))], 72⟩, ⟨[.dead], 60⟩, ⟨[(.val (Go.Value.string { data := #[(97 : UInt8)] })), (.val (Go.Value.string { data := #[(102 : UInt8)] })), (.val (Go.Value.string { data := #[(98 : UInt8)] })), (.val (Go.Value.string { data := #[(99 : UInt8)] })), (.val (Go.Value.string { data := #[(100 : UInt8)] })), (.val (Go.Value.string { data := #[(101 : UInt8)] })), (.val (Go.Value.string { data := #[(104 : UInt8)] })), (.val (Go.Value.string { data := #[(108 : UInt8)] })), (.val (Go.Value.string { data := #[(97 : UInt8), (102 : UInt8)] })), (.val (Go.Value.string { data := #[(98 : UInt8), (99 : UInt8)] })), (.val (Go.Value.string { data := #[(100 : UInt8), (101 : UInt8)] })), (.val (Go.Value.string { data := #[(104 : UInt8), (108 : UInt8)] })), (.val (Go.Value.string { data := #[(115 : UInt8), (112 : UInt8)] })), (.val (Go.Value.string { data := #[(112 : UInt8), (99 : UInt8)] })), (.val (Go.Value.string { data := #[(97 : UInt8), (100 : UInt8), (100 : UInt8), (114 : UInt8)] })), (.val (Go.Value.string { data := #[(118 : UInt8), (97 : UInt8), (108 : UInt8), (117 : UInt8), (101 : UInt8)] })), (.val (Go.Value.string { data := #[(107 : UInt8), (105 : UInt8), (110 : UInt8), (100 : UInt8)] })), (.val (Go.Value.string { data := #[(98 : UInt8), (97 : UInt8), (110 : UInt8), (107 : UInt8)] }))], 9⟩, ⟨[(.int true .i64 (2)), (.int true .i64 (3))], 60⟩, ⟨[(.row (x_1.nl') ([IntKind.i64, IntKind.i64]) (List.take (m * [IntKind.i64, IntKind.i64].length) xs ++
  [(2 : Int),
    IntKind.i64.wrap (IntKind.i64.wrap (IntKind.i64.wrap ((0 : Int) + (1 : Int)) + (1 : Int)) + (1 : Int))]) (x_1.cap))], 60⟩]))))
     (.chk ((0 : Int) ≤ a ∧ a ≤ x.1.1 ∧ x.1.1 ≤ (↑tx.size : Int))
     (.br ((ByteArray.mk #[(100 : UInt8)]).toList == (tx.extract a.toNat x.1.1.toNat).toList)
      (.chk (True ∧
  (nl = nl ∧
      (0 : Nat) = (0 : Nat) ∧
        cap = cap ∧
          m * [IntKind.i64, IntKind.i64].length ≤ xs.length ∧
            m ≤ cap ∧ cap ≤ Go.maxLen ∧ (nl = true → cap = (0 : Nat))) ∧
    (m + (1 : Nat)) * (16 : Nat) ≤ (140737488355328 : Nat))
      (.all fun x_1 : sym.Grown nl (1 : Nat) (m + (1 : Nat)) =>
       (.leaf ((.tuple []), [⟨[(.keep (L) (O))], 0⟩, ⟨[(.val (Go.Value.string tx)), (.int false .i64 (x.1.1)), (.gs 5 (x_1.nl') 2 0 (m + (1 : Nat)) (x_1.cap)), (.int false .i64 (d)), (.int false .i64 (e))], 72⟩, ⟨[.dead], 60⟩, ⟨[(.val (Go.Value.string { data := #[(97 : UInt8)] })), (.val (Go.Value.string { data := #[(102 : UInt8)] })), (.val (Go.Value.string { data := #[(98 : UInt8)] })), (.val (Go.Value.string { data := #[(99 : UInt8)] })), (.val (Go.Value.string { data := #[(100 : UInt8)] })), (.val (Go.Value.string { data := #[(101 : UInt8)] })), (.val (Go.Value.string { data := #[(104 : UInt8)] })), (.val (Go.Value.string { data := #[(108 : UInt8)] })), (.val (Go.Value.string { data := #[(97 : UInt8), (102 : UInt8)] })), (.val (Go.Value.string { data := #[(98 : UInt8), (99 : UInt8)] })), (.val (Go.Value.string { data := #[(100 : UInt8), (101 : UInt8)] })), (.val (Go.Value.string { data := #[(104 : UInt8), (108 : UInt8)] })), (.val (Go.Value.string { data := #[(115 : UInt8), (112 : UInt8)] })), (.val (Go.Value.string { data := #[(112 : UInt8), (99 : UInt8)] })), (.val (Go.Value.string { data := #[(97 : UInt8), (100 : UInt8), (100 : UInt8), (114 : UInt8)] })), (.val (Go.Value.string { data := #[(118 : UInt8), (97 : UInt8), (108 : UInt8), (117 : UInt8), (101 : UInt8)] })), (.val (Go.Value.string { data := #[(107 : UInt8), (105 : UInt8), (110 : UInt8), (100 : UInt8)] })), (.val (Go.Value.string { data := #[(98 : UInt8), (97 : UInt8), (110 : UInt8), (107 : UInt8)] }))], 9⟩, ⟨[(.int true .i64 (2)), (.int true .i64 (4))], 60⟩, ⟨[(.row (x_1.nl') ([IntKind.i64, IntKind.i64]) (List.take (m * [IntKind.i64, IntKind.i64].length) xs ++
  [(2 : Int),
    IntKind.i64.wrap
      (IntKind.i64.wrap (IntKind.i64.wrap (IntKind.i64.wrap ((0 : Int) + (1 : Int)) + (1 : Int)) + (1 : Int)) +
        (1 : Int))]) (x_1.cap))], 60⟩]))))
      (.chk ((0 : Int) ≤ a ∧ a ≤ x.1.1 ∧ x.1.1 ≤ (↑tx.size : Int))
      (.br ((ByteArray.mk #[(101 : UInt8)]).toList == (tx.extract a.toNat x.1.1.toNat).toList)
       (.chk (True ∧
  (nl = nl ∧
      (0 : Nat) = (0 : Nat) ∧
        cap = cap ∧
          m * [IntKind.i64, IntKind.i64].length ≤ xs.length ∧
            m ≤ cap ∧ cap ≤ Go.maxLen ∧ (nl = true → cap = (0 : Nat))) ∧
    (m + (1 : Nat)) * (16 : Nat) ≤ (140737488355328 : Nat))
       (.all fun x_1 : sym.Grown nl (1 : Nat) (m + (1 : Nat)) =>
        (.leaf ((.tuple []), [⟨[(.keep (L) (O))], 0⟩, ⟨[(.val (Go.Value.string tx)), (.int false .i64 (x.1.1)), (.gs 5 (x_1.nl') 2 0 (m + (1 : Nat)) (x_1.cap)), (.int false .i64 (d)), (.int false .i64 (e))], 72⟩, ⟨[.dead], 60⟩, ⟨[(.val (Go.Value.string { data := #[(97 : UInt8)] })), (.val (Go.Value.string { data := #[(102 : UInt8)] })), (.val (Go.Value.string { data := #[(98 : UInt8)] })), (.val (Go.Value.string { data := #[(99 : UInt8)] })), (.val (Go.Value.string { data := #[(100 : UInt8)] })), (.val (Go.Value.string { data := #[(101 : UInt8)] })), (.val (Go.Value.string { data := #[(104 : UInt8)] })), (.val (Go.Value.string { data := #[(108 : UInt8)] })), (.val (Go.Value.string { data := #[(97 : UInt8), (102 : UInt8)] })), (.val (Go.Value.string { data := #[(98 : UInt8), (99 : UInt8)] })), (.val (Go.Value.string { data := #[(100 : UInt8), (101 : UInt8)] })), (.val (Go.Value.string { data := #[(104 : UInt8), (108 : UInt8)] })), (.val (Go.Value.string { data := #[(115 : UInt8), (112 : UInt8)] })), (.val (Go.Value.string { data := #[(112 : UInt8), (99 : UInt8)] })), (.val (Go.Value.string { data := #[(97 : UInt8), (100 : UInt8), (100 : UInt8), (114 : UInt8)] })), (.val (Go.Value.string { data := #[(118 : UInt8), (97 : UInt8), (108 : UInt8), (117 : UInt8), (101 : UInt8)] })), (.val (Go.Value.string { data := #[(107 : UInt8), (105 : UInt8), (110 : UInt8), (100 : UInt8)] })), (.val (Go.Value.string { data := #[(98 : UInt8), (97 : UInt8), (110 : UInt8), (107 : UInt8)] }))], 9⟩, ⟨[(.int true .i64 (2)), (.int true .i64 (5))], 60⟩, ⟨[(.row (x_1.nl') ([IntKind.i64, IntKind.i64]) (List.take (m * [IntKind.i64, IntKind.i64].length) xs ++
  [(2 : Int),
    IntKind.i64.wrap
      (IntKind.i64.wrap
          (IntKind.i64.wrap
              (IntKind.i64.wrap (IntKind.i64.wrap ((0 : Int) + (1 : Int)) + (1 : Int)) + (1 : Int)) +
            (1 : Int)) +
        (1 : Int))]) (x_1.cap))], 60⟩]))))
       (.chk ((0 : Int) ≤ a ∧ a ≤ x.1.1 ∧ x.1.1 ≤ (↑tx.size : Int))
       (.br ((ByteArray.mk #[(104 : UInt8)]).toList == (tx.extract a.toNat x.1.1.toNat).toList)
        (.chk (True ∧
  (nl = nl ∧
      (0 : Nat) = (0 : Nat) ∧
        cap = cap ∧
          m * [IntKind.i64, IntKind.i64].length ≤ xs.length ∧
            m ≤ cap ∧ cap ≤ Go.maxLen ∧ (nl = true → cap = (0 : Nat))) ∧
    (m + (1 : Nat)) * (16 : Nat) ≤ (140737488355328 : Nat))
        (.all fun x_1 : sym.Grown nl (1 : Nat) (m + (1 : Nat)) =>
         (.leaf ((.tuple []), [⟨[(.keep (L) (O))], 0⟩, ⟨[(.val (Go.Value.string tx)), (.int false .i64 (x.1.1)), (.gs 5 (x_1.nl') 2 0 (m + (1 : Nat)) (x_1.cap)), (.int false .i64 (d)), (.int false .i64 (e))], 72⟩, ⟨[.dead], 60⟩, ⟨[(.val (Go.Value.string { data := #[(97 : UInt8)] })), (.val (Go.Value.string { data := #[(102 : UInt8)] })), (.val (Go.Value.string { data := #[(98 : UInt8)] })), (.val (Go.Value.string { data := #[(99 : UInt8)] })), (.val (Go.Value.string { data := #[(100 : UInt8)] })), (.val (Go.Value.string { data := #[(101 : UInt8)] })), (.val (Go.Value.string { data := #[(104 : UInt8)] })), (.val (Go.Value.string { data := #[(108 : UInt8)] })), (.val (Go.Value.string { data := #[(97 : UInt8), (102 : UInt8)] })), (.val (Go.Value.string { data := #[(98 : UInt8), (99 : UInt8)] })), (.val (Go.Value.string { data := #[(100 : UInt8), (101 : UInt8)] })), (.val (Go.Value.string { data := #[(104 : UInt8), (108 : UInt8)] })), (.val (Go.Value.string { data := #[(115 : UInt8), (112 : UInt8)] })), (.val (Go.Value.string { data := #[(112 : UInt8), (99 : UInt8)] })), (.val (Go.Value.string { data := #[(97 : UInt8), (100 : UInt8), (100 : UInt8), (114 : UInt8)] })), (.val (Go.Value.string { data := #[(118 : UInt8), (97 : UInt8), (108 : UInt8), (117 : UInt8), (101 : UInt8)] })), (.val (Go.Value.string { data := #[(107 : UInt8), (105 : UInt8), (110 : UInt8), (100 : UInt8)] })), (.val (Go.Value.string { data := #[(98 : UInt8), (97 : UInt8), (110 : UInt8), (107 : UInt8)] }))], 9⟩, ⟨[(.int true .i64 (2)), (.int true .i64 (6))], 60⟩, ⟨[(.row (x_1.nl') ([IntKind.i64, IntKind.i64]) (List.take (m * [IntKind.i64, IntKind.i64].length) xs ++
  [(2 : Int),
    IntKind.i64.wrap
      (IntKind.i64.wrap
          (IntKind.i64.wrap
              (IntKind.i64.wrap
                  (IntKind.i64.wrap (IntKind.i64.wrap ((0 : Int) + (1 : Int)) + (1 : Int)) + (1 : Int)) +
                (1 : Int)) +
            (1 : Int)) +
        (1 : Int))]) (x_1.cap))], 60⟩]))))
        (.chk ((0 : Int) ≤ a ∧ a ≤ x.1.1 ∧ x.1.1 ≤ (↑tx.size : Int))
        (.br ((ByteArray.mk #[(108 : UInt8)]).toList == (tx.extract a.toNat x.1.1.toNat).toList)
         (.chk (True ∧
  (nl = nl ∧
      (0 : Nat) = (0 : Nat) ∧
        cap = cap ∧
          m * [IntKind.i64, IntKind.i64].length ≤ xs.length ∧
            m ≤ cap ∧ cap ≤ Go.maxLen ∧ (nl = true → cap = (0 : Nat))) ∧
    (m + (1 : Nat)) * (16 : Nat) ≤ (140737488355328 : Nat))
         (.all fun x_1 : sym.Grown nl (1 : Nat) (m + (1 : Nat)) =>
          (.leaf ((.tuple []), [⟨[(.keep (L) (O))], 0⟩, ⟨[(.val (Go.Value.string tx)), (.int false .i64 (x.1.1)), (.gs 5 (x_1.nl') 2 0 (m + (1 : Nat)) (x_1.cap)), (.int false .i64 (d)), (.int false .i64 (e))], 72⟩, ⟨[.dead], 60⟩, ⟨[(.val (Go.Value.string { data := #[(97 : UInt8)] })), (.val (Go.Value.string { data := #[(102 : UInt8)] })), (.val (Go.Value.string { data := #[(98 : UInt8)] })), (.val (Go.Value.string { data := #[(99 : UInt8)] })), (.val (Go.Value.string { data := #[(100 : UInt8)] })), (.val (Go.Value.string { data := #[(101 : UInt8)] })), (.val (Go.Value.string { data := #[(104 : UInt8)] })), (.val (Go.Value.string { data := #[(108 : UInt8)] })), (.val (Go.Value.string { data := #[(97 : UInt8), (102 : UInt8)] })), (.val (Go.Value.string { data := #[(98 : UInt8), (99 : UInt8)] })), (.val (Go.Value.string { data := #[(100 : UInt8), (101 : UInt8)] })), (.val (Go.Value.string { data := #[(104 : UInt8), (108 : UInt8)] })), (.val (Go.Value.string { data := #[(115 : UInt8), (112 : UInt8)] })), (.val (Go.Value.string { data := #[(112 : UInt8), (99 : UInt8)] })), (.val (Go.Value.string { data := #[(97 : UInt8), (100 : UInt8), (100 : UInt8), (114 : UInt8)] })), (.val (Go.Value.string { data := #[(118 : UInt8), (97 : UInt8), (108 : UInt8), (117 : UInt8), (101 : UInt8)] })), (.val (Go.Value.string { data := #[(107 : UInt8), (105 : UInt8), (110 : UInt8), (100 : UInt8)] })), (.val (Go.Value.string { data := #[(98 : UInt8), (97 : UInt8), (110 : UInt8), (107 : UInt8)] }))], 9⟩, ⟨[(.int true .i64 (2)), (.int true .i64 (7))], 60⟩, ⟨[(.row (x_1.nl') ([IntKind.i64, IntKind.i64]) (List.take (m * [IntKind.i64, IntKind.i64].length) xs ++
  [(2 : Int),
    IntKind.i64.wrap
      (IntKind.i64.wrap
          (IntKind.i64.wrap
              (IntKind.i64.wrap
                  (IntKind.i64.wrap
                      (IntKind.i64.wrap (IntKind.i64.wrap ((0 : Int) + (1 : Int)) + (1 : Int)) + (1 : Int)) +
                    (1 : Int)) +
                (1 : Int)) +
            (1 : Int)) +
        (1 : Int))]) (x_1.cap))], 60⟩]))))
         (.chk ((0 : Int) ≤ a ∧ a ≤ x.1.1 ∧ x.1.1 ≤ (↑tx.size : Int))
         (.br ((ByteArray.mk #[(97 : UInt8), (102 : UInt8)]).toList == (tx.extract a.toNat x.1.1.toNat).toList)
          (.chk (True ∧
  (nl = nl ∧
      (0 : Nat) = (0 : Nat) ∧
        cap = cap ∧
          m * [IntKind.i64, IntKind.i64].length ≤ xs.length ∧
            m ≤ cap ∧ cap ≤ Go.maxLen ∧ (nl = true → cap = (0 : Nat))) ∧
    (m + (1 : Nat)) * (16 : Nat) ≤ (140737488355328 : Nat))
          (.all fun x_1 : sym.Grown nl (1 : Nat) (m + (1 : Nat)) =>
           (.leaf ((.tuple []), [⟨[(.keep (L) (O))], 0⟩, ⟨[(.val (Go.Value.string tx)), (.int false .i64 (x.1.1)), (.gs 5 (x_1.nl') 2 0 (m + (1 : Nat)) (x_1.cap)), (.int false .i64 (d)), (.int false .i64 (e))], 72⟩, ⟨[.dead], 60⟩, ⟨[(.val (Go.Value.string { data := #[(97 : UInt8)] })), (.val (Go.Value.string { data := #[(102 : UInt8)] })), (.val (Go.Value.string { data := #[(98 : UInt8)] })), (.val (Go.Value.string { data := #[(99 : UInt8)] })), (.val (Go.Value.string { data := #[(100 : UInt8)] })), (.val (Go.Value.string { data := #[(101 : UInt8)] })), (.val (Go.Value.string { data := #[(104 : UInt8)] })), (.val (Go.Value.string { data := #[(108 : UInt8)] })), (.val (Go.Value.string { data := #[(97 : UInt8), (102 : UInt8)] })), (.val (Go.Value.string { data := #[(98 : UInt8), (99 : UInt8)] })), (.val (Go.Value.string { data := #[(100 : UInt8), (101 : UInt8)] })), (.val (Go.Value.string { data := #[(104 : UInt8), (108 : UInt8)] })), (.val (Go.Value.string { data := #[(115 : UInt8), (112 : UInt8)] })), (.val (Go.Value.string { data := #[(112 : UInt8), (99 : UInt8)] })), (.val (Go.Value.string { data := #[(97 : UInt8), (100 : UInt8), (100 : UInt8), (114 : UInt8)] })), (.val (Go.Value.string { data := #[(118 : UInt8), (97 : UInt8), (108 : UInt8), (117 : UInt8), (101 : UInt8)] })), (.val (Go.Value.string { data := #[(107 : UInt8), (105 : UInt8), (110 : UInt8), (100 : UInt8)] })), (.val (Go.Value.string { data := #[(98 : UInt8), (97 : UInt8), (110 : UInt8), (107 : UInt8)] }))], 9⟩, ⟨[(.int true .i64 (2)), (.int true .i64 (8))], 60⟩, ⟨[(.row (x_1.nl') ([IntKind.i64, IntKind.i64]) (List.take (m * [IntKind.i64, IntKind.i64].length) xs ++
  [(2 : Int),
    IntKind.i64.wrap
      (IntKind.i64.wrap
          (IntKind.i64.wrap
              (IntKind.i64.wrap
                  (IntKind.i64.wrap
                      (IntKind.i64.wrap
                          (IntKind.i64.wrap (IntKind.i64.wrap ((0 : Int) + (1 : Int)) + (1 : Int)) + (1 : Int)) +
                        (1 : Int)) +
                    (1 : Int)) +
                (1 : Int)) +
            (1 : Int)) +
        (1 : Int))]) (x_1.cap))], 60⟩]))))
          (.chk ((0 : Int) ≤ a ∧ a ≤ x.1.1 ∧ x.1.1 ≤ (↑tx.size : Int))
          (.br ((ByteArray.mk #[(98 : UInt8), (99 : UInt8)]).toList == (tx.extract a.toNat x.1.1.toNat).toList)
           (.chk (True ∧
  (nl = nl ∧
      (0 : Nat) = (0 : Nat) ∧
        cap = cap ∧
          m * [IntKind.i64, IntKind.i64].length ≤ xs.length ∧
            m ≤ cap ∧ cap ≤ Go.maxLen ∧ (nl = true → cap = (0 : Nat))) ∧
    (m + (1 : Nat)) * (16 : Nat) ≤ (140737488355328 : Nat))
           (.all fun x_1 : sym.Grown nl (1 : Nat) (m + (1 : Nat)) =>
            (.leaf ((.tuple []), [⟨[(.keep (L) (O))], 0⟩, ⟨[(.val (Go.Value.string tx)), (.int false .i64 (x.1.1)), (.gs 5 (x_1.nl') 2 0 (m + (1 : Nat)) (x_1.cap)), (.int false .i64 (d)), (.int false .i64 (e))], 72⟩, ⟨[.dead], 60⟩, ⟨[(.val (Go.Value.string { data := #[(97 : UInt8)] })), (.val (Go.Value.string { data := #[(102 : UInt8)] })), (.val (Go.Value.string { data := #[(98 : UInt8)] })), (.val (Go.Value.string { data := #[(99 : UInt8)] })), (.val (Go.Value.string { data := #[(100 : UInt8)] })), (.val (Go.Value.string { data := #[(101 : UInt8)] })), (.val (Go.Value.string { data := #[(104 : UInt8)] })), (.val (Go.Value.string { data := #[(108 : UInt8)] })), (.val (Go.Value.string { data := #[(97 : UInt8), (102 : UInt8)] })), (.val (Go.Value.string { data := #[(98 : UInt8), (99 : UInt8)] })), (.val (Go.Value.string { data := #[(100 : UInt8), (101 : UInt8)] })), (.val (Go.Value.string { data := #[(104 : UInt8), (108 : UInt8)] })), (.val (Go.Value.string { data := #[(115 : UInt8), (112 : UInt8)] })), (.val (Go.Value.string { data := #[(112 : UInt8), (99 : UInt8)] })), (.val (Go.Value.string { data := #[(97 : UInt8), (100 : UInt8), (100 : UInt8), (114 : UInt8)] })), (.val (Go.Value.string { data := #[(118 : UInt8), (97 : UInt8), (108 : UInt8), (117 : UInt8), (101 : UInt8)] })), (.val (Go.Value.string { data := #[(107 : UInt8), (105 : UInt8), (110 : UInt8), (100 : UInt8)] })), (.val (Go.Value.string { data := #[(98 : UInt8), (97 : UInt8), (110 : UInt8), (107 : UInt8)] }))], 9⟩, ⟨[(.int true .i64 (2)), (.int true .i64 (9))], 60⟩, ⟨[(.row (x_1.nl') ([IntKind.i64, IntKind.i64]) (List.take (m * [IntKind.i64, IntKind.i64].length) xs ++
  [(2 : Int),
    IntKind.i64.wrap
      (IntKind.i64.wrap
          (IntKind.i64.wrap
              (IntKind.i64.wrap
                  (IntKind.i64.wrap
                      (IntKind.i64.wrap
                          (IntKind.i64.wrap
                              (IntKind.i64.wrap (IntKind.i64.wrap ((0 : Int) + (1 : Int)) + (1 : Int)) +
                                (1 : Int)) +
                            (1 : Int)) +
                        (1 : Int)) +
                    (1 : Int)) +
                (1 : Int)) +
            (1 : Int)) +
        (1 : Int))]) (x_1.cap))], 60⟩]))))
           (.chk ((0 : Int) ≤ a ∧ a ≤ x.1.1 ∧ x.1.1 ≤ (↑tx.size : Int))
           (.br ((ByteArray.mk #[(100 : UInt8), (101 : UInt8)]).toList == (tx.extract a.toNat x.1.1.toNat).toList)
            (.chk (True ∧
  (nl = nl ∧
      (0 : Nat) = (0 : Nat) ∧
        cap = cap ∧
          m * [IntKind.i64, IntKind.i64].length ≤ xs.length ∧
            m ≤ cap ∧ cap ≤ Go.maxLen ∧ (nl = true → cap = (0 : Nat))) ∧
    (m + (1 : Nat)) * (16 : Nat) ≤ (140737488355328 : Nat))
            (.all fun x_1 : sym.Grown nl (1 : Nat) (m + (1 : Nat)) =>
             (.leaf ((.tuple []), [⟨[(.keep (L) (O))], 0⟩, ⟨[(.val (Go.Value.string tx)), (.int false .i64 (x.1.1)), (.gs 5 (x_1.nl') 2 0 (m + (1 : Nat)) (x_1.cap)), (.int false .i64 (d)), (.int false .i64 (e))], 72⟩, ⟨[.dead], 60⟩, ⟨[(.val (Go.Value.string { data := #[(97 : UInt8)] })), (.val (Go.Value.string { data := #[(102 : UInt8)] })), (.val (Go.Value.string { data := #[(98 : UInt8)] })), (.val (Go.Value.string { data := #[(99 : UInt8)] })), (.val (Go.Value.string { data := #[(100 : UInt8)] })), (.val (Go.Value.string { data := #[(101 : UInt8)] })), (.val (Go.Value.string { data := #[(104 : UInt8)] })), (.val (Go.Value.string { data := #[(108 : UInt8)] })), (.val (Go.Value.string { data := #[(97 : UInt8), (102 : UInt8)] })), (.val (Go.Value.string { data := #[(98 : UInt8), (99 : UInt8)] })), (.val (Go.Value.string { data := #[(100 : UInt8), (101 : UInt8)] })), (.val (Go.Value.string { data := #[(104 : UInt8), (108 : UInt8)] })), (.val (Go.Value.string { data := #[(115 : UInt8), (112 : UInt8)] })), (.val (Go.Value.string { data := #[(112 : UInt8), (99 : UInt8)] })), (.val (Go.Value.string { data := #[(97 : UInt8), (100 : UInt8), (100 : UInt8), (114 : UInt8)] })), (.val (Go.Value.string { data := #[(118 : UInt8), (97 : UInt8), (108 : UInt8), (117 : UInt8), (101 : UInt8)] })), (.val (Go.Value.string { data := #[(107 : UInt8), (105 : UInt8), (110 : UInt8), (100 : UInt8)] })), (.val (Go.Value.string { data := #[(98 : UInt8), (97 : UInt8), (110 : UInt8), (107 : UInt8)] }))], 9⟩, ⟨[(.int true .i64 (2)), (.int true .i64 (10))], 60⟩, ⟨[(.row (x_1.nl') ([IntKind.i64, IntKind.i64]) (List.take (m * [IntKind.i64, IntKind.i64].length) xs ++
  [(2 : Int),
    IntKind.i64.wrap
      (IntKind.i64.wrap
          (IntKind.i64.wrap
              (IntKind.i64.wrap
                  (IntKind.i64.wrap
                      (IntKind.i64.wrap
                          (IntKind.i64.wrap
                              (IntKind.i64.wrap
                                  (IntKind.i64.wrap (IntKind.i64.wrap ((0 : Int) + (1 : Int)) + (1 : Int)) +
                                    (1 : Int)) +
                                (1 : Int)) +
                            (1 : Int)) +
                        (1 : Int)) +
                    (1 : Int)) +
                (1 : Int)) +
            (1 : Int)) +
        (1 : Int))]) (x_1.cap))], 60⟩]))))
            (.chk ((0 : Int) ≤ a ∧ a ≤ x.1.1 ∧ x.1.1 ≤ (↑tx.size : Int))
            (.br ((ByteArray.mk #[(104 : UInt8), (108 : UInt8)]).toList == (tx.extract a.toNat x.1.1.toNat).toList)
             (.chk (True ∧
  (nl = nl ∧
      (0 : Nat) = (0 : Nat) ∧
        cap = cap ∧
          m * [IntKind.i64, IntKind.i64].length ≤ xs.length ∧
            m ≤ cap ∧ cap ≤ Go.maxLen ∧ (nl = true → cap = (0 : Nat))) ∧
    (m + (1 : Nat)) * (16 : Nat) ≤ (140737488355328 : Nat))
             (.all fun x_1 : sym.Grown nl (1 : Nat) (m + (1 : Nat)) =>
              (.leaf ((.tuple []), [⟨[(.keep (L) (O))], 0⟩, ⟨[(.val (Go.Value.string tx)), (.int false .i64 (x.1.1)), (.gs 5 (x_1.nl') 2 0 (m + (1 : Nat)) (x_1.cap)), (.int false .i64 (d)), (.int false .i64 (e))], 72⟩, ⟨[.dead], 60⟩, ⟨[(.val (Go.Value.string { data := #[(97 : UInt8)] })), (.val (Go.Value.string { data := #[(102 : UInt8)] })), (.val (Go.Value.string { data := #[(98 : UInt8)] })), (.val (Go.Value.string { data := #[(99 : UInt8)] })), (.val (Go.Value.string { data := #[(100 : UInt8)] })), (.val (Go.Value.string { data := #[(101 : UInt8)] })), (.val (Go.Value.string { data := #[(104 : UInt8)] })), (.val (Go.Value.string { data := #[(108 : UInt8)] })), (.val (Go.Value.string { data := #[(97 : UInt8), (102 : UInt8)] })), (.val (Go.Value.string { data := #[(98 : UInt8), (99 : UInt8)] })), (.val (Go.Value.string { data := #[(100 : UInt8), (101 : UInt8)] })), (.val (Go.Value.string { data := #[(104 : UInt8), (108 : UInt8)] })), (.val (Go.Value.string { data := #[(115 : UInt8), (112 : UInt8)] })), (.val (Go.Value.string { data := #[(112 : UInt8), (99 : UInt8)] })), (.val (Go.Value.string { data := #[(97 : UInt8), (100 : UInt8), (100 : UInt8), (114 : UInt8)] })), (.val (Go.Value.string { data := #[(118 : UInt8), (97 : UInt8), (108 : UInt8), (117 : UInt8), (101 : UInt8)] })), (.val (Go.Value.string { data := #[(107 : UInt8), (105 : UInt8), (110 : UInt8), (100 : UInt8)] })), (.val (Go.Value.string { data := #[(98 : UInt8), (97 : UInt8), (110 : UInt8), (107 : UInt8)] }))], 9⟩, ⟨[(.int true .i64 (2)), (.int true .i64 (11))], 60⟩, ⟨[(.row (x_1.nl') ([IntKind.i64, IntKind.i64]) (List.take (m * [IntKind.i64, IntKind.i64].length) xs ++
  [(2 : Int),
    IntKind.i64.wrap
      (IntKind.i64.wrap
          (IntKind.i64.wrap
              (IntKind.i64.wrap
                  (IntKind.i64.wrap
                      (IntKind.i64.wrap
                          (IntKind.i64.wrap
                              (IntKind.i64.wrap
                                  (IntKind.i64.wrap
                                      (IntKind.i64.wrap (IntKind.i64.wrap ((0 : Int) + (1 : Int)) + (1 : Int)) +
                                        (1 : Int)) +
                                    (1 : Int)) +
                                (1 : Int)) +
                            (1 : Int)) +
                        (1 : Int)) +
                    (1 : Int)) +
                (1 : Int)) +
            (1 : Int)) +
        (1 : Int))]) (x_1.cap))], 60⟩]))))
             (.chk ((0 : Int) ≤ a ∧ a ≤ x.1.1 ∧ x.1.1 ≤ (↑tx.size : Int))
             (.br ((ByteArray.mk #[(115 : UInt8), (112 : UInt8)]).toList == (tx.extract a.toNat x.1.1.toNat).toList)
              (.chk (True ∧
  (nl = nl ∧
      (0 : Nat) = (0 : Nat) ∧
        cap = cap ∧
          m * [IntKind.i64, IntKind.i64].length ≤ xs.length ∧
            m ≤ cap ∧ cap ≤ Go.maxLen ∧ (nl = true → cap = (0 : Nat))) ∧
    (m + (1 : Nat)) * (16 : Nat) ≤ (140737488355328 : Nat))
              (.all fun x_1 : sym.Grown nl (1 : Nat) (m + (1 : Nat)) =>
               (.leaf ((.tuple []), [⟨[(.keep (L) (O))], 0⟩, ⟨[(.val (Go.Value.string tx)), (.int false .i64 (x.1.1)), (.gs 5 (x_1.nl') 2 0 (m + (1 : Nat)) (x_1.cap)), (.int false .i64 (d)), (.int false .i64 (e))], 72⟩, ⟨[.dead], 60⟩, ⟨[(.val (Go.Value.string { data := #[(97 : UInt8)] })), (.val (Go.Value.string { data := #[(102 : UInt8)] })), (.val (Go.Value.string { data := #[(98 : UInt8)] })), (.val (Go.Value.string { data := #[(99 : UInt8)] })), (.val (Go.Value.string { data := #[(100 : UInt8)] })), (.val (Go.Value.string { data := #[(101 : UInt8)] })), (.val (Go.Value.string { data := #[(104 : UInt8)] })), (.val (Go.Value.string { data := #[(108 : UInt8)] })), (.val (Go.Value.string { data := #[(97 : UInt8), (102 : UInt8)] })), (.val (Go.Value.string { data := #[(98 : UInt8), (99 : UInt8)] })), (.val (Go.Value.string { data := #[(100 : UInt8), (101 : UInt8)] })), (.val (Go.Value.string { data := #[(104 : UInt8), (108 : UInt8)] })), (.val (Go.Value.string { data := #[(115 : UInt8), (112 : UInt8)] })), (.val (Go.Value.string { data := #[(112 : UInt8), (99 : UInt8)] })), (.val (Go.Value.string { data := #[(97 : UInt8), (100 : UInt8), (100 : UInt8), (114 : UInt8)] })), (.val (Go.Value.string { data := #[(118 : UInt8), (97 : UInt8), (108 : UInt8), (117 : UInt8), (101 : UInt8)] })), (.val (Go.Value.string { data := #[(107 : UInt8), (105 : UInt8), (110 : UInt8), (100 : UInt8)] })), (.val (Go.Value.string { data := #[(98 : UInt8), (97 : UInt8), (110 : UInt8), (107 : UInt8)] }))], 9⟩, ⟨[(.int true .i64 (2)), (.int true .i64 (12))], 60⟩, ⟨[(.row (x_1.nl') ([IntKind.i64, IntKind.i64]) (List.take (m * [IntKind.i64, IntKind.i64].length) xs ++
  [(2 : Int),
    IntKind.i64.wrap
      (IntKind.i64.wrap
          (IntKind.i64.wrap
              (IntKind.i64.wrap
                  (IntKind.i64.wrap
                      (IntKind.i64.wrap
                          (IntKind.i64.wrap
                              (IntKind.i64.wrap
                                  (IntKind.i64.wrap
                                      (IntKind.i64.wrap
                                          (IntKind.i64.wrap
                                              (IntKind.i64.wrap ((0 : Int) + (1 : Int)) + (1 : Int)) +
                                            (1 : Int)) +
                                        (1 : Int)) +
                                    (1 : Int)) +
                                (1 : Int)) +
                            (1 : Int)) +
                        (1 : Int)) +
                    (1 : Int)) +
                (1 : Int)) +
            (1 : Int)) +
        (1 : Int))]) (x_1.cap))], 60⟩]))))
              (.chk ((0 : Int) ≤ a ∧ a ≤ x.1.1 ∧ x.1.1 ≤ (↑tx.size : Int))
              (.br ((ByteArray.mk #[(112 : UInt8), (99 : UInt8)]).toList == (tx.extract a.toNat x.1.1.toNat).toList)
               (.chk (True ∧
  (nl = nl ∧
      (0 : Nat) = (0 : Nat) ∧
        cap = cap ∧
          m * [IntKind.i64, IntKind.i64].length ≤ xs.length ∧
            m ≤ cap ∧ cap ≤ Go.maxLen ∧ (nl = true → cap = (0 : Nat))) ∧
    (m + (1 : Nat)) * (16 : Nat) ≤ (140737488355328 : Nat))
               (.all fun x_1 : sym.Grown nl (1 : Nat) (m + (1 : Nat)) =>
                (.leaf ((.tuple []), [⟨[(.keep (L) (O))], 0⟩, ⟨[(.val (Go.Value.string tx)), (.int false .i64 (x.1.1)), (.gs 5 (x_1.nl') 2 0 (m + (1 : Nat)) (x_1.cap)), (.int false .i64 (d)), (.int false .i64 (e))], 72⟩, ⟨[.dead], 60⟩, ⟨[(.val (Go.Value.string { data := #[(97 : UInt8)] })), (.val (Go.Value.string { data := #[(102 : UInt8)] })), (.val (Go.Value.string { data := #[(98 : UInt8)] })), (.val (Go.Value.string { data := #[(99 : UInt8)] })), (.val (Go.Value.string { data := #[(100 : UInt8)] })), (.val (Go.Value.string { data := #[(101 : UInt8)] })), (.val (Go.Value.string { data := #[(104 : UInt8)] })), (.val (Go.Value.string { data := #[(108 : UInt8)] })), (.val (Go.Value.string { data := #[(97 : UInt8), (102 : UInt8)] })), (.val (Go.Value.string { data := #[(98 : UInt8), (99 : UInt8)] })), (.val (Go.Value.string { data := #[(100 : UInt8), (101 : UInt8)] })), (.val (Go.Value.string { data := #[(104 : UInt8), (108 : UInt8)] })), (.val (Go.Value.string { data := #[(115 : UInt8), (112 : UInt8)] })), (.val (Go.Value.string { data := #[(112 : UInt8), (99 : UInt8)] })), (.val (Go.Value.string { data := #[(97 : UInt8), (100 : UInt8), (100 : UInt8), (114 : UInt8)] })), (.val (Go.Value.string { data := #[(118 : UInt8), (97 : UInt8), (108 : UInt8), (117 : UInt8), (101 : UInt8)] })), (.val (Go.Value.string { data := #[(107 : UInt8), (105 : UInt8), (110 : UInt8), (100 : UInt8)] })), (.val (Go.Value.string { data := #[(98 : UInt8), (97 : UInt8), (110 : UInt8), (107 : UInt8)] }))], 9⟩, ⟨[(.int true .i64 (2)), (.int true .i64 (13))], 60⟩, ⟨[(.row (x_1.nl') ([IntKind.i64, IntKind.i64]) (List.take (m * [IntKind.i64, IntKind.i64].length) xs ++
  [(2 : Int),
    IntKind.i64.wrap
      (IntKind.i64.wrap
          (IntKind.i64.wrap
              (IntKind.i64.wrap
                  (IntKind.i64.wrap
                      (IntKind.i64.wrap
                          (IntKind.i64.wrap
                              (IntKind.i64.wrap
                                  (IntKind.i64.wrap
                                      (IntKind.i64.wrap
                                          (IntKind.i64.wrap
                                              (IntKind.i64.wrap
                                                  (IntKind.i64.wrap ((0 : Int) + (1 : Int)) + (1 : Int)) +
                                                (1 : Int)) +
                                            (1 : Int)) +
                                        (1 : Int)) +
                                    (1 : Int)) +
                                (1 : Int)) +
                            (1 : Int)) +
                        (1 : Int)) +
                    (1 : Int)) +
                (1 : Int)) +
            (1 : Int)) +
        (1 : Int))]) (x_1.cap))], 60⟩]))))
               (.chk ((0 : Int) ≤ a ∧ a ≤ x.1.1 ∧ x.1.1 ≤ (↑tx.size : Int))
               (.br ((ByteArray.mk #[(97 : UInt8), (100 : UInt8), (100 : UInt8), (114 : UInt8)]).toList ==
  (tx.extract a.toNat x.1.1.toNat).toList)
                (.chk (True ∧
  (nl = nl ∧
      (0 : Nat) = (0 : Nat) ∧
        cap = cap ∧
          m * [IntKind.i64, IntKind.i64].length ≤ xs.length ∧
            m ≤ cap ∧ cap ≤ Go.maxLen ∧ (nl = true → cap = (0 : Nat))) ∧
    (m + (1 : Nat)) * (16 : Nat) ≤ (140737488355328 : Nat))
                (.all fun x_1 : sym.Grown nl (1 : Nat) (m + (1 : Nat)) =>
                 (.leaf ((.tuple []), [⟨[(.keep (L) (O))], 0⟩, ⟨[(.val (Go.Value.string tx)), (.int false .i64 (x.1.1)), (.gs 5 (x_1.nl') 2 0 (m + (1 : Nat)) (x_1.cap)), (.int false .i64 (d)), (.int false .i64 (e))], 72⟩, ⟨[.dead], 60⟩, ⟨[(.val (Go.Value.string { data := #[(97 : UInt8)] })), (.val (Go.Value.string { data := #[(102 : UInt8)] })), (.val (Go.Value.string { data := #[(98 : UInt8)] })), (.val (Go.Value.string { data := #[(99 : UInt8)] })), (.val (Go.Value.string { data := #[(100 : UInt8)] })), (.val (Go.Value.string { data := #[(101 : UInt8)] })), (.val (Go.Value.string { data := #[(104 : UInt8)] })), (.val (Go.Value.string { data := #[(108 : UInt8)] })), (.val (Go.Value.string { data := #[(97 : UInt8), (102 : UInt8)] })), (.val (Go.Value.string { data := #[(98 : UInt8), (99 : UInt8)] })), (.val (Go.Value.string { data := #[(100 : UInt8), (101 : UInt8)] })), (.val (Go.Value.string { data := #[(104 : UInt8), (108 : UInt8)] })), (.val (Go.Value.string { data := #[(115 : UInt8), (112 : UInt8)] })), (.val (Go.Value.string { data := #[(112 : UInt8), (99 : UInt8)] })), (.val (Go.Value.string { data := #[(97 : UInt8), (100 : UInt8), (100 : UInt8), (114 : UInt8)] })), (.val (Go.Value.string { data := #[(118 : UInt8), (97 : UInt8), (108 : UInt8), (117 : UInt8), (101 : UInt8)] })), (.val (Go.Value.string { data := #[(107 : UInt8), (105 : UInt8), (110 : UInt8), (100 : UInt8)] })), (.val (Go.Value.string { data := #[(98 : UInt8), (97 : UInt8), (110 : UInt8), (107 : UInt8)] }))], 9⟩, ⟨[(.int true .i64 (2)), (.int true .i64 (14))], 60⟩, ⟨[(.row (x_1.nl') ([IntKind.i64, IntKind.i64]) (List.take (m * [IntKind.i64, IntKind.i64].length) xs ++
  [(2 : Int),
    IntKind.i64.wrap
      (IntKind.i64.wrap
          (IntKind.i64.wrap
              (IntKind.i64.wrap
                  (IntKind.i64.wrap
                      (IntKind.i64.wrap
                          (IntKind.i64.wrap
                              (IntKind.i64.wrap
                                  (IntKind.i64.wrap
                                      (IntKind.i64.wrap
                                          (IntKind.i64.wrap
                                              (IntKind.i64.wrap
                                                  (IntKind.i64.wrap
                                                      (IntKind.i64.wrap ((0 : Int) + (1 : Int)) + (1 : Int)) +
                                                    (1 : Int)) +
                                                (1 : Int)) +
                                            (1 : Int)) +
                                        (1 : Int)) +
                                    (1 : Int)) +
                                (1 : Int)) +
                            (1 : Int)) +
                        (1 : Int)) +
                    (1 : Int)) +
                (1 : Int)) +
            (1 : Int)) +
        (1 : Int))]) (x_1.cap))], 60⟩]))))
                (.chk ((0 : Int) ≤ a ∧ a ≤ x.1.1 ∧ x.1.1 ≤ (↑tx.size : Int))
                (.br ((ByteArray.mk #[(118 : UInt8), (97 : UInt8), (108 : UInt8), (117 : UInt8), (101 : UInt8)]).toList ==
  (tx.extract a.toNat x.1.1.toNat).toList)
                 (.chk (True ∧
  (nl = nl ∧
      (0 : Nat) = (0 : Nat) ∧
        cap = cap ∧
          m * [IntKind.i64, IntKind.i64].length ≤ xs.length ∧
            m ≤ cap ∧ cap ≤ Go.maxLen ∧ (nl = true → cap = (0 : Nat))) ∧
    (m + (1 : Nat)) * (16 : Nat) ≤ (140737488355328 : Nat))
                 (.all fun x_1 : sym.Grown nl (1 : Nat) (m + (1 : Nat)) =>
                  (.leaf ((.tuple []), [⟨[(.keep (L) (O))], 0⟩, ⟨[(.val (Go.Value.string tx)), (.int false .i64 (x.1.1)), (.gs 5 (x_1.nl') 2 0 (m + (1 : Nat)) (x_1.cap)), (.int false .i64 (d)), (.int false .i64 (e))], 72⟩, ⟨[.dead], 60⟩, ⟨[(.val (Go.Value.string { data := #[(97 : UInt8)] })), (.val (Go.Value.string { data := #[(102 : UInt8)] })), (.val (Go.Value.string { data := #[(98 : UInt8)] })), (.val (Go.Value.string { data := #[(99 : UInt8)] })), (.val (Go.Value.string { data := #[(100 : UInt8)] })), (.val (Go.Value.string { data := #[(101 : UInt8)] })), (.val (Go.Value.string { data := #[(104 : UInt8)] })), (.val (Go.Value.string { data := #[(108 : UInt8)] })), (.val (Go.Value.string { data := #[(97 : UInt8), (102 : UInt8)] })), (.val (Go.Value.string { data := #[(98 : UInt8), (99 : UInt8)] })), (.val (Go.Value.string { data := #[(100 : UInt8), (101 : UInt8)] })), (.val (Go.Value.string { data := #[(104 : UInt8), (108 : UInt8)] })), (.val (Go.Value.string { data := #[(115 : UInt8), (112 : UInt8)] })), (.val (Go.Value.string { data := #[(112 : UInt8), (99 : UInt8)] })), (.val (Go.Value.string { data := #[(97 : UInt8), (100 : UInt8), (100 : UInt8), (114 : UInt8)] })), (.val (Go.Value.string { data := #[(118 : UInt8), (97 : UInt8), (108 : UInt8), (117 : UInt8), (101 : UInt8)] })), (.val (Go.Value.string { data := #[(107 : UInt8), (105 : UInt8), (110 : UInt8), (100 : UInt8)] })), (.val (Go.Value.string { data := #[(98 : UInt8), (97 : UInt8), (110 : UInt8), (107 : UInt8)] }))], 9⟩, ⟨[(.int true .i64 (2)), (.int true .i64 (15))], 60⟩, ⟨[(.row (x_1.nl') ([IntKind.i64, IntKind.i64]) (List.take (m * [IntKind.i64, IntKind.i64].length) xs ++
  [(2 : Int),
    IntKind.i64.wrap
      (IntKind.i64.wrap
          (IntKind.i64.wrap
              (IntKind.i64.wrap
                  (IntKind.i64.wrap
                      (IntKind.i64.wrap
                          (IntKind.i64.wrap
                              (IntKind.i64.wrap
                                  (IntKind.i64.wrap
                                      (IntKind.i64.wrap
                                          (IntKind.i64.wrap
                                              (IntKind.i64.wrap
                                                  (IntKind.i64.wrap
                                                      (IntKind.i64.wrap
                                                          (IntKind.i64.wrap ((0 : Int) + (1 : Int)) + (1 : Int)) +
                                                        (1 : Int)) +
                                                    (1 : Int)) +
                                                (1 : Int)) +
                                            (1 : Int)) +
                                        (1 : Int)) +
                                    (1 : Int)) +
                                (1 : Int)) +
                            (1 : Int)) +
                        (1 : Int)) +
                    (1 : Int)) +
                (1 : Int)) +
            (1 : Int)) +
        (1 : Int))]) (x_1.cap))], 60⟩]))))
                 (.chk ((0 : Int) ≤ a ∧ a ≤ x.1.1 ∧ x.1.1 ≤ (↑tx.size : Int))
                 (.br ((ByteArray.mk #[(107 : UInt8), (105 : UInt8), (110 : UInt8), (100 : UInt8)]).toList ==
  (tx.extract a.toNat x.1.1.toNat).toList)
                  (.chk (True ∧
  (nl = nl ∧
      (0 : Nat) = (0 : Nat) ∧
        cap = cap ∧
          m * [IntKind.i64, IntKind.i64].length ≤ xs.length ∧
            m ≤ cap ∧ cap ≤ Go.maxLen ∧ (nl = true → cap = (0 : Nat))) ∧
    (m + (1 : Nat)) * (16 : Nat) ≤ (140737488355328 : Nat))
                  (.all fun x_1 : sym.Grown nl (1 : Nat) (m + (1 : Nat)) =>
                   (.leaf ((.tuple []), [⟨[(.keep (L) (O))], 0⟩, ⟨[(.val (Go.Value.string tx)), (.int false .i64 (x.1.1)), (.gs 5 (x_1.nl') 2 0 (m + (1 : Nat)) (x_1.cap)), (.int false .i64 (d)), (.int false .i64 (e))], 72⟩, ⟨[.dead], 60⟩, ⟨[(.val (Go.Value.string { data := #[(97 : UInt8)] })), (.val (Go.Value.string { data := #[(102 : UInt8)] })), (.val (Go.Value.string { data := #[(98 : UInt8)] })), (.val (Go.Value.string { data := #[(99 : UInt8)] })), (.val (Go.Value.string { data := #[(100 : UInt8)] })), (.val (Go.Value.string { data := #[(101 : UInt8)] })), (.val (Go.Value.string { data := #[(104 : UInt8)] })), (.val (Go.Value.string { data := #[(108 : UInt8)] })), (.val (Go.Value.string { data := #[(97 : UInt8), (102 : UInt8)] })), (.val (Go.Value.string { data := #[(98 : UInt8), (99 : UInt8)] })), (.val (Go.Value.string { data := #[(100 : UInt8), (101 : UInt8)] })), (.val (Go.Value.string { data := #[(104 : UInt8), (108 : UInt8)] })), (.val (Go.Value.string { data := #[(115 : UInt8), (112 : UInt8)] })), (.val (Go.Value.string { data := #[(112 : UInt8), (99 : UInt8)] })), (.val (Go.Value.string { data := #[(97 : UInt8), (100 : UInt8), (100 : UInt8), (114 : UInt8)] })), (.val (Go.Value.string { data := #[(118 : UInt8), (97 : UInt8), (108 : UInt8), (117 : UInt8), (101 : UInt8)] })), (.val (Go.Value.string { data := #[(107 : UInt8), (105 : UInt8), (110 : UInt8), (100 : UInt8)] })), (.val (Go.Value.string { data := #[(98 : UInt8), (97 : UInt8), (110 : UInt8), (107 : UInt8)] }))], 9⟩, ⟨[(.int true .i64 (2)), (.int true .i64 (16))], 60⟩, ⟨[(.row (x_1.nl') ([IntKind.i64, IntKind.i64]) (List.take (m * [IntKind.i64, IntKind.i64].length) xs ++
  [(2 : Int),
    IntKind.i64.wrap
      (IntKind.i64.wrap
          (IntKind.i64.wrap
              (IntKind.i64.wrap
                  (IntKind.i64.wrap
                      (IntKind.i64.wrap
                          (IntKind.i64.wrap
                              (IntKind.i64.wrap
                                  (IntKind.i64.wrap
                                      (IntKind.i64.wrap
                                          (IntKind.i64.wrap
                                              (IntKind.i64.wrap
                                                  (IntKind.i64.wrap
                                                      (IntKind.i64.wrap
                                                          (IntKind.i64.wrap
                                                              (IntKind.i64.wrap ((0 : Int) + (1 : Int)) +
                                                                (1 : Int)) +
                                                            (1 : Int)) +
                                                        (1 : Int)) +
                                                    (1 : Int)) +
                                                (1 : Int)) +
                                            (1 : Int)) +
                                        (1 : Int)) +
                                    (1 : Int)) +
                                (1 : Int)) +
                            (1 : Int)) +
                        (1 : Int)) +
                    (1 : Int)) +
                (1 : Int)) +
            (1 : Int)) +
        (1 : Int))]) (x_1.cap))], 60⟩]))))
                  (.chk ((0 : Int) ≤ a ∧ a ≤ x.1.1 ∧ x.1.1 ≤ (↑tx.size : Int))
                  (.br ((ByteArray.mk #[(98 : UInt8), (97 : UInt8), (110 : UInt8), (107 : UInt8)]).toList ==
  (tx.extract a.toNat x.1.1.toNat).toList)
                   (.chk (True ∧
  (nl = nl ∧
      (0 : Nat) = (0 : Nat) ∧
        cap = cap ∧
          m * [IntKind.i64, IntKind.i64].length ≤ xs.length ∧
            m ≤ cap ∧ cap ≤ Go.maxLen ∧ (nl = true → cap = (0 : Nat))) ∧
    (m + (1 : Nat)) * (16 : Nat) ≤ (140737488355328 : Nat))
                   (.all fun x_1 : sym.Grown nl (1 : Nat) (m + (1 : Nat)) =>
                    (.leaf ((.tuple []), [⟨[(.keep (L) (O))], 0⟩, ⟨[(.val (Go.Value.string tx)), (.int false .i64 (x.1.1)), (.gs 5 (x_1.nl') 2 0 (m + (1 : Nat)) (x_1.cap)), (.int false .i64 (d)), (.int false .i64 (e))], 72⟩, ⟨[.dead], 60⟩, ⟨[(.val (Go.Value.string { data := #[(97 : UInt8)] })), (.val (Go.Value.string { data := #[(102 : UInt8)] })), (.val (Go.Value.string { data := #[(98 : UInt8)] })), (.val (Go.Value.string { data := #[(99 : UInt8)] })), (.val (Go.Value.string { data := #[(100 : UInt8)] })), (.val (Go.Value.string { data := #[(101 : UInt8)] })), (.val (Go.Value.string { data := #[(104 : UInt8)] })), (.val (Go.Value.string { data := #[(108 : UInt8)] })), (.val (Go.Value.string { data := #[(97 : UInt8), (102 : UInt8)] })), (.val (Go.Value.string { data := #[(98 : UInt8), (99 : UInt8)] })), (.val (Go.Value.string { data := #[(100 : UInt8), (101 : UInt8)] })), (.val (Go.Value.string { data := #[(104 : UInt8), (108 : UInt8)] })), (.val (Go.Value.string { data := #[(115 : UInt8), (112 : UInt8)] })), (.val (Go.Value.string { data := #[(112 : UInt8), (99 : UInt8)] })), (.val (Go.Value.string { data := #[(97 : UInt8), (100 : UInt8), (100 : UInt8), (114 : UInt8)] })), (.val (Go.Value.string { data := #[(118 : UInt8), (97 : UInt8), (108 : UInt8), (117 : UInt8), (101 : UInt8)] })), (.val (Go.Value.string { data := #[(107 : UInt8), (105 : UInt8), (110 : UInt8), (100 : UInt8)] })), (.val (Go.Value.string { data := #[(98 : UInt8), (97 : UInt8), (110 : UInt8), (107 : UInt8)] }))], 9⟩, ⟨[(.int true .i64 (2)), (.int true .i64 (17))], 60⟩, ⟨[(.row (x_1.nl') ([IntKind.i64, IntKind.i64]) (List.take (m * [IntKind.i64, IntKind.i64].length) xs ++
  [(2 : Int),
    IntKind.i64.wrap
      (IntKind.i64.wrap
          (IntKind.i64.wrap
              (IntKind.i64.wrap
                  (IntKind.i64.wrap
                      (IntKind.i64.wrap
                          (IntKind.i64.wrap
                              (IntKind.i64.wrap
                                  (IntKind.i64.wrap
                                      (IntKind.i64.wrap
                                          (IntKind.i64.wrap
                                              (IntKind.i64.wrap
                                                  (IntKind.i64.wrap
                                                      (IntKind.i64.wrap
                                                          (IntKind.i64.wrap
                                                              (IntKind.i64.wrap
                                                                  (IntKind.i64.wrap ((0 : Int) + (1 : Int)) +
                                                                    (1 : Int)) +
                                                                (1 : Int)) +
                                                            (1 : Int)) +
                                                        (1 : Int)) +
                                                    (1 : Int)) +
                                                (1 : Int)) +
                                            (1 : Int)) +
                                        (1 : Int)) +
                                    (1 : Int)) +
                                (1 : Int)) +
                            (1 : Int)) +
                        (1 : Int)) +
                    (1 : Int)) +
                (1 : Int)) +
            (1 : Int)) +
        (1 : Int))]) (x_1.cap))], 60⟩]))))
                   (.leaf ((.tuple []), [⟨[(.keep (L) (O))], 0⟩, ⟨[(.val (Go.Value.string tx)), (.int false .i64 (a)), (.gs 2 (nl) 2 0 (m) (cap)), (.int false .i64 (d)), (.int true .i64 (11))], 72⟩, ⟨[(.row (nl) ([IntKind.i64, IntKind.i64]) (xs) (cap))], 60⟩, ⟨[(.val (Go.Value.string { data := #[(97 : UInt8)] })), (.val (Go.Value.string { data := #[(102 : UInt8)] })), (.val (Go.Value.string { data := #[(98 : UInt8)] })), (.val (Go.Value.string { data := #[(99 : UInt8)] })), (.val (Go.Value.string { data := #[(100 : UInt8)] })), (.val (Go.Value.string { data := #[(101 : UInt8)] })), (.val (Go.Value.string { data := #[(104 : UInt8)] })), (.val (Go.Value.string { data := #[(108 : UInt8)] })), (.val (Go.Value.string { data := #[(97 : UInt8), (102 : UInt8)] })), (.val (Go.Value.string { data := #[(98 : UInt8), (99 : UInt8)] })), (.val (Go.Value.string { data := #[(100 : UInt8), (101 : UInt8)] })), (.val (Go.Value.string { data := #[(104 : UInt8), (108 : UInt8)] })), (.val (Go.Value.string { data := #[(115 : UInt8), (112 : UInt8)] })), (.val (Go.Value.string { data := #[(112 : UInt8), (99 : UInt8)] })), (.val (Go.Value.string { data := #[(97 : UInt8), (100 : UInt8), (100 : UInt8), (114 : UInt8)] })), (.val (Go.Value.string { data := #[(118 : UInt8), (97 : UInt8), (108 : UInt8), (117 : UInt8), (101 : UInt8)] })), (.val (Go.Value.string { data := #[(107 : UInt8), (105 : UInt8), (110 : UInt8), (100 : UInt8)] })), (.val (Go.Value.string { data := #[(98 : UInt8), (97 : UInt8), (110 : UInt8), (107 : UInt8)] }))], 9⟩]))))))))))))))))))))))))))))))))))))))))))))))))) := by kernel_rfl
theorem i6_app {xs ys : List Int} (h1 : ∀ j, J6 (xs.getD j 0)) (h2 : ∀ y ∈ ys, J6 y) (j : Nat) : J6 ((xs ++ ys).getD j 0) := by
  by_cases hj : j < xs.length
  · have := h1 j
    rw [List.getD_eq_getElem?_getD] at this ⊢
    rwa [List.getElem?_append_left hj]
  · rw [List.getD_eq_getElem?_getD, List.getElem?_append_right (by omega)]
    cases hy : ys[j - xs.length]? with
    | none => exact ⟨by decide, by decide⟩
    | some y => exact h2 y (List.mem_of_getElem? hy)
/-- Nothing was put there. -/
def nxFail {tx : ByteArray} {a : Int} {nl : Bool} {xs : List Int} {m cap : Nat} {d : Int} (ok : RdOk tx a nl xs m cap d) (a' : Int) (ha : a ≤ a' ∧ a' ≤ tx.size) (e : Int) (he : e ≠ 0) : Nx tx a xs m :=
  ⟨a', nl, xs, m, cap, e, ha, ok.l, ok.c, ok.nil, by omega, ok.i6, fun h => absurd h he⟩
/-- An order was put there. -/
def nxPut {tx : ByteArray} {a : Int} {nl : Bool} {xs : List Int} {m cap : Nat} {d : Int} (ok : RdOk tx a nl xs m cap d) (a' : Int) (ha : a ≤ a' ∧ a' ≤ tx.size) (op n e : Int) (h1 : One [op, n]) (j1 : J6 op) (j2 : J6 n) (g : Grown nl 1 (m + 1)) : Nx tx a xs m :=
  ⟨a', g.nl', xs ++ [op, n], m + 1, g.cap, e, ha, by rw [List.length_append, ok.l]; show m * 2 + 2 = (m + 1) * 2; omega, ⟨g.le, g.max⟩, (rowR g).nil, by omega, i6_app ok.i6 (fun y hy => by
    simp only [List.mem_cons, List.not_mem_nil, or_false] at hy
    rcases hy with rfl | rfl
    · exact j1
    · exact j2), fun _ => ⟨_, h1, rfl⟩⟩
theorem fpre2_ok (w : World) : PreOk Try.prog w (fpreOf [digitC]) := fpreOf_ok fun c hc => by
  simp only [List.mem_cons, List.not_mem_nil, or_false] at hc
  subst hc
  exact digitC_ok w
theorem minJ {x : Int} (h : J6 x) : J6 (if false = true then if (1099511627776 : Int) > x then (1099511627776 : Int) else x else if (1099511627776 : Int) < x then (1099511627776 : Int) else x) := by
  simp only [Bool.false_eq_true, if_false]
  split
  · exact ⟨by decide, by decide⟩
  · exact h
theorem take2 {xs : List Int} {m : Nat} (h : xs.length = m * 2) : List.take (m * [IntKind.i64, IntKind.i64].length) xs = xs := List.take_of_length_le (by show xs.length ≤ m * 2; omega)
theorem put_ok {tx : ByteArray} {a : Int} {nl : Bool} {xs : List Int} {m cap : Nat} {d : Int} (ok : RdOk tx a nl xs m cap d) : True ∧ (nl = nl ∧ (0 : Nat) = (0 : Nat) ∧ cap = cap ∧ m * [IntKind.i64, IntKind.i64].length ≤ xs.length ∧ m ≤ cap ∧ cap ≤ Go.maxLen ∧ (nl = true → cap = (0 : Nat))) ∧ (m + (1 : Nat)) * (16 : Nat) ≤ (140737488355328 : Nat) := by
  have h1 := ok.l
  have h2 := ok.le
  have h3 := ok.at_
  exact ⟨trivial, ⟨rfl, rfl, rfl, by show m * 2 ≤ xs.length; omega, ok.c.1, ok.c.2, fun h => (ok.nil h).2⟩, by omega⟩
def nuMu (L : Nat → Option Obj) (O : Nat → Bool) (tx : ByteArray) (a : Int) (nl : Bool) (xs : List Int) (m cap : Nat) (d e : Int) (fr bs : Int) (p : nuP) (x : nuX) : Nat := (tx.size - x.i).toNat
theorem nu_step (w : World) (L : Nat → Option Obj) (O : Nat → Bool) (tx : ByteArray) (a : Int) (nl : Bool) (xs : List Int) (m cap : Nat) (d e : Int) (fr bs : Int) (p : nuP) (x : nuX) (hr : RdOk tx a nl xs m cap d) (hf : a ≤ fr) (h : nuInv L O tx a nl xs m cap d e fr bs p x) : Hid (roundT Try.prog w (flatT Try.prog) (noCtr) (callT Try.prog w (flatT Try.prog) (noCtr) (fpreOf [digitC]) (noLoop) 20) ((noLoop) 42) (roundOf (bodyAt Try.prog 42 0)) 0 3 nuRo nuRf nuRb (nuSt L O tx a nl xs m cap d e fr bs p) (nuFin L O tx a nl xs m cap d e fr bs p) (nuBck L O tx a nl xs m cap d e fr bs p) nuNxX nuNxX nuNxZ x) (Kept (nuInv L O tx a nl xs m cap d e fr bs p) (nuPost L O tx a nl xs m cap d e fr bs p) (nuBack L O tx a nl xs m cap d e fr bs p) (nuMu L O tx a nl xs m cap d e fr bs p) x) := by
  obtain ⟨⟩ := p
  obtain ⟨i, n⟩ := x
  constructor
  rw [nustep_tree]
  simp only [T.holds, Kept, nuMu, and_self, true_and, and_true]
  obtain ⟨i1, n1⟩ := h
  simp only at i1 n1
  have a0 := hr.at_
  have a1 := hr.sz
  refine ⟨fun hlt => ?_, fun _ => ⟨i1, n1⟩⟩
  have hlt := of_decide_eq_true hlt
  rw [wi64 (i + 1) (by omega) (by omega)]
  exact ⟨⟨by omega, hlt⟩, fun x => ⟨fun _ => ⟨⟨by omega, hlt⟩, fun y => ⟨⟨⟨by show fr ≤ i + 1; omega, by show i + 1 ≤ (tx.size : Int); omega⟩, minJ (wrapJ _)⟩, by show (tx.size - (i + 1)).toNat < (tx.size - i).toNat; omega⟩⟩, fun _ => ⟨i1, n1⟩⟩⟩
theorem nuLp_ok (w : World) (L : Nat → Option Obj) (O : Nat → Bool) (tx : ByteArray) (a : Int) (nl : Bool) (xs : List Int) (m cap : Nat) (d e : Int) (fr bs : Int) (hr : RdOk tx a nl xs m cap d) (hf : a ≤ fr) : (nuLp L O tx a nl xs m cap d e fr bs).ok Try.prog w := by
  intro s t h
  unfold nuLp at h
  simp only at h
  split at h
  · rename_i p _
    split at h
    · rename_i x _
      cases h
      exact loop_ok base2 (ctrs_none _ w) (callT_ok base2.mixed base2.names base2.eqs (ctrs_none _ w).ok (ctrs_none _ w).there (fpre2_ok w) (loops_none _ _) 20) ((loops_none _ _) 42) (c := roundOf (bodyAt Try.prog 42 0)) (by kernel_rfl) (id := 0) (n := 3) (hr := false) (ro := nuRo) (rf := nuRf) (rr := nuRb) (st := nuSt L O tx a nl xs m cap d e fr bs p) (fin := nuFin L O tx a nl xs m cap d e fr bs p) (bck := nuBck L O tx a nl xs m cap d e fr bs p) (inv := nuInv L O tx a nl xs m cap d e fr bs p) (post := nuPost L O tx a nl xs m cap d e fr bs p) (back := nuBack L O tx a nl xs m cap d e fr bs p) (nx := nuNxX) (fx := nuNxX) (bx := nuNxZ) (nuMu L O tx a nl xs m cap d e fr bs p) (nf := 3) (nf' := 3) (nf'' := 3) (fun x => by kernel_rfl) (fun y => by kernel_rfl) (fun z => nomatch z) (.inr fun z => nomatch z) (fun x hx => nu_step w L O tx a nl xs m cap d e fr bs p x hr hf hx) s x
    · cases h
  · cases h
def naMu (L : Nat → Option Obj) (O : Nat → Bool) (tx : ByteArray) (a : Int) (nl : Bool) (xs : List Int) (m cap : Nat) (d e : Int) (p : naP) (x : naX) : Nat := (tx.size - x.i).toNat
theorem na_step (w : World) (L : Nat → Option Obj) (O : Nat → Bool) (tx : ByteArray) (a : Int) (nl : Bool) (xs : List Int) (m cap : Nat) (d e : Int) (p : naP) (x : naX) (hr : RdOk tx a nl xs m cap d) (h : naInv L O tx a nl xs m cap d e p x) : Hid (roundT Try.prog w (flatT Try.prog) (noCtr) (callT Try.prog w (flatT Try.prog) (noCtr) (noPre) (noLoop) 20) ((noLoop) 43) (roundOf (bodyAt Try.prog 43 0)) 0 3 naRo naRf naRb (naSt L O tx a nl xs m cap d e p) (naFin L O tx a nl xs m cap d e p) (naBck L O tx a nl xs m cap d e p) naNxX naNxX naNxZ x) (Kept (naInv L O tx a nl xs m cap d e p) (naPost L O tx a nl xs m cap d e p) (naBack L O tx a nl xs m cap d e p) (naMu L O tx a nl xs m cap d e p) x) := by
  obtain ⟨⟩ := p
  obtain ⟨i⟩ := x
  constructor
  rw [nastep_tree]
  simp only [T.holds, Kept, naMu, and_self, true_and, and_true]
  obtain ⟨i1⟩ := h
  simp only at i1
  have a0 := hr.at_
  have a1 := hr.sz
  refine ⟨fun hlt => ?_, fun _ => ⟨i1⟩⟩
  have hlt := of_decide_eq_true hlt
  rw [wi64 (i + 1) (by omega) (by omega)]
  exact ⟨⟨by omega, hlt⟩, fun _ => ⟨⟨by omega, hlt⟩, fun _ => ⟨⟨by show a ≤ i + 1; omega, by show i + 1 ≤ (tx.size : Int); omega⟩, by show (tx.size - (i + 1)).toNat < (tx.size - i).toNat; omega⟩, fun _ => ⟨i1⟩⟩, fun _ => ⟨i1⟩⟩
theorem naLp_ok (w : World) (L : Nat → Option Obj) (O : Nat → Bool) (tx : ByteArray) (a : Int) (nl : Bool) (xs : List Int) (m cap : Nat) (d e : Int) (hr : RdOk tx a nl xs m cap d) : (naLp L O tx a nl xs m cap d e).ok Try.prog w := by
  intro s t h
  unfold naLp at h
  simp only at h
  split at h
  · rename_i p _
    split at h
    · rename_i x _
      cases h
      exact loop_ok base2 (ctrs_none _ w) (callT_ok base2.mixed base2.names base2.eqs (ctrs_none _ w).ok (ctrs_none _ w).there (pre_none _ _) (loops_none _ _) 20) ((loops_none _ _) 43) (c := roundOf (bodyAt Try.prog 43 0)) (by kernel_rfl) (id := 0) (n := 3) (hr := false) (ro := naRo) (rf := naRf) (rr := naRb) (st := naSt L O tx a nl xs m cap d e p) (fin := naFin L O tx a nl xs m cap d e p) (bck := naBck L O tx a nl xs m cap d e p) (inv := naInv L O tx a nl xs m cap d e p) (post := naPost L O tx a nl xs m cap d e p) (back := naBack L O tx a nl xs m cap d e p) (nx := naNxX) (fx := naNxX) (bx := naNxZ) (naMu L O tx a nl xs m cap d e p) (nf := 3) (nf' := 3) (nf'' := 3) (fun x => by kernel_rfl) (fun y => by kernel_rfl) (fun z => nomatch z) (.inr fun z => nomatch z) (fun x hx => na_step w L O tx a nl xs m cap d e p x hr hx) s x
    · cases h
  · cases h
theorem numberC_ok (w0 : World) : numberC.Ok Try.prog w0 := by
  refine ⟨fun args h t h0 L O => ?_⟩
  unfold numberC at h0
  simp only at h0
  split at h0
  · rename_i l fr l2 bs r hr
    cases h0
    refine CallOne.asks fun ⟨⟨so, ok⟩, he, hf, hg⟩ => ?_
    obtain ⟨tx, a, nl, xs, m, cap, d, e, p⟩ := r
    simp only at so ok he hf hg
    refine rd_weak (args' := [.v (.one (.ptr 1 0)), .v (.one (.int false .i64 fr)), .v (.one (.int false .i64 bs))]) hr so L O false (fun n ro h' t hn ht => by refine ptr_le hn ?_; exact ⟨⟨rfl, rfl⟩, ⟨rfl, rfl⟩, ht⟩) (by kernel_rfl) (one_ok base2 (ctrs_none _ _) (fpre2_ok w0) (n := 20) fun K hK => ⟨lpOf Try.prog [nuLp L O tx a nl xs m cap d e fr bs], lps_ok fun l hl => by (simp only [List.mem_cons, List.not_mem_nil, or_false] at hl; subst hl; exact nuLp_ok w0 L O tx a nl xs m cap d e fr bs ok hf), ?_⟩)
    replace hK := T.of_chk hK
    show T.holds (callT Try.prog w0 (flatT Try.prog) noCtr (fpreOf [digitC]) (lpOf Try.prog [nuLp L O tx a nl xs m cap d e fr bs]) 20 42 [.v (.one (.ptr 1 0)), .v (.one (.int false .i64 fr)), .v (.one (.int false .i64 bs))] [⟨[.keep L O], 0⟩, ⟨[.val (.string tx), .int false .i64 a, .gs 2 nl 2 0 m cap, .int false .i64 d, .int false .i64 e], 72⟩, ⟨[.row nl [.i64, .i64] xs cap], 60⟩]) _
    rw [number_tree]
    simp only [T.holds, true_and, and_true, and_self]
    have a0 := ok.at_
    refine ⟨⟨⟨Int.le_refl _, hg⟩, ⟨by show (-9223372036854775808 : Int) ≤ 0; decide, by show (0 : Int) ≤ 9223372036854775807; decide⟩⟩, fun y => ?_⟩
    have i1 := y.so.i1
    have n1 := y.so.n1
    generalize y.it = z at *
    obtain ⟨i, n⟩ := z
    simp only at i1 n1
    refine ⟨fun _ => ⟨fun _ => ?_, fun _ => ?_⟩, fun _ => ⟨fun _ => ?_, fun _ => ⟨by have := put_ok ok; simpa using this, fun g => ?_⟩⟩⟩
    · exact ⟨_, _, T.of_all hK (nxFail ok fr ⟨hf, hg⟩ 11 (by decide)), as_end [some 2] (by repeat' (first | exact trivial | exact rfl | exact take2 ok.l | exact congrArg (· ++ _) (take2 ok.l) | (refine And.intro ?_ ?_))) (by kernel_rfl) (fun h => by cases h)⟩
    · exact ⟨_, _, T.of_all hK (nxFail ok a ⟨Int.le_refl _, a0.2⟩ 11 (by decide)), as_end [some 2] (by repeat' (first | exact trivial | exact rfl | exact take2 ok.l | exact congrArg (· ++ _) (take2 ok.l) | (refine And.intro ?_ ?_))) (by kernel_rfl) (fun h => by cases h)⟩
    · exact ⟨_, _, T.of_all hK (nxFail ok a ⟨Int.le_refl _, a0.2⟩ 11 (by decide)), as_end [some 2] (by repeat' (first | exact trivial | exact rfl | exact take2 ok.l | exact congrArg (· ++ _) (take2 ok.l) | (refine And.intro ?_ ?_))) (by kernel_rfl) (fun h => by cases h)⟩
    · exact ⟨_, _, T.of_all hK (nxPut ok i ⟨by omega, i1.2⟩ 1 n e (.num n n1) ⟨by decide, by decide⟩ n1 g), as_end [some 4] (by repeat' (first | exact trivial | exact rfl | exact take2 ok.l | exact congrArg (· ++ _) (take2 ok.l) | (refine And.intro ?_ ?_))) (by kernel_rfl) (fun h => by cases h)⟩
  · cases h0
theorem nameC0_ok (w0 : World) : nameC0.Ok Try.prog w0 := by
  refine ⟨fun args h t h0 L O => ?_⟩
  unfold nameC0 at h0
  simp only at h0
  split at h0
  · rename_i r hr
    cases h0
    refine CallOne.asks fun ⟨⟨so, ok⟩, he⟩ => ?_
    obtain ⟨tx, a, nl, xs, m, cap, d, e, p⟩ := r
    simp only at so ok  he
    refine rd_weak (args' := [.v (.one (.ptr 1 0))]) hr so L O false (fun n ro h' t hn ht => ptr_le hn ht) (by kernel_rfl) (one_ok base2 (ctrs_none _ _) (pre_none _ _) (n := 20) fun K hK => ⟨lpOf Try.prog [naLp L O tx a nl xs m cap d e], lps_ok fun l hl => by (simp only [List.mem_cons, List.not_mem_nil, or_false] at hl; subst hl; exact naLp_ok w0 L O tx a nl xs m cap d e ok), ?_⟩)
    replace hK := T.of_chk hK
    show T.holds (callT Try.prog w0 (flatT Try.prog) noCtr (noPre) (lpOf Try.prog [naLp L O tx a nl xs m cap d e]) 20 43 [.v (.one (.ptr 1 0))] [⟨[.keep L O], 0⟩, ⟨[.val (.string tx), .int false .i64 a, .gs 2 nl 2 0 m cap, .int false .i64 d, .int false .i64 e], 72⟩, ⟨[.row nl [.i64, .i64] xs cap], 60⟩]) _
    rw [pname_tree]
    simp only [T.holds, true_and, and_true, and_self]
    have a0 := ok.at_
    refine ⟨⟨⟨Int.le_refl _, a0.2⟩⟩, fun y => ?_⟩
    have i1 := y.so.i1
    generalize y.it = z at *
    obtain ⟨i⟩ := z
    simp only at i1
    have c0 : (0 : Int) ≤ a ∧ a ≤ i ∧ i ≤ (tx.size : Int) := ⟨a0.1, i1.1, i1.2⟩
    have key : ∀ (n : Int) (g : Grown nl 1 (m + 1)) (B : Blk) (B2 : Blk), 0 ≤ n → n < 18 → ∃ y h2, K (y, h2) ∧ AsF 3 (.tuple []) [⟨[.keep L O], 0⟩, ⟨[.val (.string tx), .int false .i64 i, .gs 5 g.nl' 2 0 (m + 1) g.cap, .int false .i64 d, .int false .i64 e], 72⟩, ⟨[.dead], 60⟩, B, B2, ⟨[.row g.nl' [.i64, .i64] (List.take (m * [IntKind.i64, IntKind.i64].length) xs ++ [2, n]) g.cap], 60⟩] y (keepH L O h2) := fun n g B B2 h1 h2 => ⟨_, _, T.of_all hK (nxPut ok i i1 2 n e (.name n h1 h2) ⟨by decide, by decide⟩ ⟨by omega, by omega⟩ g), as_end [some 5] (by repeat' (first | exact trivial | exact rfl | exact take2 ok.l | exact congrArg (· ++ _) (take2 ok.l) | (refine And.intro ?_ ?_))) (by kernel_rfl) (fun h => by cases h)⟩
    have p0 := put_ok ok
    simp only [true_and, and_true] at p0
    iterate 18 refine ⟨c0, fun _ => ⟨p0, fun g => key _ g _ _ (by decide) (by decide)⟩, fun _ => ?_⟩
    exact ⟨_, _, T.of_all hK (nxFail ok a ⟨Int.le_refl _, a0.2⟩ 11 (by decide)), as_end [some 2] (by repeat' (first | exact trivial | exact rfl | exact take2 ok.l | exact congrArg (· ++ _) (take2 ok.l) | (refine And.intro ?_ ?_))) (by kernel_rfl) (fun h => by cases h)⟩
  · cases h0
end Go.Proofs.Ytmbahohmiecfiaa
