/-
  Walk of a statement of the map, by computing, with its rounds: what is written above 8000 is as written 8000 lower. Bytes are below 256, places below 65536; no other condition.
-/
import Derived.Test.YthfloebldapfbaaA4
namespace Go.Proofs.Ythfloebldapfbaa
open Go.RowKit sym
set_option linter.unusedVariables false
set_option linter.unusedSimpArgs false
set_option maxRecDepth 100000
def pokeCell (P X : Nat → Int) : Nat → Nat → Sc := fun i q => match q with
  | 0 => .int false .u16 (P i)
  | _ => .int false .u8 (X i)
def byteCell (X : Nat → Int) : Nat → Nat → Sc := fun i _ => .int false .u8 (X i)
theorem ok0 : Mb.Ok 1 0 255 := ⟨⟨by decide, by decide⟩, ⟨by decide, by decide⟩, ⟨by decide, by decide⟩⟩
structure l5P where
structure l5X where
  i : Int
  on : Bool
  mode : Bool
  low : Int
  high : Int
  last : Int
def l5St (A : Option Addr) (P X : Nat → Int) (len cap : Nat) (kd bk rm pa px : Int) : l5P → l5X → ASt := fun ⟨⟩ ⟨i, on, mode, low, high, last⟩ => ⟨slots (List.replicate 86 .any) [(3, .v (.one (.xs A (pokeCell P X) 2 len cap))), (9, .v (.one (.ptr 0 0))), (11, .v (.one (.ptr 1 0))), (32, .v (.one (.int false .i64 (len : Int)))), (33, .v (.one (.int false .i64 i)))], [⟨[.int false .u16 pa, .int false .u8 px], 40⟩, ⟨[.int false .i64 (Mb.kindOf kd), .int false .i64 (Mb.banksOf bk), .int false .i64 (Mb.ramOf (Mb.kindOf kd) rm), .bool false on, .bool false mode, .int false .i64 low, .int false .i64 high, .int false .u8 last], 28⟩]⟩
def l5Fin (A : Option Addr) (P X : Nat → Int) (len cap : Nat) (kd bk rm pa px : Int) : l5P → l5X → ASt := fun ⟨⟩ ⟨i, on, mode, low, high, last⟩ => ⟨slots (List.replicate 86 .any) [(3, .v (.one (.xs A (pokeCell P X) 2 len cap))), (9, .v (.one (.ptr 0 0))), (11, .v (.one (.ptr 1 0))), (32, .v (.one (.int false .i64 (len : Int)))), (33, .v (.one (.int false .i64 i)))], [⟨[.int false .u16 pa, .int false .u8 px], 40⟩, ⟨[.int false .i64 (Mb.kindOf kd), .int false .i64 (Mb.banksOf bk), .int false .i64 (Mb.ramOf (Mb.kindOf kd) rm), .bool false on, .bool false mode, .int false .i64 low, .int false .i64 high, .int false .u8 last], 28⟩]⟩
def l5NxP : ASt → Option l5P := fun st_ => some ⟨⟩
def l5NxX : ASt → Option l5X := fun st_ => match gI st_ 33 with | none => none | some i => match hB st_ 1 3 with | none => none | some on => match hB st_ 1 4 with | none => none | some mode => match hI st_ 1 5 with | none => none | some low => match hI st_ 1 6 with | none => none | some high => match hI st_ 1 7 with | none => none | some last => some ⟨i, on, mode, low, high, last⟩
structure l5Inv (A : Option Addr) (P X : Nat → Int) (len cap : Nat) (kd bk rm pa px : Int) (p : l5P) (x : l5X) : Prop where
  i0 : 0 ≤ x.i
  i1 : x.i ≤ len
  lm : len ≤ 100
  ok : Mb.Ok x.low x.high x.last
structure l5Post (A : Option Addr) (P X : Nat → Int) (len cap : Nat) (kd bk rm pa px : Int) (p : l5P) (x : l5X) : Prop where
  ok : Mb.Ok x.low x.high x.last
def l5Lp (A : Option Addr) (P X : Nat → Int) (len cap : Nat) (kd bk rm pa px : Int) : Lp := ⟨5, 0, fun s => match l5NxP s with
  | some p => match l5NxX s with
    | some x => some (loopT 0 2 (l5St A P X len cap kd bk rm pa px p) (l5Fin A P X len cap kd bk rm pa px p) (l5Inv A P X len cap kd bk rm pa px p) (l5Post A P X len cap kd bk rm pa px p) s x)
    | none => none
  | none => none⟩
theorem l5step_tree (w : World) (A : Option Addr) (P X : Nat → Int) (len cap : Nat) (kd bk rm pa px : Int) (i : Int) (on : Bool) (mode : Bool) (low : Int) (high : Int) (last : Int) :
    roundT Try.prog w (flatT Try.prog) (ctrOf table2) (callT Try.prog w (flatT Try.prog) (ctrOf table2) (noLoop) 20) ((noLoop) 5) (roundOf (bodyAt Try.prog 5 0)) 0 (l5St A P X len cap kd bk rm pa px ⟨⟩) (l5Fin A P X len cap kd bk rm pa px ⟨⟩) l5NxX l5NxX ⟨i, on, mode, low, high, last⟩ =
(.br (decide (i < (↑len : Int)))
 (.chk (sym.XOk w A (pokeCell P X) (2 : Nat) len ∧
  (0 : Int) ≤ i ∧ i < (↑len : Int) ∧ (0 : Nat) < (2 : Nat))
 (.chk (sym.XOk w A (pokeCell P X) (2 : Nat) len ∧
  (0 : Nat) < len ∧ (0 : Nat) < (2 : Nat))
 (.chk (sym.XOk w A (pokeCell P X) (2 : Nat) len ∧
  i.toNat < len ∧ (1 : Nat) ≤ (2 : Nat))
 (.chk (sym.XOk w A (pokeCell P X) (2 : Nat) len ∧
  (0 : Int) ≤ i ∧ i < (↑len : Int) ∧ (0 : Nat) < (2 : Nat))
 (.chk (sym.XOk w A (pokeCell P X) (2 : Nat) len ∧
  (0 : Nat) < len ∧ (0 : Nat) < (2 : Nat))
 (.chk (sym.XOk w A (pokeCell P X) (2 : Nat) len ∧
  i.toNat < len ∧ (2 : Nat) ≤ (2 : Nat))
 (.chk (Mb.W (P i.toNat) ∧
  Mb.B (X i.toNat) ∧ (0 : Int) ≤ low ∧ low < (512 : Int))
 (.chk (A = A ∧
  pokeCell P X = pokeCell P X ∧
    (2 : Nat) = (2 : Nat) ∧ len = len ∧ cap = cap)
 (.chk (IntKind.i64 = IntKind.i64 ∧ (↑len : Int) = (↑len : Int))
 (.chk (IntKind.i64 = IntKind.i64 ∧ IntKind.i64.wrap (i + (1 : Int)) = IntKind.i64.wrap (i + (1 : Int)))
 (.chk (IntKind.u16 = IntKind.u16 ∧ pa = pa)
 (.chk (IntKind.u8 = IntKind.u8 ∧ px = px)
 (.chk (IntKind.i64 = IntKind.i64 ∧ Mb.kindOf kd = Mb.kindOf kd)
 (.chk (IntKind.i64 = IntKind.i64 ∧ Mb.banksOf bk = Mb.banksOf bk)
 (.chk (IntKind.i64 = IntKind.i64 ∧
  Mb.ramOf (Mb.kindOf kd) rm =
    Mb.ramOf (Mb.kindOf kd) rm)
 (.chk (Mb.wOn (Mb.kindOf kd) (P i.toNat) (X i.toNat) on =
  Mb.wOn (Mb.kindOf kd) (P i.toNat) (X i.toNat) on)
 (.chk (Mb.wMode (Mb.kindOf kd) (P i.toNat) (X i.toNat) mode =
  Mb.wMode (Mb.kindOf kd) (P i.toNat) (X i.toNat) mode)
 (.chk (IntKind.i64 = IntKind.i64 ∧
  Mb.wLow (Mb.kindOf kd) (P i.toNat) (X i.toNat) low =
    Mb.wLow (Mb.kindOf kd) (P i.toNat) (X i.toNat) low)
 (.chk (IntKind.i64 = IntKind.i64 ∧
  Mb.wHigh (Mb.kindOf kd) (P i.toNat) (X i.toNat) high =
    Mb.wHigh (Mb.kindOf kd) (P i.toNat) (X i.toNat) high)
 (.chk (IntKind.u8 = IntKind.u8 ∧
  Mb.wLast (Mb.kindOf kd) (P i.toNat) (X i.toNat) last =
    Mb.wLast (Mb.kindOf kd) (P i.toNat) (X i.toNat) last)
 (.leaf (.inl ⟨IntKind.i64.wrap (i + (1 : Int)), Mb.wOn (Mb.kindOf kd) (P i.toNat) (X i.toNat) on, Mb.wMode (Mb.kindOf kd) (P i.toNat) (X i.toNat) mode, Mb.wLow (Mb.kindOf kd) (P i.toNat) (X i.toNat) low, Mb.wHigh (Mb.kindOf kd) (P i.toNat) (X i.toNat) high, Mb.wLast (Mb.kindOf kd) (P i.toNat) (X i.toNat) last⟩))))))))))))))))))))))
 (.chk (A = A ∧
  pokeCell P X = pokeCell P X ∧
    (2 : Nat) = (2 : Nat) ∧ len = len ∧ cap = cap)
 (.chk (IntKind.i64 = IntKind.i64 ∧ (↑len : Int) = (↑len : Int))
 (.chk (IntKind.i64 = IntKind.i64 ∧ i = i)
 (.chk (IntKind.u16 = IntKind.u16 ∧ pa = pa)
 (.chk (IntKind.u8 = IntKind.u8 ∧ px = px)
 (.chk (IntKind.i64 = IntKind.i64 ∧ Mb.kindOf kd = Mb.kindOf kd)
 (.chk (IntKind.i64 = IntKind.i64 ∧ Mb.banksOf bk = Mb.banksOf bk)
 (.chk (IntKind.i64 = IntKind.i64 ∧
  Mb.ramOf (Mb.kindOf kd) rm =
    Mb.ramOf (Mb.kindOf kd) rm)
 (.chk (on = on)
 (.chk (mode = mode)
 (.chk (IntKind.i64 = IntKind.i64 ∧ low = low)
 (.chk (IntKind.i64 = IntKind.i64 ∧ high = high)
 (.chk (IntKind.u8 = IntKind.u8 ∧ last = last)
 (.leaf (.inr ⟨i, on, mode, low, high, last⟩)))))))))))))))) := by kernel_rfl
theorem alone_tree (w : World) (A : Option Addr) (P X : Nat → Int) (len cap : Nat) (kd bk rm pa px : Int) :
    callV Try.prog w (flatT Try.prog) (ctrOf table2) (lpOf Try.prog [l5Lp A P X len cap kd bk rm pa px]) 20 5 [.v (.one (.int false .u8 kd)), .v (.one (.int false .u8 bk)), .v (.one (.int false .u8 rm)), .v (.one (.xs A (pokeCell P X) 2 len cap)), .v (.agg [.int false .u16 pa, .int false .u8 px])] =
(.chk (True)
(.br (decide ((↑len : Int) > (100 : Int)))
 (.chk (True)
 (.leaf (.v (.one (.bool true true)))))
 (.chk (Mb.B kd ∧ Mb.B bk ∧ Mb.B rm)
 (.chk (True)
 (.chk (sym.bodyAt Go.Proofs.Try.prog (5 : Go.FuncId) (0 : Nat) = sym.bodyAt Go.Proofs.Try.prog (5 : Go.FuncId) (0 : Nat))
 (.chk (A = A ∧
  pokeCell P X = pokeCell P X ∧
    (2 : Nat) = (2 : Nat) ∧ len = len ∧ cap = cap)
 (.chk (IntKind.i64 = IntKind.i64 ∧ (↑len : Int) = (↑len : Int))
 (.chk (IntKind.i64 = IntKind.i64 ∧ (0 : Int) = (0 : Int))
 (.chk (IntKind.u16 = IntKind.u16 ∧ pa = pa)
 (.chk (IntKind.u8 = IntKind.u8 ∧ px = px)
 (.chk (IntKind.i64 = IntKind.i64 ∧ Mb.kindOf kd = Mb.kindOf kd)
 (.chk (IntKind.i64 = IntKind.i64 ∧ Mb.banksOf bk = Mb.banksOf bk)
 (.chk (IntKind.i64 = IntKind.i64 ∧
  Mb.ramOf (Mb.kindOf kd) rm =
    Mb.ramOf (Mb.kindOf kd) rm)
 (.chk ((Mb.kindOf kd == (0 : Int)) = (Mb.kindOf kd == (0 : Int)))
 (.chk (false = false)
 (.chk (IntKind.i64 = IntKind.i64 ∧ (1 : Int) = (1 : Int))
 (.chk (IntKind.i64 = IntKind.i64 ∧ (0 : Int) = (0 : Int))
 (.chk (IntKind.u8 = IntKind.u8 ∧ (255 : Int) = (255 : Int))
 (.chk (l5Inv A P X len cap kd bk rm pa px { }
  { i := (0 : Int), on := Mb.kindOf kd == (0 : Int), mode := false, low := (1 : Int),
    high := (0 : Int), last := (255 : Int) })
 (.all fun x : sym.Got l5X
  (l5Post A P X len cap kd bk rm pa px { }) =>
  (.chk (Mb.W (bits BinOp.or IntKind.u16 pa (32768 : Int)) ∧
  Mb.B px ∧ (0 : Int) ≤ x.1.4 ∧ x.1.4 < (512 : Int))
  (.chk (Mb.W (bits BinOp.and IntKind.u16 pa (32767 : Int)) ∧
  Mb.B px ∧ (0 : Int) ≤ x.1.4 ∧ x.1.4 < (512 : Int))
  (.br (Mb.kindOf kd == Mb.kindOf kd &&
  (Mb.banksOf bk == Mb.banksOf bk &&
    (Mb.ramOf (Mb.kindOf kd) rm ==
        Mb.ramOf (Mb.kindOf kd) rm &&
      (Mb.wOn (Mb.kindOf kd)
            (bits BinOp.or IntKind.u16 pa (32768 : Int)) px x.1.2 ==
          Mb.wOn (Mb.kindOf kd)
            (bits BinOp.and IntKind.u16 pa (32767 : Int)) px x.1.2 &&
        (Mb.wMode (Mb.kindOf kd)
              (bits BinOp.or IntKind.u16 pa (32768 : Int)) px x.1.3 ==
            Mb.wMode (Mb.kindOf kd)
              (bits BinOp.and IntKind.u16 pa (32767 : Int)) px x.1.3 &&
          (Mb.wLow (Mb.kindOf kd)
                (bits BinOp.or IntKind.u16 pa (32768 : Int)) px x.1.4 ==
              Mb.wLow (Mb.kindOf kd)
                (bits BinOp.and IntKind.u16 pa (32767 : Int)) px x.1.4 &&
            (Mb.wHigh (Mb.kindOf kd)
                  (bits BinOp.or IntKind.u16 pa (32768 : Int)) px x.1.5 ==
                Mb.wHigh (Mb.kindOf kd)
                  (bits BinOp.and IntKind.u16 pa (32767 : Int)) px x.1.5 &&
              (Mb.wLast (Mb.kindOf kd)
                    (bits BinOp.or IntKind.u16 pa (32768 : Int)) px x.1.6 ==
                  Mb.wLast (Mb.kindOf kd)
                    (bits BinOp.and IntKind.u16 pa (32767 : Int)) px x.1.6 &&
                true))))))))
   (.br (Mb.wHeld (Mb.kindOf kd)
    (bits BinOp.or IntKind.u16 pa (32768 : Int)) px x.1.6 ==
  Mb.wHeld (Mb.kindOf kd)
    (bits BinOp.and IntKind.u16 pa (32767 : Int)) px x.1.6)
    (.leaf (.v (.one (.bool false (Mb.kindOf kd == Mb.kindOf kd &&
  (Mb.banksOf bk == Mb.banksOf bk &&
    (Mb.ramOf (Mb.kindOf kd) rm ==
        Mb.ramOf (Mb.kindOf kd) rm &&
      (x.1.2 == x.1.2 && (x.1.3 == x.1.3 && (x.1.4 == x.1.4 && (x.1.5 == x.1.5 && (x.1.6 == x.1.6 && true))))))))))))
    (.leaf (.v (.one (.bool true false)))))
   (.leaf (.v (.one (.bool true false))))))))))))))))))))))))))) := by kernel_rfl
def l5Mu (A : Option Addr) (P X : Nat → Int) (len cap : Nat) (kd bk rm pa px : Int) (p : l5P) (x : l5X) : Nat := ((len : Int) - x.i).toNat
theorem l5_step (w : World) (A : Option Addr) (P X : Nat → Int) (len cap : Nat) (kd bk rm pa px : Int) (p : l5P) (x : l5X) (hX : XOk w A (pokeCell P X) 2 len) (hB : ∀ i, i < len → Mb.B (X i)) (hP : ∀ i, i < len → Mb.W (P i)) (h : l5Inv A P X len cap kd bk rm pa px p x) : Hid (roundT Try.prog w (flatT Try.prog) (ctrOf table2) (callT Try.prog w (flatT Try.prog) (ctrOf table2) (noLoop) 20) ((noLoop) 5) (roundOf (bodyAt Try.prog 5 0)) 0 (l5St A P X len cap kd bk rm pa px p) (l5Fin A P X len cap kd bk rm pa px p) l5NxX l5NxX x) (Kept (l5Inv A P X len cap kd bk rm pa px p) (l5Post A P X len cap kd bk rm pa px p) (l5Mu A P X len cap kd bk rm pa px p) x) := by
  obtain ⟨⟩ := p
  obtain ⟨i, on, mode, low, high, last⟩ := x
  constructor
  rw [l5step_tree]
  simp only [T.holds, Kept, l5Mu, and_self, true_and, and_true]
  try simp only [beq_self_eq_true, bne_self_eq_false, Bool.and_true, Bool.true_and, Bool.and_self, Bool.not_true, Bool.not_false, Bool.false_eq_true, Bool.true_eq_false, false_implies, forall_const, and_self, true_and, and_true, if_true, if_false, reduceIte]
  obtain ⟨h1, h2, hl, hk⟩ := h
  simp only at h1 h2 hl hk
  have next : i < (len : Int) → IntKind.i64.wrap (i + 1) = i + 1 := fun hi => Mb.wi64 _ (by omega) (by omega)
  have mu : i < (len : Int) → ((len : Int) - (i + 1)).toNat < ((len : Int) - i).toNat := fun hi => by omega
  refine ⟨fun h => ?_, fun h => ⟨hk⟩⟩
  have hi : i < (len : Int) := by simpa using h
  have hx1 : XOk w A (pokeCell P X) 2 len ∧ 0 ≤ i ∧ i < (len : Int) ∧ 0 < 2 := ⟨hX, h1, hi, by decide⟩
  have hx2 : XOk w A (pokeCell P X) 2 len ∧ 0 < len ∧ 0 < 2 := ⟨hX, by omega, by decide⟩
  have hx3 : XOk w A (pokeCell P X) 2 len ∧ i.toNat < len ∧ 1 ≤ 2 := ⟨hX, by omega, by decide⟩
  have hx4 : XOk w A (pokeCell P X) 2 len ∧ i.toNat < len ∧ 2 ≤ 2 := ⟨hX, by omega, by decide⟩
  have bX := hB i.toNat (by omega)
  have bP := hP i.toNat (by omega)
  have ask : Mb.W (P i.toNat) ∧ Mb.B (X i.toNat) ∧ 0 ≤ low ∧ low < 512 := ⟨bP, bX, hk.low⟩
  rw [next hi]
  exact ⟨hx1, hx2, hx3, hx1, hx2, hx4, ask, ⟨by show 0 ≤ i + 1; omega, by show i + 1 ≤ (len : Int); omega, hl, Mb.w_ok bX hk⟩, mu hi⟩
theorem l5Lp_ok (w : World) (A : Option Addr) (P X : Nat → Int) (len cap : Nat) (kd bk rm pa px : Int) (hX : XOk w A (pokeCell P X) 2 len) (hB : ∀ i, i < len → Mb.B (X i)) (hP : ∀ i, i < len → Mb.W (P i)) : (l5Lp A P X len cap kd bk rm pa px).ok Try.prog w := by
  intro s t h
  unfold l5Lp at h
  simp only at h
  split at h
  · rename_i p _
    split at h
    · rename_i x _
      cases h
      exact loop_ok base2 (table2_ok w) (callT_ok base2.mixed base2.names base2.eqs (table2_ok w).ok (table2_ok w).there (loops_none _ _) 20) ((loops_none _ _) 5) (c := roundOf (bodyAt Try.prog 5 0)) (by kernel_rfl) (id := 0) (n := 2) (st := l5St A P X len cap kd bk rm pa px p) (fin := l5Fin A P X len cap kd bk rm pa px p) (inv := l5Inv A P X len cap kd bk rm pa px p) (post := l5Post A P X len cap kd bk rm pa px p) (nx := l5NxX) (fx := l5NxX) (l5Mu A P X len cap kd bk rm pa px p) (fun x => by kernel_rfl) (fun y => by kernel_rfl) (fun x hx => l5_step w A P X len cap kd bk rm pa px p x hX hB hP hx) s x
    · cases h
  · cases h
theorem or15 {a : Int} (h : Mb.W a) : bits .or .u16 a 32768 = a % 32768 + 32768 := by
  obtain ⟨n, rfl⟩ := Int.eq_ofNat_of_zero_le h.1
  have hn : n < 65536 := by have := h.2; omega
  have := u16_or_nat n 32768 hn (by omega)
  rw [show (32768 : Int) = ((32768 : Nat) : Int) from rfl, this]
  have hr : n % 32768 < 2 ^ 15 := by omega
  have e1 := Nat.two_pow_add_eq_or_of_lt hr 1
  have hq : n / 32768 = 0 ∨ n / 32768 = 1 := by omega
  have key : n ||| 32768 = n % 32768 + 32768 := by
    rcases hq with hq | hq
    · have e : n = n % 32768 := by omega
      have e2 : n ||| 32768 = 2 ^ 15 * 1 ||| n % 32768 := by rw [Nat.or_comm, ← e]
      rw [e2, ← e1]; omega
    · have e : n = 2 ^ 15 * 1 ||| n % 32768 := by rw [← e1]; omega
      have e2 : n ||| 32768 = n := by
        conv => lhs; rw [e]
        rw [Nat.or_comm, ← Nat.or_assoc, show (32768 ||| 2 ^ 15 * 1 : Nat) = 2 ^ 15 * 1 by decide]
        exact e.symm
      rw [e2]; omega
  rw [key]
  omega
theorem write_alike (k a b x : Int) (on mode : Bool) (low high last : Int) (h1 : a % 32768 = b % 32768) : Mb.wOn k a x on = Mb.wOn k b x on ∧ Mb.wMode k a x mode = Mb.wMode k b x mode ∧ Mb.wLow k a x low = Mb.wLow k b x low ∧ Mb.wHigh k a x high = Mb.wHigh k b x high ∧ Mb.wLast k a x last = Mb.wLast k b x last ∧ Mb.wHeld k a x last = Mb.wHeld k b x last := by
  have e1 : a / 8192 % 4 = b / 8192 % 4 := by omega
  have e2 : a / 256 % 2 = b / 256 % 2 := by omega
  have e3 : a / 4096 % 8 = b / 4096 % 8 := by omega
  simp only [Mb.wOn, Mb.wMode, Mb.wLow, Mb.wHigh, Mb.wLast, Mb.wHeld, e1, e2, e3, h1, and_self]
set_option maxHeartbeats 4000000 in
theorem alone_walk (w : World) (A : Option Addr) (P X : Nat → Int) (len cap : Nat) (kd bk rm pa px : Int) (hX : XOk w A (pokeCell P X) 2 len) (hB : ∀ i, i < len → Mb.B (X i)) (hP : ∀ i, i < len → Mb.W (P i)) (bkd : Mb.B kd) (bbk : Mb.B bk) (brm : Mb.B rm) (bpa : Mb.W pa) (bpx : Mb.B px) : Calls Try.prog 5 #[.int .u8 kd, .int .u8 bk, .int .u8 rm, .slice A len cap, .agg #[.int .u16 pa, .int .u8 px]] w fun e w' => e = .returned (.bool true) ∧ Below w.heap.size w w' := by
  have hl : LcsOk Try.prog w (lpOf Try.prog [l5Lp A P X len cap kd bk rm pa px]) := lps_ok fun l hl => by
    simp only [List.mem_cons, List.not_mem_nil, or_false] at hl
    subst hl
    exact l5Lp_ok w A P X len cap kd bk rm pa px hX hB hP
  refine val_eq base2 (table2_ok w) hl (alone_tree w A P X len cap kd bk rm pa px) rfl ?_
  have e1 := or15 bpa
  have e2 := low15 bpa
  have b1 : Mb.W (bits .or .u16 pa 32768) := by rw [e1]; have := bpa.1; exact ⟨by omega, by omega⟩
  have b2 : Mb.W (bits .and .u16 pa 32767) := by rw [e2]; have := bpa.1; exact ⟨by omega, by omega⟩
  have al := fun k x on mode low high last => write_alike k (bits .or .u16 pa 32768) (bits .and .u16 pa 32767) x on mode low high last (by rw [e1, e2]; omega)
  simp only [T.holds, and_self, true_and, and_true]
  refine ⟨fun _ => ⟨rfl, rfl⟩, fun h => ⟨⟨bkd, bbk, brm⟩, ⟨by show (0:Int) ≤ 0; omega, by show (0:Int) ≤ (len : Int); omega, by simp at h; omega, ok0⟩, fun y => ?_⟩⟩
  obtain ⟨⟨yi, yon, ymode, ylow, yhigh, ylast⟩, ⟨ok⟩⟩ := y
  dsimp only
  obtain ⟨q1, q2, q3, q4, q5, q6⟩ := al (Mb.kindOf kd) px yon ymode ylow yhigh ylast
  refine ⟨⟨b1, bpx, ok.low⟩, ⟨b2, bpx, ok.low⟩, ?_⟩
  simp only [q1, q2, q3, q4, q5, q6, beq_self_eq_true, Bool.and_self, Bool.and_true, forall_const, Bool.true_eq_false, false_implies, and_true]
  exact ⟨rfl, rfl⟩
end Go.Proofs.Ythfloebldapfbaa
