/-
  Contract of bytes that a pack lays over others. Bytes are below 256, at most 16000 of them; no other condition.
-/
import Derived.Test.YtcfnfihemejjkaaR5
namespace Go.Proofs.Ytcfnfihemejjkaa
open Go.RowKit sym
set_option linter.unusedVariables false
set_option linter.unusedSimpArgs false
set_option maxRecDepth 100000
def tab4 : List RCtr := [cloneC, getC]
theorem tab4_ok : ∀ c ∈ tab4, c.Ok Try.prog := fun c hc => by
  simp only [tab4, List.mem_cons, List.not_mem_nil, or_false] at hc
  rcases hc with rfl | rfl
  · exact cloneC_ok
  · exact getC_ok
structure ldP where
  nl : Bool
  r : Nat
  d : Nat
structure ldX where
  R : List Int
  o : Nat
  ln : Nat
  lc : Nat
  P : Option Addr
  Q : List Int
  q : Nat
  qc : Nat
structure ldY where
  R : List Int
  P : Option Addr
  Q : List Int
  q : Nat
  qc : Nat
structure ldZ where
  e : Int
def ldSt (w : World) (A : Option Addr) (X : List Int) (n cap : Nat) (A2 : Option Addr) (Y : List Int) (m cap2 : Nat) : ldP → ldX → ASt := fun ⟨nl, r, d⟩ ⟨R, o, ln, lc, P, Q, q, qc⟩ => ⟨slots (List.replicate 71 .any) [(1, .v (.one (.xr P [.u8] Q q qc))), (6, .v (.one (.gs 0 nl 1 0 r d))), (7, .v (.one (.gs 0 nl 1 o ln lc)))], [⟨[.row nl [.u8] R d], 5⟩]⟩
def ldFin (w : World) (A : Option Addr) (X : List Int) (n cap : Nat) (A2 : Option Addr) (Y : List Int) (m cap2 : Nat) : ldP → ldY → ASt := fun ⟨nl, r, d⟩ ⟨R, P, Q, q, qc⟩ => ⟨slots (List.replicate 71 .any) [(1, .v (.one (.xr P [.u8] Q q qc))), (6, .v (.one (.gs 0 nl 1 0 r d)))], [⟨[.row nl [.u8] R d], 5⟩]⟩
def ldBck (w : World) (A : Option Addr) (X : List Int) (n cap : Nat) (A2 : Option Addr) (Y : List Int) (m cap2 : Nat) : ldP → ldZ → ASt := fun ⟨nl, r, d⟩ ⟨e⟩ => ⟨slots (List.replicate 71 .any) [(4, .v (.one .nos)), (5, .v (.one (.int false .i64 e)))], [⟨[.dead], 5⟩]⟩
def ldNxP : ASt → Option ldP := fun s => match sym.gN s 6 with | none => none | some nl => match sym.gL s 6 with | none => none | some r => match sym.gC s 6 with | none => none | some d => some ⟨nl, r, d⟩
def ldNxX : ASt → Option ldX := fun s => match sym.gX s 6 with | none => none | some R => match sym.gO s 7 with | none => none | some o => match sym.gL s 7 with | none => none | some ln => match sym.gC s 7 with | none => none | some lc => match sym.gA s 1 with | none => none | some P => match sym.gXs s 1 with | none => none | some Q => match sym.gL s 1 with | none => none | some q => match sym.gC s 1 with | none => none | some qc => some ⟨R, o, ln, lc, P, Q, q, qc⟩
def ldNxY : ASt → Option ldY := fun s => match sym.gX s 6 with | none => none | some R => match sym.gA s 1 with | none => none | some P => match sym.gXs s 1 with | none => none | some Q => match sym.gL s 1 with | none => none | some q => match sym.gC s 1 with | none => none | some qc => some ⟨R, P, Q, q, qc⟩
def ldNxZ : ASt → Option ldZ := fun s => match sym.gI s 5 with | none => none | some e => some ⟨e⟩
def ldRo : ASt → List (Option Nat) := (fun _ => [])
def ldRf : ASt → List (Option Nat) := (fun _ => [])
def ldRb : ASt → List (Option Nat) := (fun _ => [])
structure ldInv (w : World) (A : Option Addr) (X : List Int) (n cap : Nat) (A2 : Option Addr) (Y : List Int) (m cap2 : Nat) (p : ldP) (x : ldX) : Prop where
  rl : x.R.length = p.r
  rd : p.r ≤ p.d ∧ p.d ≤ maxLen
  nil : p.nl = true → p.r = 0 ∧ p.d = 0
  big : p.r ≤ 16000 ∧ x.q ≤ 1000000000
  l1 : x.ln ≤ x.lc
  l2 : x.o + x.ln ≤ p.r
  l3 : x.ln = 0 ∨ x.o = p.r - x.ln
  hQ : XR w x.P [.u8] x.Q x.q
  hc : x.q ≤ x.qc
  hb : Bs x.Q
  eq : lay false (p.r - x.ln) x.R x.Q = lay false 0 X Y
structure ldPost (w : World) (A : Option Addr) (X : List Int) (n cap : Nat) (A2 : Option Addr) (Y : List Int) (m cap2 : Nat) (p : ldP) (x : ldY) : Prop where
  rl : x.R.length = p.r
  eq : lay false 0 X Y = if x.q = 0 then (0, x.R) else (3, [])
structure ldBack (w : World) (A : Option Addr) (X : List Int) (n cap : Nat) (A2 : Option Addr) (Y : List Int) (m cap2 : Nat) (p : ldP) (x : ldZ) : Prop where
  ne : x.e ≠ 0
  eq : lay false 0 X Y = (x.e, [])
def ldLp (w : World) (A : Option Addr) (X : List Int) (n cap : Nat) (A2 : Option Addr) (Y : List Int) (m cap2 : Nat) : Lp := ⟨23, 0, fun s => match ldNxP s with
  | some p => match ldNxX s with
    | some x => some (loopT 0 1 true ldRo (ldSt w A X n cap A2 Y m cap2 p) (ldFin w A X n cap A2 Y m cap2 p) (ldBck w A X n cap A2 Y m cap2 p) (ldInv w A X n cap A2 Y m cap2 p) (ldPost w A X n cap A2 Y m cap2 p) (ldBack w A X n cap A2 Y m cap2 p) s x)
    | none => none
  | none => none⟩
theorem ldstep_tree (w : World) (A : Option Addr) (X : List Int) (n cap : Nat) (A2 : Option Addr) (Y : List Int) (m cap2 : Nat) (nl : Bool) (r : Nat) (d : Nat) (R : List Int) (o : Nat) (ln : Nat) (lc : Nat) (P : Option Addr) (Q : List Int) (q : Nat) (qc : Nat) :
    roundT Try.prog w (flatT Try.prog) (noCtr) (callT Try.prog w (flatT Try.prog) (noCtr) (preOf w tab4) (noLoop) 20) ((noLoop) 23) (roundOf (bodyAt Try.prog 23 0)) 0 1 ldRo ldRf ldRb (ldSt w A X n cap A2 Y m cap2 ⟨nl, r, d⟩) (ldFin w A X n cap A2 Y m cap2 ⟨nl, r, d⟩) (ldBck w A X n cap A2 Y m cap2 ⟨nl, r, d⟩) ldNxX ldNxY ldNxZ ⟨R, o, ln, lc, P, Q, q, qc⟩ =
(.chk ((sym.XR w P [IntKind.u8] Q q ∧ q ≤ qc) ∧ True)
(.chk (q ≤ (1000000000 : Nat) ∧ Bs Q)
(.br (decide (gE Q = (0 : Int)))
 (.br ((0 : Int) != (0 : Int))
  (.chk (IntKind.i64 = IntKind.i64 ∧ (0 : Int) = (0 : Int))
  (.leaf (.inr (.inr ⟨(0 : Int)⟩))))
  (.br (decide ((↑(gN Q) : Int) > (↑ln : Int)))
   (.chk (IntKind.i64 = IntKind.i64 ∧ (6 : Int) = (6 : Int))
   (.leaf (.inr (.inr ⟨(6 : Int)⟩))))
   (.chk ((0 : Int) ≤ (↑(gN Q) : Int) ∧
  (↑(gN Q) : Int) ≤ (↑ln : Int) ∧ (↑ln : Int) ≤ (↑lc : Int))
   (.br ((↑(ln - (↑(gN Q) : Int).toNat) : Int) == (0 : Int))
    (.chk (sym.cutA P qc (gK Q) (1 : Nat) =
    sym.cutA P qc (gK Q) (1 : Nat) ∧
  [IntKind.u8] = [IntKind.u8] ∧
    sym.cutL Q (gK Q) q (1 : Nat) =
        sym.cutL Q (gK Q) q (1 : Nat) ∧
      q - gK Q = q - gK Q ∧
        qc - gK Q = qc - gK Q)
    (.chk (nl = nl ∧ (1 : Nat) = (1 : Nat) ∧ (0 : Nat) = (0 : Nat) ∧ r = r ∧ d = d)
    (.chk (nl = nl ∧ [IntKind.u8] = [IntKind.u8] ∧ R = R ∧ d = d)
    (.leaf (.inr (.inl ⟨R, sym.cutA P qc (gK Q) (1 : Nat), sym.cutL Q (gK Q) q (1 : Nat), q - gK Q, qc - gK Q⟩))))))
    (.chk ((sym.XR w
      (sym.cutA P qc (gK Q) (1 : Nat)) [IntKind.u8]
      (sym.cutL Q (gK Q) q (1 : Nat))
      (q - gK Q) ∧
    q - gK Q ≤ qc - gK Q) ∧
  True)
    (.chk (q - gK Q ≤ (1000000000 : Nat) ∧
  Bs (sym.cutL Q (gK Q) q (1 : Nat)))
    (.br (decide
  (gE (sym.cutL Q (gK Q) q (1 : Nat)) =
    (0 : Int)))
     (.br ((0 : Int) != (0 : Int))
      (.chk (IntKind.i64 = IntKind.i64 ∧ (0 : Int) = (0 : Int))
      (.leaf (.inr (.inr ⟨(0 : Int)⟩))))
      (.br (decide
  ((↑(gN
          (sym.cutL Q (gK Q) q (1 : Nat))) :
      Int) >
    (↑(ln - (↑(gN Q) : Int).toNat) : Int)))
       (.chk (IntKind.i64 = IntKind.i64 ∧ (6 : Int) = (6 : Int))
       (.leaf (.inr (.inr ⟨(6 : Int)⟩))))
       (.br (decide
  ((↑(gN
          (sym.cutL Q (gK Q) q (1 : Nat))) :
      Int) >
    (↑(q - gK Q -
          gK
            (sym.cutL Q (gK Q) q (1 : Nat))) :
      Int)))
        (.chk (IntKind.i64 = IntKind.i64 ∧ (2 : Int) = (2 : Int))
        (.leaf (.inr (.inr ⟨(2 : Int)⟩))))
        (.chk ((0 : Int) ≤ (↑(0 : Nat) : Int) ∧
  (↑(0 : Nat) : Int) ≤
      (↑(gN
            (sym.cutL Q (gK Q) q (1 : Nat))) :
        Int) ∧
    (↑(gN
              (sym.cutL Q (gK Q) q (1 : Nat))) :
          Int) ≤
        (↑(q - gK Q -
              gK
                (sym.cutL Q (gK Q) q (1 : Nat))) :
          Int) ∧
      q - gK Q -
          gK
            (sym.cutL Q (gK Q) q (1 : Nat)) ≤
        qc - gK Q -
          gK
            (sym.cutL Q (gK Q) q (1 : Nat)))
        (.chk ((sym.XR w
      (sym.cutA
        (sym.cutA
          (sym.cutA P qc (gK Q) (1 : Nat))
          (qc - gK Q)
          (gK
            (sym.cutL Q (gK Q) q (1 : Nat)))
          (1 : Nat))
        (qc - gK Q -
          gK
            (sym.cutL Q (gK Q) q (1 : Nat)))
        (0 : Nat) [IntKind.u8].length)
      [IntKind.u8]
      (sym.cutL
        (sym.cutL
          (sym.cutL Q (gK Q) q (1 : Nat))
          (gK
            (sym.cutL Q (gK Q) q (1 : Nat)))
          (q - gK Q) (1 : Nat))
        (0 : Nat)
        (↑(gN
                (sym.cutL Q (gK Q) q (1 : Nat))) :
            Int).toNat
        [IntKind.u8].length)
      ((↑(gN
                (sym.cutL Q (gK Q) q (1 : Nat))) :
            Int).toNat -
        (0 : Nat)) ∧
    (↑(gN
                (sym.cutL Q (gK Q) q (1 : Nat))) :
            Int).toNat -
        (0 : Nat) ≤
      qc - gK Q -
          gK
            (sym.cutL Q (gK Q) q (1 : Nat)) -
        (0 : Nat)) ∧
  nl = nl ∧
    (sym.cutO o lc (↑(gN Q) : Int).toNat +
          (ln - (↑(gN Q) : Int).toNat)) *
        [IntKind.u8].length ≤
      R.length)
        (.chk ((0 : Int) ≤
    (↑(gN
          (sym.cutL Q (gK Q) q (1 : Nat))) :
      Int) ∧
  (↑(gN
            (sym.cutL Q (gK Q) q (1 : Nat))) :
        Int) ≤
      (↑(ln - (↑(gN Q) : Int).toNat) : Int) ∧
    (↑(ln - (↑(gN Q) : Int).toNat) : Int) ≤
      (↑(lc - (↑(gN Q) : Int).toNat) : Int))
        (.chk ((0 : Int) ≤
    (↑(gN
          (sym.cutL Q (gK Q) q (1 : Nat))) :
      Int) ∧
  (↑(gN
            (sym.cutL Q (gK Q) q (1 : Nat))) :
        Int) ≤
      (↑(q - gK Q -
            gK
              (sym.cutL Q (gK Q) q (1 : Nat))) :
        Int) ∧
    (↑(q - gK Q -
              gK
                (sym.cutL Q (gK Q) q (1 : Nat))) :
          Int) ≤
        (↑(q - gK Q -
              gK
                (sym.cutL Q (gK Q) q (1 : Nat))) :
          Int) ∧
      q - gK Q -
          gK
            (sym.cutL Q (gK Q) q (1 : Nat)) ≤
        qc - gK Q -
          gK
            (sym.cutL Q (gK Q) q (1 : Nat)))
        (.chk (sym.cutA
      (sym.cutA
        (sym.cutA P qc (gK Q) (1 : Nat))
        (qc - gK Q)
        (gK
          (sym.cutL Q (gK Q) q (1 : Nat)))
        (1 : Nat))
      (qc - gK Q -
        gK
          (sym.cutL Q (gK Q) q (1 : Nat)))
      (↑(gN
              (sym.cutL Q (gK Q) q (1 : Nat))) :
          Int).toNat
      [IntKind.u8].length =
    sym.cutA
      (sym.cutA
        (sym.cutA P qc (gK Q) (1 : Nat))
        (qc - gK Q)
        (gK
          (sym.cutL Q (gK Q) q (1 : Nat)))
        (1 : Nat))
      (qc - gK Q -
        gK
          (sym.cutL Q (gK Q) q (1 : Nat)))
      (↑(gN
              (sym.cutL Q (gK Q) q (1 : Nat))) :
          Int).toNat
      [IntKind.u8].length ∧
  [IntKind.u8] = [IntKind.u8] ∧
    sym.cutL
          (sym.cutL
            (sym.cutL Q (gK Q) q (1 : Nat))
            (gK
              (sym.cutL Q (gK Q) q (1 : Nat)))
            (q - gK Q) (1 : Nat))
          (↑(gN
                  (sym.cutL Q (gK Q) q (1 : Nat))) :
              Int).toNat
          (q - gK Q -
            gK
              (sym.cutL Q (gK Q) q (1 : Nat)))
          [IntKind.u8].length =
        sym.cutL
          (sym.cutL
            (sym.cutL Q (gK Q) q (1 : Nat))
            (gK
              (sym.cutL Q (gK Q) q (1 : Nat)))
            (q - gK Q) (1 : Nat))
          (↑(gN
                  (sym.cutL Q (gK Q) q (1 : Nat))) :
              Int).toNat
          (q - gK Q -
            gK
              (sym.cutL Q (gK Q) q (1 : Nat)))
          [IntKind.u8].length ∧
      q - gK Q -
              gK
                (sym.cutL Q (gK Q) q (1 : Nat)) -
            (↑(gN
                    (sym.cutL Q (gK Q) q (1 : Nat))) :
                Int).toNat =
          q - gK Q -
              gK
                (sym.cutL Q (gK Q) q (1 : Nat)) -
            (↑(gN
                    (sym.cutL Q (gK Q) q (1 : Nat))) :
                Int).toNat ∧
        qc - gK Q -
              gK
                (sym.cutL Q (gK Q) q (1 : Nat)) -
            (↑(gN
                    (sym.cutL Q (gK Q) q (1 : Nat))) :
                Int).toNat =
          qc - gK Q -
              gK
                (sym.cutL Q (gK Q) q (1 : Nat)) -
            (↑(gN
                    (sym.cutL Q (gK Q) q (1 : Nat))) :
                Int).toNat)
        (.chk (nl = nl ∧ (1 : Nat) = (1 : Nat) ∧ (0 : Nat) = (0 : Nat) ∧ r = r ∧ d = d)
        (.chk (nl = nl ∧
  (1 : Nat) = (1 : Nat) ∧
    sym.cutO
          (sym.cutO o lc (↑(gN Q) : Int).toNat)
          (lc - (↑(gN Q) : Int).toNat)
          (↑(gN
                  (sym.cutL Q (gK Q) q (1 : Nat))) :
              Int).toNat =
        sym.cutO
          (sym.cutO o lc (↑(gN Q) : Int).toNat)
          (lc - (↑(gN Q) : Int).toNat)
          (↑(gN
                  (sym.cutL Q (gK Q) q (1 : Nat))) :
              Int).toNat ∧
      ln - (↑(gN Q) : Int).toNat -
            (↑(gN
                    (sym.cutL Q (gK Q) q (1 : Nat))) :
                Int).toNat =
          ln - (↑(gN Q) : Int).toNat -
            (↑(gN
                    (sym.cutL Q (gK Q) q (1 : Nat))) :
                Int).toNat ∧
        lc - (↑(gN Q) : Int).toNat -
            (↑(gN
                    (sym.cutL Q (gK Q) q (1 : Nat))) :
                Int).toNat =
          lc - (↑(gN Q) : Int).toNat -
            (↑(gN
                    (sym.cutL Q (gK Q) q (1 : Nat))) :
                Int).toNat)
        (.chk (nl = nl ∧
  [IntKind.u8] = [IntKind.u8] ∧
    List.take
              (sym.cutO o lc (↑(gN Q) : Int).toNat *
                [IntKind.u8].length)
              R ++
            List.take
              (Min.min
                  ((↑(gN
                            (sym.cutL Q (gK Q) q (1 : Nat))) :
                        Int).toNat -
                    (0 : Nat))
                  (ln - (↑(gN Q) : Int).toNat) *
                [IntKind.u8].length)
              (sym.cutL
                (sym.cutL
                  (sym.cutL Q (gK Q) q (1 : Nat))
                  (gK
                    (sym.cutL Q (gK Q) q (1 : Nat)))
                  (q - gK Q) (1 : Nat))
                (0 : Nat)
                (↑(gN
                        (sym.cutL Q (gK Q) q (1 : Nat))) :
                    Int).toNat
                [IntKind.u8].length) ++
          List.drop
            ((sym.cutO o lc (↑(gN Q) : Int).toNat +
                Min.min
                  ((↑(gN
                            (sym.cutL Q (gK Q) q (1 : Nat))) :
                        Int).toNat -
                    (0 : Nat))
                  (ln - (↑(gN Q) : Int).toNat)) *
              [IntKind.u8].length)
            R =
        List.take
              (sym.cutO o lc (↑(gN Q) : Int).toNat *
                [IntKind.u8].length)
              R ++
            List.take
              (Min.min
                  ((↑(gN
                            (sym.cutL Q (gK Q) q (1 : Nat))) :
                        Int).toNat -
                    (0 : Nat))
                  (ln - (↑(gN Q) : Int).toNat) *
                [IntKind.u8].length)
              (sym.cutL
                (sym.cutL
                  (sym.cutL Q (gK Q) q (1 : Nat))
                  (gK
                    (sym.cutL Q (gK Q) q (1 : Nat)))
                  (q - gK Q) (1 : Nat))
                (0 : Nat)
                (↑(gN
                        (sym.cutL Q (gK Q) q (1 : Nat))) :
                    Int).toNat
                [IntKind.u8].length) ++
          List.drop
            ((sym.cutO o lc (↑(gN Q) : Int).toNat +
                Min.min
                  ((↑(gN
                            (sym.cutL Q (gK Q) q (1 : Nat))) :
                        Int).toNat -
                    (0 : Nat))
                  (ln - (↑(gN Q) : Int).toNat)) *
              [IntKind.u8].length)
            R ∧
      d = d)
        (.leaf (.inl ⟨List.take
      (sym.cutO o lc (↑(gN Q) : Int).toNat *
        [IntKind.u8].length)
      R ++
    List.take
      (Min.min
          ((↑(gN
                    (sym.cutL Q (gK Q) q (1 : Nat))) :
                Int).toNat -
            (0 : Nat))
          (ln - (↑(gN Q) : Int).toNat) *
        [IntKind.u8].length)
      (sym.cutL
        (sym.cutL
          (sym.cutL Q (gK Q) q (1 : Nat))
          (gK
            (sym.cutL Q (gK Q) q (1 : Nat)))
          (q - gK Q) (1 : Nat))
        (0 : Nat)
        (↑(gN
                (sym.cutL Q (gK Q) q (1 : Nat))) :
            Int).toNat
        [IntKind.u8].length) ++
  List.drop
    ((sym.cutO o lc (↑(gN Q) : Int).toNat +
        Min.min
          ((↑(gN
                    (sym.cutL Q (gK Q) q (1 : Nat))) :
                Int).toNat -
            (0 : Nat))
          (ln - (↑(gN Q) : Int).toNat)) *
      [IntKind.u8].length)
    R, sym.cutO
  (sym.cutO o lc (↑(gN Q) : Int).toNat)
  (lc - (↑(gN Q) : Int).toNat)
  (↑(gN
          (sym.cutL Q (gK Q) q (1 : Nat))) :
      Int).toNat, ln - (↑(gN Q) : Int).toNat -
  (↑(gN
          (sym.cutL Q (gK Q) q (1 : Nat))) :
      Int).toNat, lc - (↑(gN Q) : Int).toNat -
  (↑(gN
          (sym.cutL Q (gK Q) q (1 : Nat))) :
      Int).toNat, sym.cutA
  (sym.cutA
    (sym.cutA P qc (gK Q) (1 : Nat))
    (qc - gK Q)
    (gK
      (sym.cutL Q (gK Q) q (1 : Nat)))
    (1 : Nat))
  (qc - gK Q -
    gK (sym.cutL Q (gK Q) q (1 : Nat)))
  (↑(gN
          (sym.cutL Q (gK Q) q (1 : Nat))) :
      Int).toNat
  [IntKind.u8].length, sym.cutL
  (sym.cutL
    (sym.cutL Q (gK Q) q (1 : Nat))
    (gK
      (sym.cutL Q (gK Q) q (1 : Nat)))
    (q - gK Q) (1 : Nat))
  (↑(gN
          (sym.cutL Q (gK Q) q (1 : Nat))) :
      Int).toNat
  (q - gK Q -
    gK (sym.cutL Q (gK Q) q (1 : Nat)))
  [IntKind.u8].length, q - gK Q -
    gK
      (sym.cutL Q (gK Q) q (1 : Nat)) -
  (↑(gN
          (sym.cutL Q (gK Q) q (1 : Nat))) :
      Int).toNat, qc - gK Q -
    gK
      (sym.cutL Q (gK Q) q (1 : Nat)) -
  (↑(gN
          (sym.cutL Q (gK Q) q (1 : Nat))) :
      Int).toNat⟩)))))))))))))
     (.br (gE (sym.cutL Q (gK Q) q (1 : Nat)) !=
  (0 : Int))
      (.chk (IntKind.i64 = IntKind.i64 ∧
  gE (sym.cutL Q (gK Q) q (1 : Nat)) =
    gE (sym.cutL Q (gK Q) q (1 : Nat)))
      (.leaf (.inr (.inr ⟨gE (sym.cutL Q (gK Q) q (1 : Nat))⟩))))
      (.br (decide ((0 : Int) > (↑(ln - (↑(gN Q) : Int).toNat) : Int)))
       (.chk (IntKind.i64 = IntKind.i64 ∧ (6 : Int) = (6 : Int))
       (.leaf (.inr (.inr ⟨(6 : Int)⟩))))
       (.br (decide ((0 : Int) > (↑(0 : Nat) : Int)))
        (.chk (IntKind.i64 = IntKind.i64 ∧ (2 : Int) = (2 : Int))
        (.leaf (.inr (.inr ⟨(2 : Int)⟩))))
        (.chk ((0 : Int) ≤ (↑(0 : Nat) : Int) ∧ (↑(0 : Nat) : Int) ≤ (0 : Int) ∧ (0 : Int) ≤ (↑(0 : Nat) : Int))
        (.chk ((true = true ∧ (0 : Nat) ≤ ([] : List Int).length ∧ (0 : Nat) ≤ (0 : Nat)) ∧
  nl = nl ∧
    (sym.cutO o lc (↑(gN Q) : Int).toNat +
          (ln - (↑(gN Q) : Int).toNat)) *
        [IntKind.u8].length ≤
      R.length)
        (.chk ((0 : Int) ≤ (0 : Int) ∧
  (0 : Int) ≤ (↑(ln - (↑(gN Q) : Int).toNat) : Int) ∧
    (↑(ln - (↑(gN Q) : Int).toNat) : Int) ≤
      (↑(lc - (↑(gN Q) : Int).toNat) : Int))
        (.chk ((0 : Int) ≤ (0 : Int) ∧ (0 : Int) ≤ (↑(0 : Nat) : Int) ∧ (↑(0 : Nat) : Int) ≤ (↑(0 : Nat) : Int))
        (.fail "next")))))))))))))))
 (.br (gE Q != (0 : Int))
  (.chk (IntKind.i64 = IntKind.i64 ∧ gE Q = gE Q)
  (.leaf (.inr (.inr ⟨gE Q⟩))))
  (.br (decide ((0 : Int) > (↑ln : Int)))
   (.chk (IntKind.i64 = IntKind.i64 ∧ (6 : Int) = (6 : Int))
   (.leaf (.inr (.inr ⟨(6 : Int)⟩))))
   (.chk ((0 : Int) ≤ (0 : Int) ∧ (0 : Int) ≤ (↑ln : Int) ∧ (↑ln : Int) ≤ (↑lc : Int))
   (.br ((↑(ln - (0 : Nat)) : Int) == (0 : Int))
    (.fail "end")
    (.chk ((true = true ∧ (0 : Nat) ≤ ([] : List Int).length ∧ (0 : Nat) ≤ (0 : Nat)) ∧ True)
    (.chk ((0 : Nat) ≤ (1000000000 : Nat) ∧
  Bs (sym.cutL [] (0 : Nat) (0 : Nat) [IntKind.u8].length))
    (.br (decide
  (gE (sym.cutL [] (0 : Nat) (0 : Nat) [IntKind.u8].length) =
    (0 : Int)))
     (.br ((0 : Int) != (0 : Int))
      (.chk (IntKind.i64 = IntKind.i64 ∧ (0 : Int) = (0 : Int))
      (.leaf (.inr (.inr ⟨(0 : Int)⟩))))
      (.br (decide
  ((↑(gN
          (sym.cutL [] (0 : Nat) (0 : Nat) [IntKind.u8].length)) :
      Int) >
    (↑(ln - (0 : Nat)) : Int)))
       (.chk (IntKind.i64 = IntKind.i64 ∧ (6 : Int) = (6 : Int))
       (.leaf (.inr (.inr ⟨(6 : Int)⟩))))
       (.br (decide
  ((↑(gN
          (sym.cutL [] (0 : Nat) (0 : Nat) [IntKind.u8].length)) :
      Int) >
    (↑(0 : Nat) : Int)))
        (.chk (IntKind.i64 = IntKind.i64 ∧ (2 : Int) = (2 : Int))
        (.leaf (.inr (.inr ⟨(2 : Int)⟩))))
        (.chk ((0 : Int) ≤ (↑(0 : Nat) : Int) ∧
  (↑(0 : Nat) : Int) ≤
      (↑(gN
            (sym.cutL [] (0 : Nat) (0 : Nat) [IntKind.u8].length)) :
        Int) ∧
    (↑(gN
            (sym.cutL [] (0 : Nat) (0 : Nat) [IntKind.u8].length)) :
        Int) ≤
      (↑(0 : Nat) : Int))
        (.chk ((true = true ∧ (1 : Nat) ≤ ([] : List Int).length ∧ (0 : Nat) ≤ (0 : Nat)) ∧
  nl = nl ∧ (sym.cutO o lc (0 : Nat) + (ln - (0 : Nat))) * [IntKind.u8].length ≤ R.length)
        (.chk ((0 : Int) ≤
    (↑(gN
          (sym.cutL [] (0 : Nat) (0 : Nat) [IntKind.u8].length)) :
      Int) ∧
  (↑(gN
            (sym.cutL [] (0 : Nat) (0 : Nat) [IntKind.u8].length)) :
        Int) ≤
      (↑(ln - (0 : Nat)) : Int) ∧
    (↑(ln - (0 : Nat)) : Int) ≤ (↑(lc - (0 : Nat)) : Int))
        (.chk ((0 : Int) ≤
    (↑(gN
          (sym.cutL [] (0 : Nat) (0 : Nat) [IntKind.u8].length)) :
      Int) ∧
  (↑(gN
            (sym.cutL [] (0 : Nat) (0 : Nat) [IntKind.u8].length)) :
        Int) ≤
      (↑(0 : Nat) : Int) ∧
    (↑(0 : Nat) : Int) ≤ (↑(0 : Nat) : Int))
        (.fail "next"))))))))
     (.br (gE (sym.cutL [] (0 : Nat) (0 : Nat) [IntKind.u8].length) !=
  (0 : Int))
      (.chk (IntKind.i64 = IntKind.i64 ∧
  gE (sym.cutL [] (0 : Nat) (0 : Nat) [IntKind.u8].length) =
    gE (sym.cutL [] (0 : Nat) (0 : Nat) [IntKind.u8].length))
      (.leaf (.inr (.inr ⟨gE (sym.cutL [] (0 : Nat) (0 : Nat) [IntKind.u8].length)⟩))))
      (.br (decide ((0 : Int) > (↑(ln - (0 : Nat)) : Int)))
       (.chk (IntKind.i64 = IntKind.i64 ∧ (6 : Int) = (6 : Int))
       (.leaf (.inr (.inr ⟨(6 : Int)⟩))))
       (.br (decide ((0 : Int) > (↑(0 : Nat) : Int)))
        (.chk (IntKind.i64 = IntKind.i64 ∧ (2 : Int) = (2 : Int))
        (.leaf (.inr (.inr ⟨(2 : Int)⟩))))
        (.chk ((0 : Int) ≤ (↑(0 : Nat) : Int) ∧ (↑(0 : Nat) : Int) ≤ (0 : Int) ∧ (0 : Int) ≤ (↑(0 : Nat) : Int))
        (.chk ((true = true ∧ (0 : Nat) ≤ ([] : List Int).length ∧ (0 : Nat) ≤ (0 : Nat)) ∧
  nl = nl ∧ (sym.cutO o lc (0 : Nat) + (ln - (0 : Nat))) * [IntKind.u8].length ≤ R.length)
        (.chk ((0 : Int) ≤ (0 : Int) ∧ (0 : Int) ≤ (↑(ln - (0 : Nat)) : Int) ∧ (↑(ln - (0 : Nat)) : Int) ≤ (↑(lc - (0 : Nat)) : Int))
        (.chk ((0 : Int) ≤ (0 : Int) ∧ (0 : Int) ≤ (↑(0 : Nat) : Int) ∧ (↑(0 : Nat) : Int) ≤ (↑(0 : Nat) : Int))
        (.fail "next")))))))))))))))))) := by kernel_rfl
def ldMu (w : World) (A : Option Addr) (X : List Int) (n cap : Nat) (A2 : Option Addr) (Y : List Int) (m cap2 : Nat) (p : ldP) (x : ldX) : Nat := x.q
theorem ld_step (w : World) (w : World) (A : Option Addr) (X : List Int) (n cap : Nat) (A2 : Option Addr) (Y : List Int) (m cap2 : Nat) (p : ldP) (x : ldX)  (h : ldInv w A X n cap A2 Y m cap2 p x) : Hid (roundT Try.prog w (flatT Try.prog) (noCtr) (callT Try.prog w (flatT Try.prog) (noCtr) (preOf w tab4) (noLoop) 20) ((noLoop) 23) (roundOf (bodyAt Try.prog 23 0)) 0 1 ldRo ldRf ldRb (ldSt w A X n cap A2 Y m cap2 p) (ldFin w A X n cap A2 Y m cap2 p) (ldBck w A X n cap A2 Y m cap2 p) ldNxX ldNxY ldNxZ x) (Kept (ldInv w A X n cap A2 Y m cap2 p) (ldPost w A X n cap A2 Y m cap2 p) (ldBack w A X n cap A2 Y m cap2 p) (ldMu w A X n cap A2 Y m cap2 p) x) := by
  obtain ⟨nl, r, d⟩ := p
  obtain ⟨R, o, ln, lc, P, Q, q, qc⟩ := x
  constructor
  rw [ldstep_tree]
  simp only [T.holds, Kept, ldMu, and_self, true_and, and_true]
  obtain ⟨rl, rd, nil, ⟨big, big2⟩, l1, l2, l3, hQ, hc, hb, eq⟩ := h
  simp only at rl rd nil big big2 l1 l2 l3 hQ hc hb eq
  have hq : Q.length = q := by simpa using hQ.1
  simp only [List.length_singleton, Int.toNat_natCast, Nat.mul_one, Nat.sub_zero, Nat.zero_add, Nat.add_zero, Nat.zero_mul, List.drop_zero, cut_n hq, true_and, and_true, and_self, decide_eq_true_eq, decide_eq_false_iff_not, bne_iff_ne, ne_eq, Bool.not_eq_true, bne_eq_false_iff_eq, not_true_eq_false, false_implies, true_implies]
  have err : ∀ e : Int, e ≠ 0 → lay (false) (r - ln) R Q = (e, []) → ldBack w A X n cap A2 Y m cap2 ⟨nl, r, d⟩ ⟨e⟩ := fun e h1 h2 => ⟨h1, by rw [← eq]; exact h2⟩
  refine ⟨⟨hQ, hc⟩, ⟨by omega, hb⟩, fun hE => ⟨fun hs => err 6 (by decide) (lay_size hE (by omega)), fun hs => ?_⟩, fun hE => ⟨fun _ => err _ hE (lay_err hE), fun h => absurd h hE⟩⟩
  have hK := gE_len hE
  have hK1 := gK_pos Q
  have hlay := lay_f (i := r - ln) (xs := R) hE (by omega)
  have x1 := xr_cut (l := gK Q) hQ hc (by omega) (Nat.le_refl q)
  simp only [List.length_singleton, cut_n hq] at x1
  refine ⟨⟨by omega, by omega, by omega⟩, fun h0 => ⟨rl, ?_⟩, fun h0 => ?_⟩
  · have h0 : ((ln - gN Q : Nat) : Int) = 0 := by simpa using h0
    show lay false 0 X Y = if q - gK Q = 0 then (0, R) else (3, [])
    rw [← eq, hlay, if_pos (by omega)]
    by_cases h1 : q - gK Q = 0
    · rw [if_pos h1, if_pos (by omega)]
    · rw [if_neg h1, if_neg (by omega)]
  have h0 : ¬ ((ln - gN Q : Nat) : Int) = 0 := by simpa using h0
  rw [if_neg (by omega)] at hlay
  have hq1 : (Q.drop (gK Q)).length = q - gK Q := by rw [List.length_drop]; omega
  have hb1 := hb.drop (gK Q)
  have co : cutO o lc (gN Q) = r - ln + gN Q := by unfold cutO; rw [if_neg (by omega)]; omega
  rw [co]
  simp only [cut_n hq1]
  have err1 : ∀ e : Int, e ≠ 0 → lay true (r - ln + gN Q) R (Q.drop (gK Q)) = (e, []) → ldBack w A X n cap A2 Y m cap2 ⟨nl, r, d⟩ ⟨e⟩ := fun e h1 h2 => err e h1 (hlay.trans h2)
  generalize Q.drop (gK Q) = Q1 at *
  generalize gK Q = K1 at *
  generalize gN Q = N1 at *
  refine ⟨⟨x1, by omega⟩, ⟨by omega, hb1⟩, fun hE1 => ⟨fun hs1 => err1 6 (by decide) (lay_size hE1 (by omega)), fun hs1 => ⟨fun h2 => ?_, fun h2 => ?_⟩⟩, fun hE1 => ⟨fun _ => err1 _ hE1 (lay_err hE1), fun h => absurd h hE1⟩⟩
  all_goals
    have hK2 := gE_len hE1
    have hK3 := gK_pos Q1
    have hlay1 := lay_t (i := r - ln + N1) (xs := R) hE1 (by omega)
  · rw [if_pos (by omega)] at hlay1
    exact err1 2 (by decide) hlay1
  rw [if_neg (by omega)] at hlay1
  have x2 := xr_cut (cap := qc - K1) (l := gK Q1) x1 (by omega) (by omega) (Nat.le_refl _)
  simp only [List.length_singleton, cut_n hq1] at x2
  have hq2 : (Q1.drop (gK Q1)).length = q - K1 - gK Q1 := by rw [List.length_drop]; omega
  have x3 := xr_cut (cap := qc - K1 - gK Q1) (l := 0) (h := gN Q1) x2 (by omega) (by omega) (by omega)
  have x4 := xr_cut (cap := qc - K1 - gK Q1) (l := gN Q1) x2 (by omega) (by omega) (Nat.le_refl _)
  simp only [List.length_singleton, cut_n hq2, cut1, List.drop_zero, Nat.sub_zero, List.drop_drop] at x3 x4
  have hmin : min (gN Q1) (ln - N1) = gN Q1 := Nat.min_eq_left (by omega)
  have htl : (List.take (gN Q1) (List.drop (gK Q1) Q1)).length = gN Q1 := by rw [List.length_take]; omega
  simp only [cut_n hq2, cut1, List.drop_zero, Nat.sub_zero, Nat.add_zero, hmin, List.drop_drop]
  have hsp : List.take (r - ln + N1) R ++ List.take (gN Q1) (List.take (gN Q1) (List.drop (gK Q1) Q1)) ++ List.drop (r - ln + N1 + gN Q1) R = splice R (r - ln + N1) (List.take (gN Q1) (List.drop (gK Q1) Q1)) := by
    unfold splice
    rw [htl, List.take_of_length_le (by omega : (List.take (gN Q1) (List.drop (gK Q1) Q1)).length ≤ gN Q1)]
  have htk : List.take (q - K1 - gK Q1 - gN Q1) (List.drop (gK Q1 + gN Q1) Q1) = List.drop (gK Q1 + gN Q1) Q1 := List.take_of_length_le (by rw [List.length_drop]; omega)
  rw [hsp]
  try rw [htk]
  refine ⟨⟨by omega, by omega, by omega, by omega⟩, ⟨⟨x3, by omega⟩, by omega⟩, ⟨by omega, by omega, by omega⟩, ⟨by omega, by omega, by omega, by omega⟩, ⟨?_, rd, nil, ⟨big, ?_⟩, ?_, ?_, ?_, x4, ?_, hb1.drop _, ?_⟩, by omega⟩
  · show (splice R (r - ln + N1) _).length = r
    rw [splice_length (by rw [htl]; omega), rl]
  · show q - K1 - gK Q1 - gN Q1 ≤ 1000000000; omega
  · show ln - N1 - gN Q1 ≤ lc - N1 - gN Q1; omega
  · show cutO (r - ln + N1) (lc - N1) (gN Q1) + (ln - N1 - gN Q1) ≤ r
    unfold cutO
    split <;> omega
  · show ln - N1 - gN Q1 = 0 ∨ cutO (r - ln + N1) (lc - N1) (gN Q1) = r - (ln - N1 - gN Q1)
    unfold cutO
    split <;> omega
  · show q - K1 - gK Q1 - gN Q1 ≤ qc - K1 - gK Q1 - gN Q1; omega
  · show lay false (r - (ln - N1 - gN Q1)) (splice R (r - ln + N1) (List.take (gN Q1) (List.drop (gK Q1) Q1))) (List.drop (gK Q1 + gN Q1) Q1) = _
    rw [← eq, hlay, hlay1, show r - (ln - N1 - gN Q1) = r - ln + N1 + gN Q1 by omega]
theorem ldLp_ok (w : World) (w : World) (A : Option Addr) (X : List Int) (n cap : Nat) (A2 : Option Addr) (Y : List Int) (m cap2 : Nat)  : (ldLp w A X n cap A2 Y m cap2).ok Try.prog w := by
  intro s t h
  unfold ldLp at h
  simp only at h
  split at h
  · rename_i p _
    split at h
    · rename_i x _
      cases h
      exact loop_ok base2 (ctrs_none _ w) (callT_ok base2.mixed base2.names base2.eqs (ctrs_none _ w).ok (ctrs_none _ w).there (preOf_ok tab4_ok w) (loops_none _ _) 20) ((loops_none _ _) 23) (c := roundOf (bodyAt Try.prog 23 0)) (by kernel_rfl) (id := 0) (n := 1) (hr := true) (ro := ldRo) (rf := ldRf) (rr := ldRb) (st := ldSt w A X n cap A2 Y m cap2 p) (fin := ldFin w A X n cap A2 Y m cap2 p) (bck := ldBck w A X n cap A2 Y m cap2 p) (inv := ldInv w A X n cap A2 Y m cap2 p) (post := ldPost w A X n cap A2 Y m cap2 p) (back := ldBack w A X n cap A2 Y m cap2 p) (nx := ldNxX) (fx := ldNxY) (bx := ldNxZ) (ldMu w A X n cap A2 Y m cap2 p) (nf := 1) (nf' := 1) (nf'' := 1) (fun x => by kernel_rfl) (fun y => by kernel_rfl) (fun z => by kernel_rfl) (.inl rfl) (fun x hx => ld_step w w A X n cap A2 Y m cap2 p x  hx) s x
    · cases h
  · cases h
theorem laid_tree (w : World) (A : Option Addr) (X : List Int) (n cap : Nat) (A2 : Option Addr) (Y : List Int) (m cap2 : Nat) :
    callT Try.prog w (flatT Try.prog) (noCtr) (preOf w tab4) (lpOf Try.prog [ldLp w A X n cap A2 Y m cap2]) 20 23 [.v (.one (.xr A [.u8] X n cap)), .v (.one (.xr A2 [.u8] Y m cap2))] [] =
(.chk ((sym.XR w A [IntKind.u8] X n ∧ n ≤ cap) ∧ True)
(.chk (n ≤ (1000000000 : Nat))
(.all fun x : RowR n =>
 (.chk (sym.textAt Go.Proofs.Try.prog (23 : Go.FuncId) (0 : Nat) = sym.textAt Go.Proofs.Try.prog (23 : Go.FuncId) (0 : Nat))
 (.chk (A2 = A2 ∧ [IntKind.u8] = [IntKind.u8] ∧ Y = Y ∧ m = m ∧ cap2 = cap2)
 (.chk (x.nl = x.nl ∧ [IntKind.u8].length = (1 : Nat) ∧ (0 : Nat) = (0 : Nat) ∧ n = n ∧ x.cap = x.cap)
 (.chk (x.nl = x.nl ∧ [IntKind.u8].length = (1 : Nat) ∧ (0 : Nat) = (0 : Nat) ∧ n = n ∧ x.cap = x.cap)
 (.chk (x.nl = x.nl ∧ [IntKind.u8] = [IntKind.u8] ∧ X = X ∧ x.cap = x.cap)
 (.chk (ldInv w A X n cap A2 Y m cap2 { nl := x.nl, r := n, d := x.cap }
  { R := X, o := (0 : Nat), ln := n, lc := x.cap, P := A2, Q := Y, q := m, qc := cap2 })
 (.all fun x_1 : Bool =>
  (.br (x_1)
   (.all fun x_2 : sym.Got ldY
  (ldPost w A X n cap A2 Y m cap2 { nl := x.nl, r := n, d := x.cap }) =>
    (.br (decide ((↑x_2.1.4 : Int) > (0 : Int)))
     (.leaf ((.tuple [(.one .nos), (.one (.int true .i64 (3)))]), [⟨[(.row (x.nl) ([IntKind.u8]) (x_2.1.1) (x.cap))], 5⟩]))
     (.leaf ((.tuple [(.one (.gs 0 (x.nl) 1 0 (n) (x.cap))), (.one (.int true .i64 (0)))]), [⟨[(.row (x.nl) ([IntKind.u8]) (x_2.1.1) (x.cap))], 5⟩]))))
   (.all fun x_2 : sym.Got ldZ
  (ldBack w A X n cap A2 Y m cap2 { nl := x.nl, r := n, d := x.cap }) =>
    (.leaf ((.tuple [(.one .nos), (.one (.int false .i64 (x_2.1.1)))]), [⟨[.dead], 5⟩])))))))))))))) := by kernel_rfl
def laidC : RCtr := ⟨23, [some [.u8], some [.u8]], fun | [.row [.u8] n xs, .row [.u8] m ys] => some (.chk (n ≤ 16000 ∧ m ≤ 1000000000 ∧ Bs ys) (.br (decide ((lay false 0 xs ys).1 = 0)) (.all fun g : RowR n => .leaf [.row g.nl 5 [.u8] (lay false 0 xs ys).2 n g.cap, .av (.one (.int false .i64 0))]) (.leaf [.row true 5 [.u8] [] 0 0, .av (.one (.int false .i64 (lay false 0 xs ys).1))]))) | _ => none⟩
theorem laidC_ok : laidC.Ok Try.prog := by
  refine rctr_ok base2 ⟨_, Try.func23, rfl⟩ (ctr := fun w => noCtr) (fun w => ctrs_none _ w) (pre := fun w => preOf w tab4) (fun w => preOf_ok tab4_ok w) (n := 20) fun w cas args t h ha K hK => ?_
  unfold laidC at h
  simp only at h
  split at h
  · cases h
    obtain ⟨y0, y1, rfl, q0, q1⟩ := all2_2 ha
    obtain ⟨A, c, rfl, hX, hc⟩ := argRow q0
    obtain ⟨A2, c2, rfl, hY, hc2⟩ := argRow q1
    rename_i n X m Y
    obtain ⟨⟨big, big2, hb⟩, hK⟩ := hK
    refine ⟨lpOf Try.prog [ldLp w A X n c A2 Y m c2], lps_ok fun l hl => ?_, ?_⟩
    · simp only [List.mem_cons, List.not_mem_nil, or_false] at hl
      subst hl
      exact ldLp_ok w w A X n c A2 Y m c2
    rw [show laidC.f = 23 from rfl, laid_tree]
    have hn : X.length = n := by simpa using hX.1
    simp only [T.holds, and_self, true_and, and_true, List.length_singleton]
    have bad : ∀ (e : Int) (lit : Bool) (h' : List Blk), e ≠ 0 → lay false 0 X Y = (e, []) → ∃ rs ys, K rs ∧ AV.tuple [.one .nos, .one (.int lit .i64 e)] = packA ys ∧ All2 (OutIs [.v (.one (.xr A [.u8] X n c)), .v (.one (.xr A2 [.u8] Y m c2))] h') rs ys := by
      intro e lit h' he hl
      exact ⟨_, [_, _], hK.2 (by simp [hl, he]), rfl, .cons .nil (.cons (.av rfl fun _ => by rw [hl]; rfl) .nil)⟩
    refine ⟨⟨hX, hc⟩, by omega, fun g => ⟨⟨hn, ⟨g.le, g.max⟩, g.nil, ⟨big, big2⟩, g.le, by show 0 + n ≤ n; omega, .inr (by show 0 = n - n; omega), hY, hc2, hb, by show lay false (n - n) X Y = _; rw [Nat.sub_self]⟩, fun b => ⟨fun _ y => ⟨fun hgt => ?_, fun hle => ?_⟩, fun _ z => bad _ _ _ z.so.ne z.so.eq⟩⟩⟩
    · have hgt := of_decide_eq_true hgt
      exact bad 3 _ _ (by decide) (by rw [y.so.eq, if_neg (by omega)])
    · have hle := of_decide_eq_false hle
      have e := y.so.eq
      rw [if_pos (by omega)] at e
      have hK := hK.1 (by simp [e]) g
      rw [e] at hK
      exact ⟨_, [_, _], hK, rfl, .cons (.row (r := 0) rfl g.nil) (.cons (.av rfl fun _ => rfl) .nil)⟩
  · cases h
end Go.Proofs.Ytcfnfihemejjkaa
