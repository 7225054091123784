/-
  Contracts of the document's side: bytes that are peeked, names, two numbers; and of orders that are copied. Conditions stand in each theorem.
-/
import Derived.Test.YtmbahohmiecfiaaR4
import Derived.Test.YtmbahohmiecfiaaR5
namespace Go.Proofs.Ytmbahohmiecfiaa
open Go.RowKit sym
set_option linter.unusedVariables false
set_option linter.unusedSimpArgs false
set_option maxRecDepth 100000
def I6 (x : Int) : Prop := -9223372036854775808 ≤ x ∧ x ≤ 9223372036854775807
/-- Registers as they can be. -/
def RgB (qa qf qb qc qd qe qh ql sp pc ad va ki ba : Int) : Prop := (B qa ∧ B qf ∧ B qb ∧ B qc ∧ B qd ∧ B qe ∧ B qh ∧ B ql) ∧ (W sp ∧ W pc) ∧ I6 ad ∧ I6 va ∧ I6 ki ∧ I6 ba
def evV (qa qf qb qc qd qe qh ql sp pc ad va ki ba : Int) (AB : Option Addr) (Bx : List Int) (nb cb : Nat) : Value := V.γ [] (.agg [.int false .u8 qa, .int false .u8 qf, .int false .u8 qb, .int false .u8 qc, .int false .u8 qd, .int false .u8 qe, .int false .u8 qh, .int false .u8 ql, .int false .u16 sp, .int false .u16 pc, .int false .i64 ad, .int false .i64 va, .int false .i64 ki, .int false .i64 ba, .xr AB [.u8] Bx nb cb])
/-- A byte of bytes that go on and on. -/
def pkL (Bx : List Int) (nb : Nat) (x : Int) : Int := if nb = 0 then 0 else if nb = 65536 then Bx.getD x.toNat 0 else Bx.getD (((x + x / 256) % (nb : Int)).toNat) 0
def rtwoC : Ctr := ⟨27, fun | [.v (.one (.int _ .i64 op)), .v (.one (.int _ .i64 x)), .v (.one (.int _ .i64 y))] => some (.chk (7 ≤ op ∧ op ≤ 24 ∧ I6 x ∧ I6 y) (.leaf (.tuple [.one (.int false .i64 (twoL op x y).1), .one (.int false .i64 (twoL op x y).2)]))) | _ => none⟩
def rnameC : Ctr := ⟨25, fun | [.v (.agg [.int _ .u8 qa, .int _ .u8 qf, .int _ .u8 qb, .int _ .u8 qc, .int _ .u8 qd, .int _ .u8 qe, .int _ .u8 qh, .int _ .u8 ql, .int _ .u16 sp, .int _ .u16 pc, .int _ .i64 ad, .int _ .i64 va, .int _ .i64 ki, .int _ .i64 ba, .xr _ [.u8] _ _ _]), .v (.one (.int _ .i64 n))] => some (.chk (RgB qa qf qb qc qd qe qh ql sp pc ad va ki ba ∧ 0 ≤ n ∧ n < 18) (.leaf (.v (.one (.int false .i64 (nameL qa qf qb qc qd qe qh ql sp pc ad va ki ba n)))))) | _ => none⟩
def rtabC : List Ctr := [rtwoC, rnameC]
theorem xr_later {w0 w : World} {a : Option Addr} {ks : List IntKind} {xs : List Int} {n : Nat} (h : XR w0 a ks xs n) (hb : Below w0.heap.size w0 w) : XR w a ks xs n := ⟨h.1, fun j hj => by
  obtain ⟨b, off, e, hlt, hc⟩ := h.2 j hj
  exact ⟨b, off, e, Nat.lt_of_lt_of_le hlt hb.size, by rw [hb.cell (p := ⟨b, off + j, none⟩) hlt, hc]⟩⟩
theorem peek17_tree (w : World) (x : Int) (qa qf qb qc qd qe qh ql sp pc : Int) (ad va ki ba : Int) (AB : Option Addr) (Bx : List Int) (nb cb : Nat) :
    callV Try.prog w (flatT Try.prog) (noCtr) (noPre) (noLoop) 20 17 [.v (.agg [.int false .u8 qa, .int false .u8 qf, .int false .u8 qb, .int false .u8 qc, .int false .u8 qd, .int false .u8 qe, .int false .u8 qh, .int false .u8 ql, .int false .u16 sp, .int false .u16 pc, .int false .i64 ad, .int false .i64 va, .int false .i64 ki, .int false .i64 ba, .xr AB [.u8] Bx nb cb]), .v (.one (.int false .u16 x))] =
(.br ((↑nb : Int) == (0 : Int))
 (.leaf (.v (.one (.int true .u8 (0)))))
 (.br ((↑nb : Int) == (65536 : Int))
  (.chk (sym.XR w AB [IntKind.u8] Bx nb ∧
  (0 : Int) ≤ x ∧ x < (↑nb : Int) ∧ (0 : Nat) < [IntKind.u8].length)
  (.chk (sym.XC w AB [IntKind.u8] Bx ∧
  (0 : Nat) < (1 : Nat) ∧ x.toNat * [IntKind.u8].length + (1 : Nat) ≤ Bx.length)
  (.leaf (.v (.one (.int false .u8 (Bx.getD (x.toNat * [IntKind.u8].length + (0 : Nat)) (0 : Int))))))))
  (.chk ((↑nb : Int) ≠ (0 : Int))
  (.chk (sym.XR w AB [IntKind.u8] Bx nb ∧
  (0 : Int) ≤
      (IntKind.i64.wrap
            (IntKind.i64.wrap x + IntKind.i64.wrap ((IntKind.i64.wrap x).tdiv (256 : Int)))).tmod
        (↑nb : Int) ∧
    (IntKind.i64.wrap (IntKind.i64.wrap x + IntKind.i64.wrap ((IntKind.i64.wrap x).tdiv (256 : Int)))).tmod
          (↑nb : Int) <
        (↑nb : Int) ∧
      (0 : Nat) < [IntKind.u8].length)
  (.chk (sym.XC w AB [IntKind.u8] Bx ∧
  (0 : Nat) < (1 : Nat) ∧
    ((IntKind.i64.wrap (IntKind.i64.wrap x + IntKind.i64.wrap ((IntKind.i64.wrap x).tdiv (256 : Int)))).tmod
              (↑nb : Int)).toNat *
          [IntKind.u8].length +
        (1 : Nat) ≤
      Bx.length)
  (.leaf (.v (.one (.int false .u8 (Bx.getD
  (((IntKind.i64.wrap (IntKind.i64.wrap x + IntKind.i64.wrap ((IntKind.i64.wrap x).tdiv (256 : Int)))).tmod
          (↑nb : Int)).toNat *
      [IntKind.u8].length +
    (0 : Nat))
  (0 : Int))))))))))) := by kernel_rfl
theorem pk_val {x nb : Int} (h0 : 0 ≤ x) (h1 : x < 65536) (hn : 0 < nb) : (IntKind.i64.wrap (IntKind.i64.wrap x + IntKind.i64.wrap ((IntKind.i64.wrap x).tdiv 256))).tmod nb = (x + x / 256) % nb := by
  rw [wi64 x (by omega) (by omega), Int.tdiv_eq_ediv_of_nonneg h0, wi64 (x / 256) (by omega) (by omega), wi64 _ (by omega) (by omega), Int.tmod_eq_emod_of_nonneg (by omega)]
theorem rpk_ok {w0 : World} (qa qf qb qc qd qe qh ql sp pc : Int) (ad va ki ba : Int) (AB : Option Addr) (Bx : List Int) (nb cb : Nat) (hX : XR w0 AB [.u8] Bx nb) : (rpkC (evV qa qf qb qc qd qe qh ql sp pc ad va ki ba AB Bx nb cb) (pkL Bx nb)).Ok Try.prog w0 := by
  refine ⟨⟨_, Try.func17, rfl⟩, fun w hw cas us t ht ha K hK => ?_⟩
  unfold rpkC at ht
  simp only at ht
  split at ht
  · rename_i y _ x
    cases ht
    obtain ⟨⟨hy, hx0, hx1⟩, hK⟩ := hK
    obtain ⟨u0, u1, rfl, g0, g1⟩ := all2_2 ha
    obtain ⟨_, rfl⟩ := g0
    obtain ⟨_, rfl⟩ := g1
    have hX' := xr_later hX hw
    have hl : Bx.length = nb := by simpa using hX.1
    have hv := val_eq base2 (ctrs_none _ w) (pre_none _ _) (loops_none _ _) (peek17_tree w x qa qf qb qc qd qe qh ql sp pc ad va ki ba AB Bx nb cb) rfl (v := .int .u8 (pkL Bx nb x)) (by
      simp only [T.holds, List.length_singleton, Nat.mul_one, Nat.add_zero, beq_iff_eq, beq_eq_false_iff_ne, ne_eq]
      refine ⟨fun h => ⟨rfl, ?_⟩, fun h => ⟨fun h2 => ?_, fun h2 => ?_⟩⟩
      · have : nb = 0 := by omega
        unfold pkL
        rw [if_pos this]
        rfl
      · have h2 : nb = 65536 := by omega
        refine ⟨⟨hX', hx0, by omega, by decide⟩, ⟨hX'.2, by decide, by omega⟩, rfl, ?_⟩
        unfold pkL
        rw [if_neg (by omega), if_pos h2]
        rfl
      · rw [pk_val hx0 hx1 (by omega)]
        have e0 := Int.emod_nonneg (x + x / 256) (show (nb : Int) ≠ 0 by omega)
        have e1 := Int.emod_lt_of_pos (x + x / 256) (show (0 : Int) < nb by omega)
        refine ⟨h, ⟨hX', e0, e1, by decide⟩, ⟨hX'.2, by decide, by omega⟩, rfl, ?_⟩
        unfold pkL
        rw [if_neg (by omega), if_neg (by omega)]
        rfl)
    refine (show Calls Try.prog 17 #[AV.γ [] (.v y), .int .u16 x] w _ from ?_)
    rw [show AV.γ [] (.v y) = evV qa qf qb qc qd qe qh ql sp pc ad va ki ba AB Bx nb cb from hy]
    exact hv.mono fun e w' ⟨he, hb⟩ => ⟨_, [_], hK, .cons ⟨rfl, rfl⟩ .nil, he, hb⟩
  · cases ht
theorem and240 : ∀ n : Nat, n < 256 → bits .and .u8 (n : Int) 240 = ((n / 16 * 16 : Nat) : Int) := by decide +kernel
theorem f16 {f : Int} (h : B f) : IntKind.u8.wrap (IntKind.u8.wrap (f.tdiv 16) * 16) = bits .and .u8 f 240 := by
  obtain ⟨n, rfl⟩ := Int.eq_ofNat_of_zero_le h.1
  have := h.2
  rw [and240 n (by omega), Int.tdiv_eq_ediv_of_nonneg (by omega), wu8, wu8]
  omega
theorem pr16 {a b : Int} (ha : B a) (hb : B b) : IntKind.i64.wrap (IntKind.i64.wrap (256 * IntKind.i64.wrap a) + IntKind.i64.wrap b) = IntKind.i64.wrap (bits .or .u16 (IntKind.u16.wrap (IntKind.u16.wrap a * (2 : Int) ^ (8 : Nat))) (IntKind.u16.wrap b)) := by
  obtain ⟨a0, a1⟩ := ha
  obtain ⟨b0, b1⟩ := hb
  have e2 : (2 : Int) ^ (8 : Nat) = 256 := rfl
  rw [e2, wu16 a, wu16 b, wu16 (a % 65536 * 256), show a % 65536 * 256 % 65536 = 256 * a by omega, show b % 65536 = b by omega]
  rw [bits_join .u16 16 (by decide) (fun n h0 h1 => by rw [wu16]; have h1 : n < 65536 := h1; omega) 8 (256 * a) b (by omega) (by show 256 * a % 256 = 0; omega) (by show 256 * a < 65536; omega) b0 (by show b < 256; omega) (by show b < 65536; omega)]
  rw [wi64 a (by omega) (by omega), wi64 (256 * a) (by omega) (by omega), wi64 b (by omega) (by omega)]
theorem and_B (f : Int) (h : B f) : B (bits .and .u8 f 240) := by
  obtain ⟨n, rfl⟩ := Int.eq_ofNat_of_zero_le h.1
  have := h.2
  rw [and240 n (by omega)]
  exact ⟨by omega, by omega⟩
theorem rname_tree (w : World) (n : Int) (qa qf qb qc qd qe qh ql sp pc : Int) (ad va ki ba : Int) (AB : Option Addr) (Bx : List Int) (nb cb : Nat) :
    callV Try.prog w (flatT Try.prog) (noCtr) (noPre) (noLoop) 20 25 [.v (.agg [.int false .u8 qa, .int false .u8 qf, .int false .u8 qb, .int false .u8 qc, .int false .u8 qd, .int false .u8 qe, .int false .u8 qh, .int false .u8 ql, .int false .u16 sp, .int false .u16 pc, .int false .i64 ad, .int false .i64 va, .int false .i64 ki, .int false .i64 ba, .xr AB [.u8] Bx nb cb]), .v (.one (.int false .i64 n))] =
(.br (n == (0 : Int))
 (.leaf (.v (.one (.int false .i64 (IntKind.i64.wrap qa)))))
 (.br (n == (1 : Int))
  (.leaf (.v (.one (.int false .i64 (IntKind.i64.wrap (IntKind.u8.wrap (IntKind.u8.wrap (qf.tdiv (16 : Int)) * (16 : Int))))))))
  (.br (n == (2 : Int))
   (.leaf (.v (.one (.int false .i64 (IntKind.i64.wrap qb)))))
   (.br (n == (3 : Int))
    (.leaf (.v (.one (.int false .i64 (IntKind.i64.wrap qc)))))
    (.br (n == (4 : Int))
     (.leaf (.v (.one (.int false .i64 (IntKind.i64.wrap qd)))))
     (.br (n == (5 : Int))
      (.leaf (.v (.one (.int false .i64 (IntKind.i64.wrap qe)))))
      (.br (n == (6 : Int))
       (.leaf (.v (.one (.int false .i64 (IntKind.i64.wrap qh)))))
       (.br (n == (7 : Int))
        (.leaf (.v (.one (.int false .i64 (IntKind.i64.wrap ql)))))
        (.br (n == (8 : Int))
         (.leaf (.v (.one (.int false .i64 (IntKind.i64.wrap
  (IntKind.i64.wrap ((256 : Int) * IntKind.i64.wrap qa) +
    IntKind.i64.wrap (IntKind.u8.wrap (IntKind.u8.wrap (qf.tdiv (16 : Int)) * (16 : Int)))))))))
         (.br (n == (9 : Int))
          (.leaf (.v (.one (.int false .i64 (IntKind.i64.wrap (IntKind.i64.wrap ((256 : Int) * IntKind.i64.wrap qb) + IntKind.i64.wrap qc))))))
          (.br (n == (10 : Int))
           (.leaf (.v (.one (.int false .i64 (IntKind.i64.wrap (IntKind.i64.wrap ((256 : Int) * IntKind.i64.wrap qd) + IntKind.i64.wrap qe))))))
           (.br (n == (11 : Int))
            (.leaf (.v (.one (.int false .i64 (IntKind.i64.wrap (IntKind.i64.wrap ((256 : Int) * IntKind.i64.wrap qh) + IntKind.i64.wrap ql))))))
            (.br (n == (12 : Int))
             (.leaf (.v (.one (.int false .i64 (IntKind.i64.wrap sp)))))
             (.br (n == (13 : Int))
              (.leaf (.v (.one (.int false .i64 (IntKind.i64.wrap pc)))))
              (.br (n == (14 : Int))
               (.leaf (.v (.one (.int false .i64 (ad)))))
               (.br (n == (15 : Int))
                (.leaf (.v (.one (.int false .i64 (va)))))
                (.br (n == (16 : Int))
                 (.leaf (.v (.one (.int false .i64 (ki)))))
                 (.leaf (.v (.one (.int false .i64 (ba)))))))))))))))))))))) := by kernel_rfl
theorem rnameC_ok (w0 : World) : rnameC.ok Try.prog w0 := by
  refine ⟨⟨_, Try.func25, rfl⟩, fun args t ht => ?_⟩
  unfold rnameC at ht
  simp only at ht
  split at ht
  · cases ht
    refine ⟨rfl, fun K hK => ⟨_, hK.2, rfl, fun w _ => ?_⟩⟩
    obtain ⟨⟨⟨⟨ba, bf, bb, bc, bd, be, bh, bl⟩, _⟩, hn⟩, _⟩ := hK
    refine val_eq base2 (ctrs_none _ _) (pre_none _ _) (loops_none _ _) (rname_tree w _ _ _ _ _ _ _ _ _ _ _ _ _ _ _ _ _ _ _) rfl ?_
    rw [f16 bf, pr16 ba (and_B _ bf), pr16 bb bc, pr16 bd be, pr16 bh bl]
    simp only [T.holds, beq_iff_eq, beq_eq_false_iff_ne]
    repeat' (first | exact rfl | (intro _) | (refine And.intro ?_ ?_))
    all_goals first | omega | (refine γi _ ?_) | (refine γt _ _ ?_ ?_)
    all_goals simp [nameL, pairL, *]
  · cases ht
structure slP where
  n : Int
structure slX where
  x : Int
  i : Int
structure slY where
  x : Int
def slSt (op x0 y : Int) : slP → slX → ASt := fun ⟨n⟩ ⟨x, i⟩ => ⟨slots (List.replicate 135 .any) [(0, .v (.one (.int false .i64 op))), (1, .v (.one (.int false .i64 x))), (2, .v (.one (.int false .i64 y))), (6, .v (.one (.int true .i64 0))), (7, .v (.one (.int true .i64 0))), (8, .v (.one (.int false .u64 n))), (9, .v (.one (.int false .u64 i)))], []⟩
def slFin (op x0 y : Int) : slP → slY → ASt := fun ⟨n⟩ ⟨x⟩ => ⟨slots (List.replicate 135 .any) [(0, .v (.one (.int false .i64 op))), (1, .v (.one (.int false .i64 x))), (2, .v (.one (.int false .i64 y))), (6, .v (.one (.int true .i64 0))), (7, .v (.one (.int true .i64 0)))], []⟩
def slBck (op x0 y : Int) : slP → Empty → ASt := fun _ z => nomatch z
def slNxP : ASt → Option slP := fun s => match sym.gI s 8 with | none => none | some n => some ⟨n⟩
def slNxX : ASt → Option slX := fun s => match sym.gI s 1 with | none => none | some x => match sym.gI s 9 with | none => none | some i => some ⟨x, i⟩
def slNxY : ASt → Option slY := fun s => match sym.gI s 1 with | none => none | some x => some ⟨x⟩
def slNxZ : ASt → Option Empty := fun _ => none
def slRo : ASt → List (Option Nat) := (fun _ => [])
def slRf : ASt → List (Option Nat) := (fun _ => [])
def slRb : ASt → List (Option Nat) := (fun _ => [])
structure slInv (op x0 y : Int) (p : slP) (x : slX) : Prop where
  i1 : 0 ≤ x.i ∧ x.i ≤ p.n
  n1 : p.n < 64
  xr : -9223372036854775808 ≤ x.x ∧ x.x ≤ 9223372036854775807
  eq : x.x = IntKind.i64.wrap (x0 * (2 : Int) ^ (x.i).toNat)
structure slPost (op x0 y : Int) (p : slP) (x : slY) : Prop where
  eq : x.x = IntKind.i64.wrap (x0 * (2 : Int) ^ (p.n).toNat)
def slBack (op x0 y : Int) (p : slP) (x : Empty) : Prop := False
def slLp (op x0 y : Int) : Lp := ⟨27, 1, fun s => match slNxP s with
  | some p => match slNxX s with
    | some x => some (loopT 1 0 false slRo (slSt op x0 y p) (slFin op x0 y p) (slBck op x0 y p) (slInv op x0 y p) (slPost op x0 y p) (slBack op x0 y p) s x)
    | none => none
  | none => none⟩
structure srP where
  n : Int
structure srX where
  x : Int
  i : Int
structure srY where
  x : Int
def srSt (op x0 y : Int) : srP → srX → ASt := fun ⟨n⟩ ⟨x, i⟩ => ⟨slots (List.replicate 135 .any) [(0, .v (.one (.int false .i64 op))), (1, .v (.one (.int false .i64 x))), (2, .v (.one (.int false .i64 y))), (6, .v (.one (.int true .i64 0))), (7, .v (.one (.int true .i64 0))), (8, .v (.one (.int false .u64 n))), (10, .v (.one (.int false .u64 i)))], []⟩
def srFin (op x0 y : Int) : srP → srY → ASt := fun ⟨n⟩ ⟨x⟩ => ⟨slots (List.replicate 135 .any) [(0, .v (.one (.int false .i64 op))), (1, .v (.one (.int false .i64 x))), (2, .v (.one (.int false .i64 y))), (6, .v (.one (.int true .i64 0))), (7, .v (.one (.int true .i64 0)))], []⟩
def srBck (op x0 y : Int) : srP → Empty → ASt := fun _ z => nomatch z
def srNxP : ASt → Option srP := fun s => match sym.gI s 8 with | none => none | some n => some ⟨n⟩
def srNxX : ASt → Option srX := fun s => match sym.gI s 1 with | none => none | some x => match sym.gI s 10 with | none => none | some i => some ⟨x, i⟩
def srNxY : ASt → Option srY := fun s => match sym.gI s 1 with | none => none | some x => some ⟨x⟩
def srNxZ : ASt → Option Empty := fun _ => none
def srRo : ASt → List (Option Nat) := (fun _ => [])
def srRf : ASt → List (Option Nat) := (fun _ => [])
def srRb : ASt → List (Option Nat) := (fun _ => [])
structure srInv (op x0 y : Int) (p : srP) (x : srX) : Prop where
  i1 : 0 ≤ x.i ∧ x.i ≤ p.n
  n1 : p.n < 64
  xr : -9223372036854775808 ≤ x.x ∧ x.x ≤ 9223372036854775807
  eq : x.x = x0.fdiv ((2 : Int) ^ (x.i).toNat)
structure srPost (op x0 y : Int) (p : srP) (x : srY) : Prop where
  eq : x.x = x0.fdiv ((2 : Int) ^ (p.n).toNat)
def srBack (op x0 y : Int) (p : srP) (x : Empty) : Prop := False
def srLp (op x0 y : Int) : Lp := ⟨27, 3, fun s => match srNxP s with
  | some p => match srNxX s with
    | some x => some (loopT 3 0 false srRo (srSt op x0 y p) (srFin op x0 y p) (srBck op x0 y p) (srInv op x0 y p) (srPost op x0 y p) (srBack op x0 y p) s x)
    | none => none
  | none => none⟩
theorem slstep_tree (w : World) (op x0 y : Int) (n : Int) (x : Int) (i : Int) :
    roundT Try.prog w (flatT Try.prog) (noCtr) (callT Try.prog w (flatT Try.prog) (noCtr) (noPre) (noLoop) 20) ((noLoop) 27) (roundOf (bodyAt Try.prog 27 1)) 1 0 slRo slRf slRb (slSt op x0 y ⟨n⟩) (slFin op x0 y ⟨n⟩) (slBck op x0 y ⟨n⟩) slNxX slNxY slNxZ ⟨x, i⟩ =
(.br (decide (i < n))
 (.chk (IntKind.i64 = IntKind.i64 ∧ op = op)
 (.chk (IntKind.i64 = IntKind.i64 ∧ IntKind.i64.wrap (x + x) = IntKind.i64.wrap (x + x))
 (.chk (IntKind.i64 = IntKind.i64 ∧ y = y)
 (.chk (IntKind.i64 = IntKind.i64 ∧ (0 : Int) = (0 : Int))
 (.chk (IntKind.i64 = IntKind.i64 ∧ (0 : Int) = (0 : Int))
 (.chk (IntKind.u64 = IntKind.u64 ∧ n = n)
 (.chk (IntKind.u64 = IntKind.u64 ∧ IntKind.u64.wrap (i + (1 : Int)) = IntKind.u64.wrap (i + (1 : Int)))
 (.leaf (.inl ⟨IntKind.i64.wrap (x + x), IntKind.u64.wrap (i + (1 : Int))⟩)))))))))
 (.chk (IntKind.i64 = IntKind.i64 ∧ op = op)
 (.chk (IntKind.i64 = IntKind.i64 ∧ x = x)
 (.chk (IntKind.i64 = IntKind.i64 ∧ y = y)
 (.chk (IntKind.i64 = IntKind.i64 ∧ (0 : Int) = (0 : Int))
 (.chk (IntKind.i64 = IntKind.i64 ∧ (0 : Int) = (0 : Int))
 (.leaf (.inr (.inl ⟨x⟩))))))))) := by kernel_rfl
theorem srstep_tree (w : World) (op x0 y : Int) (n : Int) (x : Int) (i : Int) :
    roundT Try.prog w (flatT Try.prog) (noCtr) (callT Try.prog w (flatT Try.prog) (noCtr) (noPre) (noLoop) 20) ((noLoop) 27) (roundOf (bodyAt Try.prog 27 3)) 3 0 srRo srRf srRb (srSt op x0 y ⟨n⟩) (srFin op x0 y ⟨n⟩) (srBck op x0 y ⟨n⟩) srNxX srNxY srNxZ ⟨x, i⟩ =
(.br (decide (i < n))
 (.chk (IntKind.i64 = IntKind.i64 ∧ op = op)
 (.chk (IntKind.i64 = IntKind.i64 ∧
  IntKind.i64.wrap
      ((IntKind.i64.wrap (x - (IntKind.i64.wrap (x.tmod (2 : Int) + (2 : Int))).tmod (2 : Int))).tdiv (2 : Int)) =
    IntKind.i64.wrap
      ((IntKind.i64.wrap (x - (IntKind.i64.wrap (x.tmod (2 : Int) + (2 : Int))).tmod (2 : Int))).tdiv (2 : Int)))
 (.chk (IntKind.i64 = IntKind.i64 ∧ y = y)
 (.chk (IntKind.i64 = IntKind.i64 ∧ (0 : Int) = (0 : Int))
 (.chk (IntKind.i64 = IntKind.i64 ∧ (0 : Int) = (0 : Int))
 (.chk (IntKind.u64 = IntKind.u64 ∧ n = n)
 (.chk (IntKind.u64 = IntKind.u64 ∧ IntKind.u64.wrap (i + (1 : Int)) = IntKind.u64.wrap (i + (1 : Int)))
 (.leaf (.inl ⟨IntKind.i64.wrap
  ((IntKind.i64.wrap (x - (IntKind.i64.wrap (x.tmod (2 : Int) + (2 : Int))).tmod (2 : Int))).tdiv (2 : Int)), IntKind.u64.wrap (i + (1 : Int))⟩)))))))))
 (.chk (IntKind.i64 = IntKind.i64 ∧ op = op)
 (.chk (IntKind.i64 = IntKind.i64 ∧ x = x)
 (.chk (IntKind.i64 = IntKind.i64 ∧ y = y)
 (.chk (IntKind.i64 = IntKind.i64 ∧ (0 : Int) = (0 : Int))
 (.chk (IntKind.i64 = IntKind.i64 ∧ (0 : Int) = (0 : Int))
 (.leaf (.inr (.inl ⟨x⟩))))))))) := by kernel_rfl
theorem wu64 (x : Int) : IntKind.wrap .u64 x = x % 18446744073709551616 := by simp [IntKind.wrap, IntKind.bits, IntKind.signed]
theorem w_I6 (x : Int) : I6 (IntKind.i64.wrap x) := by unfold I6; rw [IntKind.wrap_i64]; omega
theorem tmod2 (x : Int) : (IntKind.i64.wrap (x.tmod 2 + 2)).tmod 2 = x % 2 := by
  have h : x.tmod 2 = x % 2 ∨ x.tmod 2 = -((-x) % 2) := by
    rcases Int.le_total 0 x with h | h
    · exact .inl (Int.tmod_eq_emod_of_nonneg h)
    · right
      have := Int.neg_tmod (-x) 2
      rw [Int.neg_neg] at this
      rw [this, Int.tmod_eq_emod_of_nonneg (by omega)]
  rw [wi64 _ (by omega) (by omega), Int.tmod_eq_emod_of_nonneg (by omega)]
  omega
theorem half {x : Int} (h : I6 x) : IntKind.i64.wrap ((IntKind.i64.wrap (x - (IntKind.i64.wrap (x.tmod 2 + 2)).tmod 2)).tdiv 2) = x / 2 := by
  obtain ⟨h1, h2⟩ := h
  rw [tmod2, wi64 (x - x % 2) (by omega) (by omega)]
  have e : (x - x % 2).tdiv 2 = x / 2 := by
    have : x - x % 2 = x / 2 * 2 := by omega
    rw [this, Int.mul_tdiv_cancel _ (by decide)]
  rw [e, wi64 _ (by omega) (by omega)]
theorem pow_succ' (i : Int) (h : 0 ≤ i) : (2 : Int) ^ (i + 1).toNat = 2 ^ i.toNat * 2 := by
  rw [show (i + 1).toNat = i.toNat + 1 by omega, Int.pow_succ]
theorem fd (x : Int) (k : Nat) : x.fdiv (2 ^ k) = x / 2 ^ k := Int.fdiv_eq_ediv_of_nonneg _ (Int.le_of_lt (Int.pow_pos (by decide)))
def slMu (op x0 y : Int) (p : slP) (x : slX) : Nat := (p.n - x.i).toNat
theorem sl_step (w : World) (op x0 y : Int) (p : slP) (x : slX)  (h : slInv op x0 y p x) : Hid (roundT Try.prog w (flatT Try.prog) (noCtr) (callT Try.prog w (flatT Try.prog) (noCtr) (noPre) (noLoop) 20) ((noLoop) 27) (roundOf (bodyAt Try.prog 27 1)) 1 0 slRo slRf slRb (slSt op x0 y p) (slFin op x0 y p) (slBck op x0 y p) slNxX slNxY slNxZ x) (Kept (slInv op x0 y p) (slPost op x0 y p) (slBack op x0 y p) (slMu op x0 y p) x) := by
  obtain ⟨n⟩ := p
  obtain ⟨x, i⟩ := x
  constructor
  rw [slstep_tree]
  simp only [T.holds, Kept, slMu, and_self, true_and, and_true]
  obtain ⟨i1, n1, xr, eq⟩ := h
  simp only at i1 n1 xr eq
  simp only [decide_eq_true_eq, decide_eq_false_iff_not]
  refine ⟨fun hlt => ?_, fun hge => ?_⟩
  · rw [wu64, show (i + 1) % 18446744073709551616 = i + 1 by omega]
    refine ⟨⟨⟨by show 0 ≤ i + 1; omega, by show i + 1 ≤ n; omega⟩, n1, w_I6 _, ?_⟩, by omega⟩
    show IntKind.i64.wrap (x + x) = IntKind.i64.wrap (x0 * 2 ^ (i + 1).toNat)
    obtain ⟨k, hk⟩ := wcong (x0 * 2 ^ i.toNat)
    rw [← eq] at hk
    rw [pow_succ' i i1.1, ← Int.mul_assoc, ← wadd (x0 * 2 ^ i.toNat * 2) (k * 2)]
    congr 1
    omega
  · refine ⟨?_⟩
    show x = IntKind.i64.wrap (x0 * 2 ^ n.toNat)
    rw [show n = i by omega]
    exact eq
theorem slLp_ok (w : World) (op x0 y : Int)  : (slLp op x0 y).ok Try.prog w := by
  intro s t h
  unfold slLp at h
  simp only at h
  split at h
  · rename_i p _
    split at h
    · rename_i x _
      cases h
      exact loop_ok base2 (ctrs_none _ w) (callT_ok base2.mixed base2.names base2.eqs (ctrs_none _ w).ok (ctrs_none _ w).there (pre_none _ _) (loops_none _ _) 20) ((loops_none _ _) 27) (c := roundOf (bodyAt Try.prog 27 1)) (by kernel_rfl) (id := 1) (n := 0) (hr := false) (ro := slRo) (rf := slRf) (rr := slRb) (st := slSt op x0 y p) (fin := slFin op x0 y p) (bck := slBck op x0 y p) (inv := slInv op x0 y p) (post := slPost op x0 y p) (back := slBack op x0 y p) (nx := slNxX) (fx := slNxY) (bx := slNxZ) (slMu op x0 y p) (nf := 0) (nf' := 0) (nf'' := 0) (fun x => by kernel_rfl) (fun y => by kernel_rfl) (fun z => nomatch z) (.inr fun z => nomatch z) (fun x hx => sl_step w op x0 y p x  hx) s x
    · cases h
  · cases h
def srMu (op x0 y : Int) (p : srP) (x : srX) : Nat := (p.n - x.i).toNat
theorem sr_step (w : World) (op x0 y : Int) (p : srP) (x : srX)  (h : srInv op x0 y p x) : Hid (roundT Try.prog w (flatT Try.prog) (noCtr) (callT Try.prog w (flatT Try.prog) (noCtr) (noPre) (noLoop) 20) ((noLoop) 27) (roundOf (bodyAt Try.prog 27 3)) 3 0 srRo srRf srRb (srSt op x0 y p) (srFin op x0 y p) (srBck op x0 y p) srNxX srNxY srNxZ x) (Kept (srInv op x0 y p) (srPost op x0 y p) (srBack op x0 y p) (srMu op x0 y p) x) := by
  obtain ⟨n⟩ := p
  obtain ⟨x, i⟩ := x
  constructor
  rw [srstep_tree]
  simp only [T.holds, Kept, srMu, and_self, true_and, and_true]
  obtain ⟨i1, n1, xr, eq⟩ := h
  simp only at i1 n1 xr eq
  simp only [decide_eq_true_eq, decide_eq_false_iff_not]
  refine ⟨fun hlt => ?_, fun hge => ?_⟩
  · rw [wu64, show (i + 1) % 18446744073709551616 = i + 1 by omega, half xr]
    refine ⟨⟨⟨by show 0 ≤ i + 1; omega, by show i + 1 ≤ n; omega⟩, n1, ⟨by show -9223372036854775808 ≤ x / 2; omega, by show x / 2 ≤ 9223372036854775807; omega⟩, ?_⟩, by omega⟩
    show x / 2 = x0.fdiv (2 ^ (i + 1).toNat)
    rw [eq, fd, fd, pow_succ' i i1.1, Int.ediv_ediv_of_nonneg (Int.le_of_lt (Int.pow_pos (by decide)))]
  · refine ⟨?_⟩
    show x = x0.fdiv (2 ^ n.toNat)
    rw [show n = i by omega]
    exact eq
theorem srLp_ok (w : World) (op x0 y : Int)  : (srLp op x0 y).ok Try.prog w := by
  intro s t h
  unfold srLp at h
  simp only at h
  split at h
  · rename_i p _
    split at h
    · rename_i x _
      cases h
      exact loop_ok base2 (ctrs_none _ w) (callT_ok base2.mixed base2.names base2.eqs (ctrs_none _ w).ok (ctrs_none _ w).there (pre_none _ _) (loops_none _ _) 20) ((loops_none _ _) 27) (c := roundOf (bodyAt Try.prog 27 3)) (by kernel_rfl) (id := 3) (n := 0) (hr := false) (ro := srRo) (rf := srRf) (rr := srRb) (st := srSt op x0 y p) (fin := srFin op x0 y p) (bck := srBck op x0 y p) (inv := srInv op x0 y p) (post := srPost op x0 y p) (back := srBack op x0 y p) (nx := srNxX) (fx := srNxY) (bx := srNxZ) (srMu op x0 y p) (nf := 0) (nf' := 0) (nf'' := 0) (fun x => by kernel_rfl) (fun y => by kernel_rfl) (fun z => nomatch z) (.inr fun z => nomatch z) (fun x hx => sr_step w op x0 y p x  hx) s x
    · cases h
  · cases h
theorem rtwo_tree (w : World) (op x0 y : Int) :
    callV Try.prog w (flatT Try.prog) (noCtr) (noPre) (lpOf Try.prog [slLp op x0 y, srLp op x0 y]) 20 27 [.v (.one (.int false .i64 op)), .v (.one (.int false .i64 x0)), .v (.one (.int false .i64 y))] =
(.br (op == (7 : Int))
 (.br (x0 != (0 : Int))
  (.leaf (.tuple [(.one (.int true .i64 (1))), (.one (.int true .i64 (0)))]))
  (.br (y != (0 : Int))
   (.leaf (.tuple [(.one (.int true .i64 (1))), (.one (.int true .i64 (0)))]))
   (.leaf (.tuple [(.one (.int true .i64 (0))), (.one (.int true .i64 (0)))]))))
 (.br (op == (8 : Int))
  (.br (x0 != (0 : Int))
   (.br (y != (0 : Int))
    (.leaf (.tuple [(.one (.int true .i64 (1))), (.one (.int true .i64 (0)))]))
    (.leaf (.tuple [(.one (.int true .i64 (0))), (.one (.int true .i64 (0)))])))
   (.leaf (.tuple [(.one (.int true .i64 (0))), (.one (.int true .i64 (0)))])))
  (.br (op == (9 : Int))
   (.leaf (.tuple [(.one (.int false .i64 (bits BinOp.or IntKind.i64 x0 y))), (.one (.int true .i64 (0)))]))
   (.br (op == (10 : Int))
    (.leaf (.tuple [(.one (.int false .i64 (bits BinOp.xor IntKind.i64 x0 y))), (.one (.int true .i64 (0)))]))
    (.br (op == (11 : Int))
     (.leaf (.tuple [(.one (.int false .i64 (bits BinOp.and IntKind.i64 x0 y))), (.one (.int true .i64 (0)))]))
     (.br (op == (12 : Int))
      (.br (x0 == y)
       (.leaf (.tuple [(.one (.int true .i64 (1))), (.one (.int true .i64 (0)))]))
       (.leaf (.tuple [(.one (.int true .i64 (0))), (.one (.int true .i64 (0)))])))
      (.br (op == (13 : Int))
       (.br (x0 != y)
        (.leaf (.tuple [(.one (.int true .i64 (1))), (.one (.int true .i64 (0)))]))
        (.leaf (.tuple [(.one (.int true .i64 (0))), (.one (.int true .i64 (0)))])))
       (.br (op == (14 : Int))
        (.br (decide (x0 < y))
         (.leaf (.tuple [(.one (.int true .i64 (1))), (.one (.int true .i64 (0)))]))
         (.leaf (.tuple [(.one (.int true .i64 (0))), (.one (.int true .i64 (0)))])))
        (.br (op == (15 : Int))
         (.br (decide (x0 ≤ y))
          (.leaf (.tuple [(.one (.int true .i64 (1))), (.one (.int true .i64 (0)))]))
          (.leaf (.tuple [(.one (.int true .i64 (0))), (.one (.int true .i64 (0)))])))
         (.br (op == (16 : Int))
          (.br (decide (x0 > y))
           (.leaf (.tuple [(.one (.int true .i64 (1))), (.one (.int true .i64 (0)))]))
           (.leaf (.tuple [(.one (.int true .i64 (0))), (.one (.int true .i64 (0)))])))
          (.br (op == (17 : Int))
           (.br (decide (x0 ≥ y))
            (.leaf (.tuple [(.one (.int true .i64 (1))), (.one (.int true .i64 (0)))]))
            (.leaf (.tuple [(.one (.int true .i64 (0))), (.one (.int true .i64 (0)))])))
           (.br (op == (18 : Int))
            (.chk (sym.textAt Go.Proofs.Try.prog (27 : Go.FuncId) (1 : Nat) = sym.textAt Go.Proofs.Try.prog (27 : Go.FuncId) (1 : Nat))
            (.chk (IntKind.i64 = IntKind.i64 ∧ op = op)
            (.chk (IntKind.i64 = IntKind.i64 ∧ x0 = x0)
            (.chk (IntKind.i64 = IntKind.i64 ∧ y = y)
            (.chk (IntKind.i64 = IntKind.i64 ∧ (0 : Int) = (0 : Int))
            (.chk (IntKind.i64 = IntKind.i64 ∧ (0 : Int) = (0 : Int))
            (.chk (IntKind.u64 = IntKind.u64 ∧ (IntKind.u64.wrap y).tmod (64 : Int) = (IntKind.u64.wrap y).tmod (64 : Int))
            (.chk (IntKind.u64 = IntKind.u64 ∧ (0 : Int) = (0 : Int))
            (.chk (slInv op x0 y { n := (IntKind.u64.wrap y).tmod (64 : Int) } { x := x0, i := (0 : Int) })
            (.all fun x : sym.Got slY
  (slPost op x0 y { n := (IntKind.u64.wrap y).tmod (64 : Int) }) =>
             (.leaf (.tuple [(.one (.int false .i64 (x.1.1))), (.one (.int true .i64 (0)))]))))))))))))
            (.br (op == (19 : Int))
             (.chk (sym.textAt Go.Proofs.Try.prog (27 : Go.FuncId) (3 : Nat) = sym.textAt Go.Proofs.Try.prog (27 : Go.FuncId) (3 : Nat))
             (.chk (IntKind.i64 = IntKind.i64 ∧ op = op)
             (.chk (IntKind.i64 = IntKind.i64 ∧ x0 = x0)
             (.chk (IntKind.i64 = IntKind.i64 ∧ y = y)
             (.chk (IntKind.i64 = IntKind.i64 ∧ (0 : Int) = (0 : Int))
             (.chk (IntKind.i64 = IntKind.i64 ∧ (0 : Int) = (0 : Int))
             (.chk (IntKind.u64 = IntKind.u64 ∧ (IntKind.u64.wrap y).tmod (64 : Int) = (IntKind.u64.wrap y).tmod (64 : Int))
             (.chk (IntKind.u64 = IntKind.u64 ∧ (0 : Int) = (0 : Int))
             (.chk (srInv op x0 y { n := (IntKind.u64.wrap y).tmod (64 : Int) } { x := x0, i := (0 : Int) })
             (.all fun x : sym.Got srY
  (srPost op x0 y { n := (IntKind.u64.wrap y).tmod (64 : Int) }) =>
              (.leaf (.tuple [(.one (.int false .i64 (x.1.1))), (.one (.int true .i64 (0)))]))))))))))))
             (.br (op == (20 : Int))
              (.leaf (.tuple [(.one (.int false .i64 (IntKind.i64.wrap (x0 + y)))), (.one (.int true .i64 (0)))]))
              (.br (op == (21 : Int))
               (.leaf (.tuple [(.one (.int false .i64 (IntKind.i64.wrap (x0 - y)))), (.one (.int true .i64 (0)))]))
               (.br (op == (22 : Int))
                (.leaf (.tuple [(.one (.int false .i64 (IntKind.i64.wrap (x0 * y)))), (.one (.int true .i64 (0)))]))
                (.br (y == (0 : Int))
                 (.leaf (.tuple [(.one (.int true .i64 (0))), (.one (.int true .i64 (13)))]))
                 (.br (op == (23 : Int))
                  (.chk (y ≠ (0 : Int))
                  (.leaf (.tuple [(.one (.int false .i64 (IntKind.i64.wrap (x0.tdiv y)))), (.one (.int true .i64 (0)))])))
                  (.chk (y ≠ (0 : Int))
                  (.leaf (.tuple [(.one (.int false .i64 (x0.tmod y))), (.one (.int true .i64 (0)))]))))))))))))))))))))) := by kernel_rfl
theorem orz {x y : Int} (hx : I6 x) (hy : I6 y) : bits .or .i64 x y = 0 ↔ x = 0 ∧ y = 0 := by
  obtain ⟨x0, x1⟩ := hx
  obtain ⟨y0, y1⟩ := hy
  have e : bits .or .i64 x y = IntKind.i64.wrap (((BitVec.ofInt 64 x).toNat ||| (BitVec.ofInt 64 y).toNat : Nat) : Int) := by
    show IntKind.i64.wrap ((BitVec.ofInt 64 x ||| BitVec.ofInt 64 y).toNat : Nat) = _
    rw [BitVec.toNat_or]
  have a1 : (BitVec.ofInt 64 x).toNat = (x % ((2 ^ 64 : Nat) : Int)).toNat := BitVec.toNat_ofInt ..
  have b1 : (BitVec.ofInt 64 y).toNat = (y % ((2 ^ 64 : Nat) : Int)).toNat := BitVec.toNat_ofInt ..
  have l1 : (BitVec.ofInt 64 x).toNat ≤ (BitVec.ofInt 64 x).toNat ||| (BitVec.ofInt 64 y).toNat := Nat.left_le_or
  have l2 : (BitVec.ofInt 64 y).toNat ≤ (BitVec.ofInt 64 x).toNat ||| (BitVec.ofInt 64 y).toNat := Nat.right_le_or
  have l3 : (BitVec.ofInt 64 x).toNat ||| (BitVec.ofInt 64 y).toNat < 2 ^ 64 := Nat.or_lt_two_pow (BitVec.ofInt 64 x).isLt (BitVec.ofInt 64 y).isLt
  rw [e, IntKind.wrap_i64]
  constructor
  · intro h
    rw [a1, b1] at *
    omega
  · rintro ⟨rfl, rfl⟩
    decide
theorem sh_n (y : Int) : (IntKind.u64.wrap y).tmod 64 = y % 64 := by rw [wu64, Int.tmod_eq_emod_of_nonneg (by omega)]; omega
theorem min_k (y : Int) : Min.min (y % 64).toNat 64 = (y % 64).toNat := by omega
theorem rtwoC_ok (w0 : World) : rtwoC.ok Try.prog w0 := by
  refine ⟨⟨_, Try.func27, rfl⟩, fun args t ht => ?_⟩
  unfold rtwoC at ht
  simp only at ht
  split at ht
  · rename_i _ op _ x _ y
    cases ht
    refine ⟨rfl, fun K hK => ⟨_, hK.2, rfl, fun w _ => ?_⟩⟩
    obtain ⟨⟨h7, h24, hx, hy⟩, _⟩ := hK
    refine val_eq base2 (ctrs_none _ _) (pre_none _ _) (lps_ok (ls := [slLp op x y, srLp op x y]) fun l hl => by
      simp only [List.mem_cons, List.not_mem_nil, or_false] at hl
      rcases hl with rfl | rfl
      · exact slLp_ok w op x y
      · exact srLp_ok w op x y) (rtwo_tree w op x y) rfl ?_
    have hz := orz hx hy
    rw [sh_n]
    simp only [T.holds, true_and, and_true, and_self, beq_iff_eq, beq_eq_false_iff_ne, bne_iff_ne, bne_eq_false_iff_eq, decide_eq_true_eq, decide_eq_false_iff_not, ne_eq, ge_iff_le, gt_iff_lt, Int.not_lt, Int.not_le]
    have i0 : slInv op x y ⟨y % 64⟩ ⟨x, 0⟩ := ⟨⟨Int.le_refl _, by show 0 ≤ y % 64; omega⟩, by show y % 64 < 64; omega, hx, by show x = IntKind.i64.wrap (x * 2 ^ (0 : Int).toNat); rw [show (2 : Int) ^ (0 : Int).toNat = 1 from rfl, Int.mul_one, wi64 x hx.1 hx.2]⟩
    have i1 : srInv op x y ⟨y % 64⟩ ⟨x, 0⟩ := ⟨⟨Int.le_refl _, by show 0 ≤ y % 64; omega⟩, by show y % 64 < 64; omega, hx, by show x = x.fdiv (2 ^ (0 : Int).toNat); rw [fd]; exact (Int.ediv_one x).symm⟩
    have s18 : ∀ z : Got slY (slPost op x y ⟨y % 64⟩), z.it.x = IntKind.i64.wrap (x * (2 : Int) ^ Min.min (bits .and .i64 y 63).toNat 64) := fun z => by rw [and63, min_k]; exact z.so.eq
    have s19 : ∀ z : Got srY (srPost op x y ⟨y % 64⟩), z.it.x = x.fdiv ((2 : Int) ^ Min.min (bits .and .i64 y 63).toNat 64) := fun z => by rw [and63, min_k]; exact z.so.eq
    repeat' (first | exact rfl | exact i0 | exact i1 | (intro _) | (refine And.intro ?_ ?_))
    all_goals first | omega | (refine γt _ _ ?_ ?_)
    all_goals first | (simp_all [twoL, cmpL, B2]; done) | skip
    all_goals
      have h2324 : op = 23 ∨ op = 24 := by omega
      rcases h2324 with rfl | rfl <;> simp_all [twoL]
  · cases ht
theorem rtabC_ok (w : World) : Ctrs Try.prog w (ctrOf rtabC) := ctrs_of fun c hc => by
  simp only [rtabC, List.mem_cons, List.not_mem_nil, or_false] at hc
  rcases hc with rfl | rfl
  · exact rtwoC_ok w
  · exact rnameC_ok w
end Go.Proofs.Ytmbahohmiecfiaa
