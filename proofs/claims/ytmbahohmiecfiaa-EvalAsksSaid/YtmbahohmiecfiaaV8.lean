/-
  The contracts of what turns orders and questions to the program's types.
-/
import Derived.Test.YtmbahohmiecfiaaV6
import Derived.Test.YtmbahohmiecfiaaR3
namespace Go.Proofs.Ytmbahohmiecfiaa
open Go.RowKit sym
set_option linter.unusedVariables false
set_option linter.unusedSimpArgs false
set_option maxRecDepth 100000
def envC : Ctr := ⟨12, fun | [.v (.agg [.int _ .u8 qa, .int _ .u8 qf, .int _ .u8 qb, .int _ .u8 qc, .int _ .u8 qd, .int _ .u8 qe, .int _ .u8 qh, .int _ .u8 ql, .int _ .u16 sp, .int _ .u16 pc, .int _ .i64 ad, .int _ .i64 va, .int _ .i64 ki, .int _ .i64 ba, .xr AB [.u8] Bx nb cb])] => some (.leaf (.v (.agg [.int false .u8 qa, .int false .u8 qf, .int false .u8 qb, .int false .u8 qc, .int false .u8 qd, .int false .u8 qe, .int false .u8 qh, .int false .u8 ql, .int false .u16 sp, .int false .u16 pc, .int false .i64 ad, .int false .i64 va, .int false .i64 ki, .int false .i64 ba, .val (.func (.func 17) #[evV qa qf qb qc qd qe qh ql sp pc ad va ki ba AB Bx nb cb] #[])]))) | _ => none⟩
def codesC : RCtr := ⟨11, [some [.i64, .i64]], fun | [.row [.i64, .i64] m L] => some (.chk (m ≤ 1000000) (.all fun r : RowR m => .leaf [.row none r.nl 50 [.i64, .i64] L m r.cap])) | _ => none⟩
def l3T : List Ctr := [awC, envC]
structure coP where
structure coX where
  R : List Int
  r : Nat
  nl : Bool
  d : Nat
  i : Nat
structure coY where
  R : List Int
  r : Nat
  nl : Bool
  d : Nat
def coSt (A : Option Addr) (L : List Int) (m cap : Nat) : coP → coX → ASt := fun ⟨⟩ ⟨R, r, nl, d, i⟩ => ⟨slots (List.replicate 19 .any) [(0, .v (.one (.xr A [.i64, .i64] L m cap))), (3, .v (.one (.gs 0 nl 2 0 r d))), (5, .v (.one (.xr A [.i64, .i64] L m cap))), (6, .v (.one (.int false .i64 (m : Int)))), (7, .v (.one (.int false .i64 (i : Int))))], [⟨[.row nl [.i64, .i64] R d], 50⟩]⟩
def coFin (A : Option Addr) (L : List Int) (m cap : Nat) : coP → coY → ASt := fun ⟨⟩ ⟨R, r, nl, d⟩ => ⟨slots (List.replicate 19 .any) [(3, .v (.one (.gs 0 nl 2 0 r d)))], [⟨[.row nl [.i64, .i64] R d], 50⟩]⟩
def coBck (A : Option Addr) (L : List Int) (m cap : Nat) : coP → Empty → ASt := fun _ z => nomatch z
def coNxP : ASt → Option coP := fun s => some ⟨⟩
def coNxX : ASt → Option coX := fun s => match sym.gX s 3 with | none => none | some R => match sym.gL s 3 with | none => none | some r => match sym.gN s 3 with | none => none | some nl => match sym.gC s 3 with | none => none | some d => match (sym.gI s 7).map Int.toNat with | none => none | some i => some ⟨R, r, nl, d, i⟩
def coNxY : ASt → Option coY := fun s => match sym.gX s 3 with | none => none | some R => match sym.gL s 3 with | none => none | some r => match sym.gN s 3 with | none => none | some nl => match sym.gC s 3 with | none => none | some d => some ⟨R, r, nl, d⟩
def coNxZ : ASt → Option Empty := fun _ => none
def coRo : ASt → List (Option Nat) := (fun s => [sym.rowAt s 3])
def coRf : ASt → List (Option Nat) := (fun s => [sym.rowAt s 3])
def coRb : ASt → List (Option Nat) := (fun s => [sym.rowAt s 3])
structure coInv (A : Option Addr) (L : List Int) (m cap : Nat) (p : coP) (x : coX) : Prop where
  i1 : x.i ≤ m
  big : m ≤ 1000000
  rl : x.R.length = x.r * 2
  rd : x.r ≤ x.d ∧ x.d ≤ maxLen
  nil : x.nl = true → x.r = 0 ∧ x.d = 0
  ri : x.r = x.i
  eq : x.R = L.take (x.i * 2)
structure coPost (A : Option Addr) (L : List Int) (m cap : Nat) (p : coP) (x : coY) : Prop where
  rd : x.r ≤ x.d ∧ x.d ≤ maxLen
  nil : x.nl = true → x.r = 0 ∧ x.d = 0
  ri : x.r = m
  eq : x.R = L
def coBack (A : Option Addr) (L : List Int) (m cap : Nat) (p : coP) (x : Empty) : Prop := False
def coLp (A : Option Addr) (L : List Int) (m cap : Nat) : Lp := ⟨11, 0, fun s => match coNxP s with
  | some p => match coNxX s with
    | some x => some (loopT 0 0 false coRo (coSt A L m cap p) (coFin A L m cap p) (coBck A L m cap p) (coInv A L m cap p) (coPost A L m cap p) (coBack A L m cap p) s x)
    | none => none
  | none => none⟩
theorem costep_tree (w : World) (A : Option Addr) (L : List Int) (m cap : Nat) (R : List Int) (r : Nat) (nl : Bool) (d : Nat) (i : Nat) :
    roundT Try.prog w (flatT Try.prog) (noCtr) (callT Try.prog w (flatT Try.prog) (noCtr) (noPre) (noLoop) 20) ((noLoop) 11) (roundOf (bodyAt Try.prog 11 0)) 0 0 coRo coRf coRb (coSt A L m cap ⟨⟩) (coFin A L m cap ⟨⟩) (coBck A L m cap ⟨⟩) coNxX coNxY coNxZ ⟨R, r, nl, d, i⟩ =
(.br (decide ((↑i : Int) < (↑m : Int)))
 (.chk (sym.XR w A [IntKind.i64, IntKind.i64] L m ∧
  (0 : Int) ≤ (↑i : Int) ∧ (↑i : Int) < (↑m : Int) ∧ (0 : Nat) < [IntKind.i64, IntKind.i64].length)
 (.chk (sym.XC w A [IntKind.i64, IntKind.i64] L ∧
  (0 : Nat) < (2 : Nat) ∧ (↑i : Int).toNat * [IntKind.i64, IntKind.i64].length + (2 : Nat) ≤ L.length)
 (.chk (True ∧
  (nl = nl ∧
      (0 : Nat) = (0 : Nat) ∧
        d = d ∧
          r * [IntKind.i64, IntKind.i64].length ≤ R.length ∧
            r ≤ d ∧ d ≤ Go.maxLen ∧ (nl = true → d = (0 : Nat))) ∧
    (r + (1 : Nat)) * (16 : Nat) ≤ (140737488355328 : Nat))
 (.all fun x : sym.Grown nl (1 : Nat) (r + (1 : Nat)) =>
  (.chk (A = A ∧ [IntKind.i64, IntKind.i64] = [IntKind.i64, IntKind.i64] ∧ L = L ∧ m = m ∧ cap = cap)
  (.chk (x.nl' = x.nl' ∧
  [IntKind.i64, IntKind.i64].length = (2 : Nat) ∧
    (0 : Nat) = (0 : Nat) ∧ r + (1 : Nat) = r + (1 : Nat) ∧ x.cap = x.cap)
  (.chk (A = A ∧ [IntKind.i64, IntKind.i64] = [IntKind.i64, IntKind.i64] ∧ L = L ∧ m = m ∧ cap = cap)
  (.chk (IntKind.i64 = IntKind.i64 ∧ (↑m : Int) = (↑m : Int))
  (.chk (IntKind.i64 = IntKind.i64 ∧
  IntKind.i64.wrap ((↑i : Int) + (1 : Int)) = (↑(IntKind.i64.wrap ((↑i : Int) + (1 : Int))).toNat : Int))
  (.chk (x.nl' = x.nl' ∧
  [IntKind.i64, IntKind.i64] = [IntKind.i64, IntKind.i64] ∧
    List.take (r * [IntKind.i64, IntKind.i64].length) R ++
          [L.getD ((↑i : Int).toNat * [IntKind.i64, IntKind.i64].length + (0 : Nat)) (0 : Int),
            L.getD ((↑i : Int).toNat * [IntKind.i64, IntKind.i64].length + (1 : Nat)) (0 : Int)] =
        List.take (r * [IntKind.i64, IntKind.i64].length) R ++
          [L.getD ((↑i : Int).toNat * [IntKind.i64, IntKind.i64].length + (0 : Nat)) (0 : Int),
            L.getD ((↑i : Int).toNat * [IntKind.i64, IntKind.i64].length + (1 : Nat)) (0 : Int)] ∧
      x.cap = x.cap)
  (.leaf (.inl ⟨List.take (r * [IntKind.i64, IntKind.i64].length) R ++
  [L.getD ((↑i : Int).toNat * [IntKind.i64, IntKind.i64].length + (0 : Nat)) (0 : Int),
    L.getD ((↑i : Int).toNat * [IntKind.i64, IntKind.i64].length + (1 : Nat)) (0 : Int)], r + (1 : Nat), x.nl', x.cap, (IntKind.i64.wrap ((↑i : Int) + (1 : Int))).toNat⟩))))))))))))
 (.chk (nl = nl ∧ (2 : Nat) = (2 : Nat) ∧ (0 : Nat) = (0 : Nat) ∧ r = r ∧ d = d)
 (.chk (nl = nl ∧ [IntKind.i64, IntKind.i64] = [IntKind.i64, IntKind.i64] ∧ R = R ∧ d = d)
 (.leaf (.inr (.inl ⟨R, r, nl, d⟩)))))) := by kernel_rfl
def coMu (A : Option Addr) (L : List Int) (m cap : Nat) (p : coP) (x : coX) : Nat := m - x.i
theorem co_step (w : World) (A : Option Addr) (L : List Int) (m cap : Nat) (p : coP) (x : coX) (hX : XR w A [.i64, .i64] L m) (hc : m ≤ cap) (h : coInv A L m cap p x) : Hid (roundT Try.prog w (flatT Try.prog) (noCtr) (callT Try.prog w (flatT Try.prog) (noCtr) (noPre) (noLoop) 20) ((noLoop) 11) (roundOf (bodyAt Try.prog 11 0)) 0 0 coRo coRf coRb (coSt A L m cap p) (coFin A L m cap p) (coBck A L m cap p) coNxX coNxY coNxZ x) (Kept (coInv A L m cap p) (coPost A L m cap p) (coBack A L m cap p) (coMu A L m cap p) x) := by
  obtain ⟨⟩ := p
  obtain ⟨R, r, nl, d, i⟩ := x
  constructor
  rw [costep_tree]
  simp only [T.holds, Kept, coMu, and_self, true_and, and_true]
  obtain ⟨i1, big, rl, rd, nil, ri, eq⟩ := h
  simp only at i1 big rl rd nil ri eq
  have hl : L.length = m * 2 := hX.1
  simp only [T.holds, List.length_singleton, show [IntKind.i64, IntKind.i64].length = 2 from rfl, Int.toNat_natCast, Nat.mul_one, Nat.sub_zero, Nat.zero_add, Nat.add_zero, Nat.zero_mul, true_and, and_true, and_self, decide_eq_true_eq, decide_eq_false_iff_not]
  refine ⟨fun hlt => ?_, fun hge => ⟨rd, nil, by show r = m; omega, ?_⟩⟩
  · have hlt : i < m := by omega
    have wi : IntKind.i64.wrap ((i : Int) + 1) = ((i + 1 : Nat) : Int) := by rw [wi64 _ (by omega) (by omega)]; omega
    rw [wi, Int.toNat_natCast]
    refine ⟨⟨hX, by omega, by omega, by decide⟩, ⟨hX.2, by decide, by omega⟩, ⟨⟨by omega, rd.1, rd.2, fun e => (nil e).2⟩, by omega⟩, fun g => ⟨rfl, ⟨by show i + 1 ≤ m; omega, big, ?_, ⟨g.le, g.max⟩, (rowR g).nil, by show r + 1 = i + 1; omega, ?_⟩, by omega⟩⟩
    · show (List.take (r * 2) R ++ _).length = (r + 1) * 2
      rw [List.length_append, List.length_take, rl]
      simp
      omega
    · show List.take (r * 2) R ++ _ = L.take ((i + 1) * 2)
      rw [List.take_of_length_le (by omega), eq, show (i + 1) * 2 = i * 2 + 1 + 1 by omega, List.take_succ_eq_append_getElem (by omega), List.take_succ_eq_append_getElem (by omega), List.getD_eq_getElem?_getD, List.getD_eq_getElem?_getD, List.getElem?_eq_getElem (by omega), List.getElem?_eq_getElem (by omega), List.append_assoc]
      rfl
  · show R = L
    rw [eq]
    exact List.take_of_length_le (by omega)
theorem coLp_ok (w : World) (A : Option Addr) (L : List Int) (m cap : Nat) (hX : XR w A [.i64, .i64] L m) (hc : m ≤ cap) : (coLp A L m cap).ok Try.prog w := by
  intro s t h
  unfold coLp at h
  simp only at h
  split at h
  · rename_i p _
    split at h
    · rename_i x _
      cases h
      exact loop_ok base2 (ctrs_none _ w) (callT_ok base2.mixed base2.names base2.eqs (ctrs_none _ w).ok (ctrs_none _ w).there (pre_none _ _) (loops_none _ _) 20) ((loops_none _ _) 11) (c := roundOf (bodyAt Try.prog 11 0)) (by kernel_rfl) (id := 0) (n := 0) (hr := false) (ro := coRo) (rf := coRf) (rr := coRb) (st := coSt A L m cap p) (fin := coFin A L m cap p) (bck := coBck A L m cap p) (inv := coInv A L m cap p) (post := coPost A L m cap p) (back := coBack A L m cap p) (nx := coNxX) (fx := coNxY) (bx := coNxZ) (coMu A L m cap p) (nf := 1) (nf' := 1) (nf'' := 1) (fun x => by kernel_rfl) (fun y => by kernel_rfl) (fun z => nomatch z) (.inr fun z => nomatch z) (fun x hx => co_step w A L m cap p x hX hc hx) s x
    · cases h
  · cases h
theorem codes_tree (w : World) (A : Option Addr) (L : List Int) (m cap : Nat) :
    callT Try.prog w (flatT Try.prog) (noCtr) (noPre) (lpOf Try.prog [coLp A L m cap]) 20 11 [.v (.one (.xr A [.i64, .i64] L m cap))] [] =
(.chk (sym.textAt Go.Proofs.Try.prog (11 : Go.FuncId) (0 : Nat) = sym.textAt Go.Proofs.Try.prog (11 : Go.FuncId) (0 : Nat))
(.chk (A = A ∧ [IntKind.i64, IntKind.i64] = [IntKind.i64, IntKind.i64] ∧ L = L ∧ m = m ∧ cap = cap)
(.chk (true = true ∧ (0 : Nat) = (0 : Nat) ∧ (0 : Nat) = (0 : Nat))
(.chk (A = A ∧ [IntKind.i64, IntKind.i64] = [IntKind.i64, IntKind.i64] ∧ L = L ∧ m = m ∧ cap = cap)
(.chk (IntKind.i64 = IntKind.i64 ∧ (↑m : Int) = (↑m : Int))
(.chk (IntKind.i64 = IntKind.i64 ∧ (0 : Int) = (0 : Int))
(.chk (true = true ∧ ([] : List Int) = [])
(.chk (coInv A L m cap { }
  { R := [], r := (0 : Nat), nl := true, d := (0 : Nat), i := (0 : Nat) })
(.all fun x : sym.Got coY (coPost A L m cap { }) =>
 (.leaf ((.v (.one (.gs 0 (x.1.3) 2 0 (x.1.2) (x.1.4)))), [⟨[(.row (x.1.3) ([IntKind.i64, IntKind.i64]) (x.1.1) (x.1.4))], 50⟩]))))))))))) := by kernel_rfl
theorem codesC_ok (w0 : World) : codesC.Ok Try.prog w0 := by
  refine rctr_ok base2 ⟨_, Try.func11, rfl⟩ (ctr := fun w => noCtr) w0 (fun w _ => ctrs_none _ w) (pre := fun w => noPre) (fun w _ => pre_none _ w) (n := 20) fun w hw0 cas args t h ha K hK => ?_
  unfold codesC at h
  simp only at h
  split at h
  · cases h
    rename_i m L
    obtain ⟨y0, rfl, q0⟩ := all2_1 ha
    obtain ⟨A, c, rfl, hX, hc⟩ := argRow q0
    obtain ⟨big, hK⟩ := hK
    refine ⟨lpOf Try.prog [coLp A L m c], lps_ok fun l hl => ?_, ?_⟩
    · simp only [List.mem_cons, List.not_mem_nil, or_false] at hl
      subst hl
      exact coLp_ok w _ _ _ _ hX hc
    show T.holds (callT Try.prog w (flatT Try.prog) noCtr noPre _ 20 11 [_] []) _
    rw [codes_tree]
    simp only [T.holds, true_and, and_true, and_self]
    refine ⟨⟨Nat.zero_le _, big, rfl, ⟨Nat.le_refl _, by decide⟩, fun _ => ⟨rfl, rfl⟩, rfl, rfl⟩, fun y => ?_⟩
    obtain ⟨⟨R2, r2, nl2, d2⟩, rd2, nil2, ri2, eq2⟩ := y
    simp only at rd2 nil2 ri2 eq2
    subst eq2
    subst ri2
    exact ⟨_, [_], hK ⟨nl2, d2, nil2, rd2.1, rd2.2⟩, rfl, .cons (.row (r := 0) rfl nil2) .nil⟩
  · cases h
theorem env12_tree (w : World) (qa qf qb qc qd qe qh ql sp pc : Int) (ad va ki ba : Int) (AB : Option Addr) (Bx : List Int) (nb cb : Nat) :
    callV Try.prog w (flatT Try.prog) (noCtr) (noPre) (noLoop) 20 12 [.v (.agg [.int false .u8 qa, .int false .u8 qf, .int false .u8 qb, .int false .u8 qc, .int false .u8 qd, .int false .u8 qe, .int false .u8 qh, .int false .u8 ql, .int false .u16 sp, .int false .u16 pc, .int false .i64 ad, .int false .i64 va, .int false .i64 ki, .int false .i64 ba, .xr AB [.u8] Bx nb cb])] =
(.leaf (.v (.agg [(.int false .u8 (qa)), (.int false .u8 (qf)), (.int false .u8 (qb)), (.int false .u8 (qc)), (.int false .u8 (qd)), (.int false .u8 (qe)), (.int false .u8 (qh)), (.int false .u8 (ql)), (.int false .u16 (sp)), (.int false .u16 (pc)), (.int false .i64 (ad)), (.int false .i64 (va)), (.int false .i64 (ki)), (.int false .i64 (ba)), (.val (Go.Value.func (Go.Fn.func (17 : Nat))
  #[sym.V.γ []
      (sym.V.agg
        (List.take (15 : Nat)
          (List.drop (0 : Nat)
            (sym.V.agg
                [sym.Sc.int false IntKind.u8 qa,
                  sym.Sc.int false IntKind.u8 qf,
                  sym.Sc.int false IntKind.u8 qb,
                  sym.Sc.int false IntKind.u8 qc,
                  sym.Sc.int false IntKind.u8 qd,
                  sym.Sc.int false IntKind.u8 qe,
                  sym.Sc.int false IntKind.u8 qh,
                  sym.Sc.int false IntKind.u8 ql,
                  sym.Sc.int false IntKind.u16 sp,
                  sym.Sc.int false IntKind.u16 pc,
                  sym.Sc.int false IntKind.i64 ad,
                  sym.Sc.int false IntKind.i64 va,
                  sym.Sc.int false IntKind.i64 ki,
                  sym.Sc.int false IntKind.i64 ba,
                  sym.Sc.xr AB [IntKind.u8] Bx nb cb]).list)))]
  #[]))]))) := by kernel_rfl
theorem envC_ok (w0 : World) : envC.ok Try.prog w0 := by
  refine ⟨⟨_, Try.func12, rfl⟩, fun args t ht => ?_⟩
  unfold envC at ht
  simp only at ht
  split at ht
  · cases ht
    refine ⟨rfl, fun K hK => ⟨_, hK, rfl, fun w _ => ?_⟩⟩
    refine val_eq base2 (ctrs_none _ _) (pre_none _ _) (loops_none _ _) (env12_tree w _ _ _ _ _ _ _ _ _ _ _ _ _ _ _ _ _ _) rfl ?_
    exact ⟨rfl, rfl⟩
  · cases ht
theorem l3T_ok (w : World) : Ctrs Try.prog w (ctrOf l3T) := ctrs_of fun c hc => by
  simp only [l3T, List.mem_cons, List.not_mem_nil, or_false] at hc
  rcases hc with rfl | rfl
  · exact awC_ok w
  · exact envC_ok w
end Go.Proofs.Ytmbahohmiecfiaa
