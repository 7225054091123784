/-
  EvalAsks: the walk. Registers and numbers are as they can be.
-/
import Derived.Test.YtmbahohmiecfiaaR20
namespace Go.Proofs.Ytmbahohmiecfiaa
open Go.RowKit sym
set_option linter.unusedVariables false
set_option linter.unusedSimpArgs false
set_option maxRecDepth 100000
theorem codesOnly_ok (w : World) : ∀ c ∈ [codesC], c.Ok Try.prog w := fun c hc => by
  simp only [List.mem_cons, List.not_mem_nil, or_false] at hc
  subst hc
  exact codesC_ok w
theorem cut_zs {zs : List Int} {k : Nat} (h : zs.length = k * 2) : sym.cutL zs 0 (0 + k) 2 = zs := by
  show (zs.drop (0 * 2)).take ((0 + k - 0) * 2) = zs
  rw [Nat.zero_mul, List.drop_zero]
  exact List.take_of_length_le (by omega)
theorem cnt3_le : ∀ L : List Int, cnt3 L * 2 ≤ L.length
  | [] => by simp [cnt3]
  | [_] => by simp [cnt3]
  | op :: n :: r => by
    have := cnt3_le r
    rw [cnt3]
    simp only [List.length_cons]
    split <;> omega
theorem asks_walk (w : World) (tx : ByteArray) (qa qf qb qc qd qe qh ql sp pc : Int) (ad va ki ba : Int) (AB : Option Addr) (Bx : List Int) (nb cb : Nat) (oqa oqf oqb oqc oqd oqe oqh oql osp opc oad ova oki oba : Int) (AC : Option Addr) (Cx : List Int) (nc cc : Nat) (hB : XR w AB [.u8] Bx nb) :
    Calls Try.prog 5 #[.string tx, .agg #[.int .u8 qa, .int .u8 qf, .int .u8 qb, .int .u8 qc, .int .u8 qd, .int .u8 qe, .int .u8 qh, .int .u8 ql, .int .u16 sp, .int .u16 pc, .int .i64 ad, .int .i64 va, .int .i64 ki, .int .i64 ba, .slice AB nb cb], .agg #[.int .u8 oqa, .int .u8 oqf, .int .u8 oqb, .int .u8 oqc, .int .u8 oqd, .int .u8 oqe, .int .u8 oqh, .int .u8 oql, .int .u16 osp, .int .u16 opc, .int .i64 oad, .int .i64 ova, .int .i64 oki, .int .i64 oba, .slice AC nc cc]] w fun e w' => e = .returned (.bool true) ∧ Below w.heap.size w w' := by
  refine val_eq base2 (l3T_ok w) (preOr_ok (preOf_ok (codesOnly_ok w)) (fpreR_ok w)) (lps_ok (ls := [laLp qa qf qb qc qd qe qh ql sp pc ad va ki ba AB Bx nb cb oqa oqf oqb oqc oqd oqe oqh oql osp opc oad ova oki oba AC Cx nc cc, cuLp qa qf qb qc qd qe qh ql sp pc ad va ki ba AB Bx nb cb oqa oqf oqb oqc oqd oqe oqh oql osp opc oad ova oki oba AC Cx nc cc]) fun l hl => by (simp only [List.mem_cons, List.not_mem_nil, or_false] at hl; rcases hl with rfl | rfl; exact laLp_ok w qa qf qb qc qd qe qh ql sp pc ad va ki ba AB Bx nb cb oqa oqf oqb oqc oqd oqe oqh oql osp opc oad ova oki oba AC Cx nc cc; exact cuLp_ok w qa qf qb qc qd qe qh ql sp pc ad va ki ba AB Bx nb cb oqa oqf oqb oqc oqd oqe oqh oql osp opc oad ova oki oba AC Cx nc cc hB)) (asks_tree w tx qa qf qb qc qd qe qh ql sp pc ad va ki ba AB Bx nb cb oqa oqf oqb oqc oqd oqe oqh oql osp opc oad ova oki oba AC Cx nc cc (evV qa qf qb qc qd qe qh ql sp pc ad va ki ba AB Bx nb cb) (pkL Bx nb)) rfl ?_
  refine ⟨fun _ => ⟨rfl, rfl⟩, fun h4 => ⟨fun _ => ⟨rfl, rfl⟩, fun h5 => ⟨by have := of_decide_eq_false h4; omega, fun x => ?_⟩⟩⟩
  have hl := x.hl
  have big := x.big
  have hc := x.hc
  refine ⟨⟨⟨rfl, by omega, hc.1⟩, trivial⟩, by omega, fun x1 => ⟨fun _ => ⟨rfl, rfl⟩, fun hk => ?_⟩⟩
  have hk : x.k ≠ 0 := by
    intro h
    rw [h] at hk
    cases hk
  have hone : One x.zs := by
    rcases x.ok with h | h
    · exact absurd h hk
    · exact h
  have nok : NmOk x.zs := by
    have := one_nm hone [] trivial
    rwa [List.append_nil] at this
  have hX : x.zs.length = x.k * 2 ∧ x.k ≤ x1.cap ∧ (x1.nl = true → x.k = 0) := ⟨hl, x1.le, fun h => (x1.nil h).1⟩
  rw [cut_zs hl]
  simp only [T.holds, true_and, and_true, and_self]
  refine ⟨rfl, rfl, ⟨hX, fun j hj => nm_at j nok (by have hj : j < x.k := hj; show j * 2 + 1 < x.zs.length; omega), Nat.zero_le _, big, by show (0 : Int) + _ = _; rw [Nat.zero_mul, List.drop_zero, Int.zero_add], ⟨Int.le_refl _, Int.le_refl _⟩, fun j hj => absurd hj (Nat.not_lt_zero _)⟩, fun y => ?_⟩
  have pq := y.so.pq
  have nmf := y.so.nm
  simp only at pq nmf
  refine ⟨⟨hB, hX, by omega⟩, fun r => ?_⟩
  obtain ⟨c1, c2⟩ := asks_cnt (nameL qa qf qb qc qd qe qh ql sp pc ad va ki ba) (pkL Bx nb) x.zs []
  have fin : ∀ z : sym.Got cuZ (cuBack qa qf qb qc qd qe qh ql sp pc ad va ki ba AB Bx nb cb oqa oqf oqb oqc oqd oqe oqh oql osp opc oad ova oki oba AC Cx nc cc), AV.own (.v (.one (.bool false z.it.r))) = true ∧ AV.γ [] (.v (.one (.bool false z.it.r))) = .bool true := fun z => ⟨rfl, congrArg Value.bool z.so.so⟩
  have c3 := cnt3_le x.zs
  have cu : cuInv qa qf qb qc qd qe qh ql sp pc ad va ki ba AB Bx nb cb oqa oqf oqb oqc oqd oqe oqh oql osp opc oad ova oki oba AC Cx nc cc { ln := x1.nl, L := x.zs, m := x.k, cap := x1.cap, vx := (evalL (nameL qa qf qb qc qd qe qh ql sp pc ad va ki ba) (pkL Bx nb) x.zs []).1, vf := (evalL (nameL qa qf qb qc qd qe qh ql sp pc ad va ki ba) (pkL Bx nb) x.zs []).2, Q := asksL (nameL qa qf qb qc qd qe qh ql sp pc ad va ki ba) (pkL Bx nb) x.zs [], ak := (asksL (nameL qa qf qb qc qd qe qh ql sp pc ad va ki ba) (pkL Bx nb) x.zs []).length, an := r.nl, ac := r.cap, b0 := y.it.b0, b1 := y.it.b1, b2 := y.it.b2, b3 := y.it.b3, b4 := y.it.b4, b5 := y.it.b5, b6 := y.it.b6, b7 := y.it.b7, b8 := y.it.b8, b9 := y.it.b9, b10 := y.it.b10, b11 := y.it.b11, b12 := y.it.b12, b13 := y.it.b13, b14 := y.it.b14, b15 := y.it.b15, b16 := y.it.b16, b17 := y.it.b17 } := ⟨hX, big, rfl, ⟨r.le, r.max⟩, r.nil, by show (asksL (nameL qa qf qb qc qd qe qh ql sp pc ad va ki ba) (pkL Bx nb) x.zs []).length ≤ 5000; omega, rfl, rfl, nmf⟩
  refine ⟨fun hf => ⟨fun hne => ?_, fun _ => ⟨fun hgt => ?_, fun _ => ⟨cu, fin⟩⟩⟩, fun hf => ⟨fun hgt => ?_, fun _ => ⟨cu, fin⟩⟩⟩
  · have hf : (evalL (nameL qa qf qb qc qd qe qh ql sp pc ad va ki ba) (pkL Bx nb) x.zs []).2 = 0 := by simpa using hf
    have := c2 hf
    rw [pq, this] at hne
    simp at hne
  · have hgt := of_decide_eq_true hgt
    omega
  · have hgt := of_decide_eq_true hgt
    omega
end Go.Proofs.Ytmbahohmiecfiaa
