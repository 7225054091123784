/-
  EvalTexts: what a text's orders come to. Registers and numbers are as they can be.
-/
import Derived.Test.YtmbahohmiecfiaaR9
import Derived.Test.YtmbahohmiecfiaaR14
namespace Go.Proofs.Ytmbahohmiecfiaa
open Go.RowKit sym
set_option linter.unusedVariables false
set_option linter.unusedSimpArgs false
set_option maxRecDepth 100000
theorem texts_tree (w : World) (tx : ByteArray) (qa qf qb qc qd qe qh ql sp pc : Int) (ad va ki ba : Int) (AB : Option Addr) (Bx : List Int) (nb cb : Nat) (ev : Value) (F : Int → Int) :
    callV Try.prog w (flatT Try.prog) (ctrOf l3T) (preOr (preOf w (l3P w ev F)) (fpreOf [parsedC])) (lpOf Try.prog [mixLp 4 6]) 20 4 [.v (.one (.val (.string tx))), .v (.agg [.int false .u8 qa, .int false .u8 qf, .int false .u8 qb, .int false .u8 qc, .int false .u8 qd, .int false .u8 qe, .int false .u8 qh, .int false .u8 ql, .int false .u16 sp, .int false .u16 pc, .int false .i64 ad, .int false .i64 va, .int false .i64 ki, .int false .i64 ba, .xr AB [.u8] Bx nb cb])] =
(.br (decide ((↑tx.size : Int) > (400 : Int)))
 (.leaf (.v (.one (.bool true true))))
 (.br (decide ((↑nb : Int) > (400 : Int)))
  (.leaf (.v (.one (.bool true true))))
  (.chk (tx.size ≤ (1000 : Nat))
  (.all fun x : PrR tx =>
   (.br ((↑x.k : Int) == (0 : Int))
    (.leaf (.v (.one (.bool true true))))
    (.all fun x_1 : Bool =>
     (.br (x_1)
      (.chk ((x.nl = x.nl ∧ ((0 : Nat) + x.k) * (2 : Nat) ≤ x.zs.length ∧ x.k ≤ x.cap) ∧ True)
      (.chk (x.k ≤ (1000000 : Nat))
      (.all fun x_2 : RowR x.k =>
       (.chk ((x_2.nl = x_2.nl ∧
    ((0 : Nat) + x.k) * [IntKind.i64, IntKind.i64].length ≤
        (sym.cutL x.zs (0 : Nat) ((0 : Nat) + x.k) (2 : Nat)).length ∧
      x.k ≤ x_2.cap) ∧
  True)
       (.chk (x.k ≤ (1000000 : Nat) ∧
  Go.Value.func (Go.Fn.func (17 : Go.FuncId))
      #[evV qa qf qb qc qd qe qh ql sp pc ad va ki ba AB Bx nb cb] #[] =
    Go.Value.func (Go.Fn.func (17 : Go.FuncId)) #[ev] #[])
       (.chk ((x.nl = x.nl ∧ ((0 : Nat) + x.k) * (2 : Nat) ≤ x.zs.length ∧ x.k ≤ x.cap) ∧ True)
       (.chk (x.k ≤ (1000000 : Nat) ∧
  RgB qa qf qb qc qd qe qh ql sp pc ad va ki ba ∧
    (∀ (j : Nat),
        I6
          ((sym.cutL x.zs (0 : Nat) ((0 : Nat) + x.k) (2 : Nat)).getD j (0 : Int))) ∧
      sym.XR w AB [IntKind.u8] Bx nb ∧ Bs Bx)
       (.br ((evalL (nameL qa qf qb qc qd qe qh ql sp pc ad va ki ba) F
      (sym.cutL
        (sym.cutL x.zs (0 : Nat) ((0 : Nat) + x.k) (2 : Nat)) (0 : Nat) ((0 : Nat) + x.k)
        [IntKind.i64, IntKind.i64].length)
      []).fst ==
  (evalL (nameL qa qf qb qc qd qe qh ql sp pc ad va ki ba)
      (pkL Bx nb)
      (sym.cutL x.zs (0 : Nat) ((0 : Nat) + x.k) (2 : Nat)) []).fst)
        (.br ((evalL (nameL qa qf qb qc qd qe qh ql sp pc ad va ki ba) F
      (sym.cutL
        (sym.cutL x.zs (0 : Nat) ((0 : Nat) + x.k) (2 : Nat)) (0 : Nat) ((0 : Nat) + x.k)
        [IntKind.i64, IntKind.i64].length)
      []).snd ==
  (evalL (nameL qa qf qb qc qd qe qh ql sp pc ad va ki ba)
      (pkL Bx nb)
      (sym.cutL x.zs (0 : Nat) ((0 : Nat) + x.k) (2 : Nat)) []).snd)
         (.br ((evalL (nameL qa qf qb qc qd qe qh ql sp pc ad va ki ba) F
      (sym.cutL
        (sym.cutL x.zs (0 : Nat) ((0 : Nat) + x.k) (2 : Nat)) (0 : Nat) ((0 : Nat) + x.k)
        [IntKind.i64, IntKind.i64].length)
      []).snd ==
  (0 : Int))
          (.leaf (.v (.one (.bool true true))))
          (.leaf (.v (.one (.bool false ((evalL (nameL qa qf qb qc qd qe qh ql sp pc ad va ki ba) F
      (sym.cutL
        (sym.cutL x.zs (0 : Nat) ((0 : Nat) + x.k) (2 : Nat)) (0 : Nat) ((0 : Nat) + x.k)
        [IntKind.i64, IntKind.i64].length)
      []).snd ==
  (13 : Int)))))))
         (.leaf (.v (.one (.bool true false)))))
        (.leaf (.v (.one (.bool true false))))))))))))
      (.chk ((x.nl = x.nl ∧ ((0 : Nat) + x.k) * (2 : Nat) ≤ x.zs.length ∧ x.k ≤ x.cap) ∧ True)
      (.chk (x.k ≤ (1000000 : Nat))
      (.all fun x_2 : RowR x.k =>
       (.chk ((x_2.nl = x_2.nl ∧
    ((0 : Nat) + x.k) * [IntKind.i64, IntKind.i64].length ≤
        (sym.cutL x.zs (0 : Nat) ((0 : Nat) + x.k) (2 : Nat)).length ∧
      x.k ≤ x_2.cap) ∧
  True)
       (.chk (x.k ≤ (1000000 : Nat) ∧
  Go.Value.func (Go.Fn.func (17 : Go.FuncId))
      #[evV qa qf qb qc qd qe qh ql sp pc ad va ki ba AB Bx nb cb] #[] =
    Go.Value.func (Go.Fn.func (17 : Go.FuncId)) #[ev] #[])
       (.chk ((x.nl = x.nl ∧ ((0 : Nat) + x.k) * (2 : Nat) ≤ x.zs.length ∧ x.k ≤ x.cap) ∧ True)
       (.chk (x.k ≤ (1000000 : Nat) ∧
  RgB qa qf qb qc qd qe qh ql sp pc ad va ki ba ∧
    (∀ (j : Nat),
        I6
          ((sym.cutL x.zs (0 : Nat) ((0 : Nat) + x.k) (2 : Nat)).getD j (0 : Int))) ∧
      sym.XR w AB [IntKind.u8] Bx nb ∧ Bs Bx)
       (.br ((evalL (nameL qa qf qb qc qd qe qh ql sp pc ad va ki ba) F
      (sym.cutL
        (sym.cutL x.zs (0 : Nat) ((0 : Nat) + x.k) (2 : Nat)) (0 : Nat) ((0 : Nat) + x.k)
        [IntKind.i64, IntKind.i64].length)
      []).fst ==
  (evalL (nameL qa qf qb qc qd qe qh ql sp pc ad va ki ba)
      (pkL Bx nb)
      (sym.cutL x.zs (0 : Nat) ((0 : Nat) + x.k) (2 : Nat)) []).fst)
        (.br ((evalL (nameL qa qf qb qc qd qe qh ql sp pc ad va ki ba) F
      (sym.cutL
        (sym.cutL x.zs (0 : Nat) ((0 : Nat) + x.k) (2 : Nat)) (0 : Nat) ((0 : Nat) + x.k)
        [IntKind.i64, IntKind.i64].length)
      []).snd ==
  (evalL (nameL qa qf qb qc qd qe qh ql sp pc ad va ki ba)
      (pkL Bx nb)
      (sym.cutL x.zs (0 : Nat) ((0 : Nat) + x.k) (2 : Nat)) []).snd)
         (.br ((evalL (nameL qa qf qb qc qd qe qh ql sp pc ad va ki ba) F
      (sym.cutL
        (sym.cutL x.zs (0 : Nat) ((0 : Nat) + x.k) (2 : Nat)) (0 : Nat) ((0 : Nat) + x.k)
        [IntKind.i64, IntKind.i64].length)
      []).snd ==
  (0 : Int))
          (.leaf (.v (.one (.bool true true))))
          (.leaf (.v (.one (.bool false ((evalL (nameL qa qf qb qc qd qe qh ql sp pc ad va ki ba) F
      (sym.cutL
        (sym.cutL x.zs (0 : Nat) ((0 : Nat) + x.k) (2 : Nat)) (0 : Nat) ((0 : Nat) + x.k)
        [IntKind.i64, IntKind.i64].length)
      []).snd ==
  (13 : Int)))))))
         (.leaf (.v (.one (.bool true false)))))
        (.leaf (.v (.one (.bool true false))))))))))))))))))) := by kernel_rfl
theorem evalL_push (nm F : Int → Int) (op n : Int) (r S : List Int) (h : takesL op n = 0) : evalL nm F (op :: n :: r) S = evalL nm F r (S ++ [if op = 2 then nm n else n]) := by
  show (if takesL op n < 0 ∨ (S.length : Int) < takesL op n then _ else _) = _
  rw [if_neg (by rw [h]; omega), if_pos h]
theorem evalL_un (nm F : Int → Int) (op n v : Int) (r S : List Int) (h : takesL op n = 1) : evalL nm F (op :: n :: r) (S ++ [v]) = evalL nm F r (S ++ [oneL F op v]) := by
  show (if takesL op n < 0 ∨ ((S ++ [v]).length : Int) < takesL op n then _ else _) = _
  have hl : (S ++ [v]).length = S.length + 1 := by simp
  rw [if_neg (by rw [h, hl]; omega), if_neg (by rw [h]; decide), if_pos h, hl, Nat.add_sub_cancel]
  rw [List.take_append_of_le_length (Nat.le_refl _), List.take_length]
  simp
theorem evalL_two (nm F : Int → Int) (op n u v : Int) (r S : List Int) (h : takesL op n = 2) : evalL nm F (op :: n :: r) (S ++ [u] ++ [v]) = if (twoL op u v).2 ≠ 0 then (0, (twoL op u v).2) else evalL nm F r (S ++ [(twoL op u v).1]) := by
  show (if takesL op n < 0 ∨ ((S ++ [u] ++ [v]).length : Int) < takesL op n then _ else _) = _
  have hl : (S ++ [u] ++ [v]).length = S.length + 2 := by simp
  have g1 : (S ++ [u] ++ [v]).getD (S.length + 2 - 2) 0 = u := by simp [List.getD_eq_getElem?_getD]
  have g2 : (S ++ [u] ++ [v]).getD (S.length + 2 - 1) 0 = v := by simp [List.getD_eq_getElem?_getD]
  have g3 : (S ++ [u] ++ [v]).take (S.length + 2 - 2) = S := by simp
  rw [if_neg (by rw [h, hl]; omega), if_neg (by rw [h]; decide), if_neg (by rw [h]; decide), hl, g1, g2, g3]
theorem two_err (op x y : Int) : (twoL op x y).2 = 0 ∨ (twoL op x y).2 = 13 := by
  unfold twoL
  simp only [apply_ite Prod.snd, ite_self]
  by_cases h : y = 0
  · simp only [if_pos h, ite_self]
    by_cases h1 : op = 23 <;> by_cases h2 : op = 24 <;> simp [h1, h2]
    all_goals (repeat' split) <;> simp
  · left
    simp only [if_neg h, ite_self]
/-- Orders of one value put one there, or divide by 0. -/
theorem one_evalL (nm F : Int → Int) {z : List Int} (h : One z) : ∀ S, (∃ v, ∀ r, evalL nm F (z ++ r) S = evalL nm F r (S ++ [v])) ∨ (∀ r, evalL nm F (z ++ r) S = (0, 13)) := by
  induction h with
  | num n _ => exact fun S => .inl ⟨_, fun r => evalL_push nm F 1 n r S (by unfold takesL; rw [if_pos (.inl rfl)])⟩
  | name n h0 h1 => exact fun S => .inl ⟨_, fun r => evalL_push nm F 2 n r S (by unfold takesL; rw [if_pos (.inr ⟨rfl, h0, h1⟩)])⟩
  | un op z h3 h6 _ ih =>
    intro S
    have ht : takesL op 0 = 1 := by
      unfold takesL
      rw [if_neg (by omega), if_neg (by omega), if_pos (by omega)]
    rcases ih S with ⟨v, hv⟩ | he
    · exact .inl ⟨_, fun r => by rw [List.append_assoc, hv]; exact evalL_un nm F op 0 v r S ht⟩
    · exact .inr fun r => by rw [List.append_assoc]; exact he _
  | bin op z y h7 h24 _ _ ih1 ih2 =>
    intro S
    have ht : takesL op 0 = 2 := by
      unfold takesL
      rw [if_neg (by omega), if_neg (by omega), if_neg (by omega)]
    rcases ih1 S with ⟨u, hu⟩ | he
    · rcases ih2 (S ++ [u]) with ⟨v, hv⟩ | he2
      · rcases two_err op u v with h0 | h13
        · exact .inl ⟨_, fun r => by
            rw [List.append_assoc, List.append_assoc, hu, hv]
            exact (evalL_two nm F op 0 u v r S ht).trans (by rw [if_neg (by rw [h0]; decide)])⟩
        · exact .inr fun r => by
            rw [List.append_assoc, List.append_assoc, hu, hv]
            exact (evalL_two nm F op 0 u v r S ht).trans (by rw [if_pos (by rw [h13]; decide), h13])
      · exact .inr fun r => by rw [List.append_assoc, List.append_assoc, hu]; exact he2 _
    · exact .inr fun r => by rw [List.append_assoc, List.append_assoc]; exact he _
theorem one_err (nm F : Int → Int) {z : List Int} (h : One z) : (evalL nm F z []).2 = 0 ∨ (evalL nm F z []).2 = 13 := by
  rcases one_evalL nm F h [] with ⟨v, hv⟩ | he
  · left
    have := hv []
    rw [List.append_nil] at this
    rw [this]
    rfl
  · right
    have := he []
    rw [List.append_nil] at this
    rw [this]
theorem cut_zs {zs : List Int} {k : Nat} (h : zs.length = k * 2) : sym.cutL zs 0 (0 + k) 2 = zs := by
  show (zs.drop (0 * 2)).take ((0 + k - 0) * 2) = zs
  rw [Nat.zero_mul, List.drop_zero]
  exact List.take_of_length_le (by omega)
theorem fpre6_ok (w : World) : PreOk Try.prog w (fpreOf [parsedC]) := fpreOf_ok fun c hc => by
  simp only [List.mem_cons, List.not_mem_nil, or_false] at hc
  subst hc
  exact parsedC_ok w
theorem texts_walk (w : World) (tx : ByteArray) (qa qf qb qc qd qe qh ql sp pc : Int) (ad va ki ba : Int) (AB : Option Addr) (Bx : List Int) (nb cb : Nat) (hR : RgB qa qf qb qc qd qe qh ql sp pc ad va ki ba) (hB : XR w AB [.u8] Bx nb) (hbb : Bs Bx) :
    Calls Try.prog 4 #[.string tx, .agg #[.int .u8 qa, .int .u8 qf, .int .u8 qb, .int .u8 qc, .int .u8 qd, .int .u8 qe, .int .u8 qh, .int .u8 ql, .int .u16 sp, .int .u16 pc, .int .i64 ad, .int .i64 va, .int .i64 ki, .int .i64 ba, .slice AB nb cb]] w fun e w' => e = .returned (.bool true) ∧ Below w.heap.size w w' := by
  refine val_eq base2 (l3T_ok w) (preOr_ok (preOf_ok (l3P_ok w qa qf qb qc qd qe qh ql sp pc ad va ki ba AB Bx nb cb hB)) (fpre6_ok w)) (lps_ok (ls := [mixLp 4 6]) fun l hl => by (simp only [List.mem_cons, List.not_mem_nil, or_false] at hl; subst hl; exact mixLp_ok _ _ _ _)) (texts_tree w tx qa qf qb qc qd qe qh ql sp pc ad va ki ba AB Bx nb cb (evV qa qf qb qc qd qe qh ql sp pc ad va ki ba AB Bx nb cb) (pkL Bx nb)) rfl ?_
  refine ⟨fun _ => ⟨rfl, rfl⟩, fun h4 => ⟨fun _ => ⟨rfl, rfl⟩, fun h5 => ⟨by have := of_decide_eq_false h4; omega, fun x => ⟨fun _ => ⟨rfl, rfl⟩, fun hk => ?_⟩⟩⟩⟩
  have hk : x.k ≠ 0 := by
    intro h
    rw [h] at hk
    cases hk
  have hone : One x.zs := by
    rcases x.ok with h | h
    · exact absurd h hk
    · exact h
  have hl := x.hl
  have e1 : [IntKind.i64, IntKind.i64].length = 2 := rfl
  rw [e1, cut_zs hl, cut_zs hl]
  have big := x.big
  have hc := x.hc
  have err := one_err (nameL qa qf qb qc qd qe qh ql sp pc ad va ki ba) (pkL Bx nb) hone
  have e0 : (x.nl = x.nl ∧ ((0 : Nat) + x.k) * (2 : Nat) ≤ x.zs.length ∧ x.k ≤ x.cap) ∧ True := ⟨⟨rfl, by omega, hc.1⟩, trivial⟩
  have i6 : ∀ j, I6 (x.zs.getD j 0) := x.i6
  generalize (evalL (nameL qa qf qb qc qd qe qh ql sp pc ad va ki ba) (pkL Bx nb) x.zs []) = E at *
  obtain ⟨u, f⟩ := E
  simp only at err
  have fin : (((f == (0 : Int)) = true → AV.own (.v (.one (.bool true true))) = true ∧ AV.γ [] (.v (.one (.bool true true))) = .bool true) ∧ ((f == (0 : Int)) = false → AV.own (.v (.one (.bool false (f == (13 : Int))))) = true ∧ AV.γ [] (.v (.one (.bool false (f == (13 : Int))))) = .bool true)) := ⟨fun _ => ⟨rfl, rfl⟩, fun h => by
    rcases err with rfl | rfl
    · cases h
    · exact ⟨rfl, rfl⟩⟩
  have no : ∀ {a : Int} {C : Prop}, (a == a) = false → C := fun h => by rw [beq_self_eq_true] at h; cases h
  have rest : ∀ r : RowR x.k, ((r.nl = r.nl ∧ ((0 : Nat) + x.k) * (2 : Nat) ≤ x.zs.length ∧ x.k ≤ r.cap) ∧ True) := fun r => ⟨⟨rfl, by omega, r.le⟩, trivial⟩
  intro b
  constructor
  all_goals (intro _; exact ⟨e0, by omega, fun r => ⟨rest r, ⟨by omega, rfl⟩, e0, ⟨by omega, hR, i6, hB, hbb⟩, fun _ => ⟨fun _ => fin, fun h => no h⟩, fun h => no h⟩⟩)
end Go.Proofs.Ytmbahohmiecfiaa
