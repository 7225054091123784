/-
  Walks of a call of the clock, and of the document's, by its kind; and of what each statement asks first. Bytes are below 256, days 0 to 511, a second's cycles 0 to 1048576; no other condition.
-/
import Derived.Test.YtpmgaoigelplgaaA2
import Derived.Test.YtpmgaoigelplgaaPlainB
namespace Go.Proofs.Ytpmgaoigelplgaa
open Go.RowKit sym
set_option linter.unusedVariables false
set_option linter.unusedSimpArgs false
set_option maxRecDepth 100000
def tableB : List Ctr := [bitC]
theorem tableB_ok (w0 : World) : Ctrs Try.prog w0 (ctrOf tableB) := ctrs_of fun c hc => by
  simp only [tableB, List.mem_cons, List.not_mem_nil, or_false] at hc
  rcases hc with rfl
  · exact bitC_ok w0
theorem do_tree (w : World) (s m h d u : Int) (t c : Bool) (a0 a1 a2 a3 a4 : Int) (k p x : Int) :
    callV Try.prog w (flatT Try.prog) (ctrOf table2) noLoop 20 11 [.v (.agg [.int false .u8 s, .int false .u8 m, .int false .u8 h, .int false .i64 d, .int false .i64 u, .bool false t, .bool false c, .int false .u8 a0, .int false .u8 a1, .int false .u8 a2, .int false .u8 a3, .int false .u8 a4]), .v (.agg [.int false .i64 k, .int false .i64 p, .int false .u8 x])] =
(.br (k == (1 : Int))
 (.chk (Ck.Ok { s := s, m := m, h := h, d := d, cy := c } ∧ (0 : Int) ≤ u ∧ u ≤ (1048576 : Int))
 (.leaf (.v (.agg [(.int false .u8 ((Ck.tkH t u p { s := s, m := m, h := h, d := d, cy := c }).s)), (.int false .u8 ((Ck.tkH t u p { s := s, m := m, h := h, d := d, cy := c }).m)), (.int false .u8 ((Ck.tkH t u p { s := s, m := m, h := h, d := d, cy := c }).h)), (.int false .i64 ((Ck.tkH t u p { s := s, m := m, h := h, d := d, cy := c }).d)), (.int false .i64 (Ck.tkU t u p)), (.bool false (t)), (.bool false ((Ck.tkH t u p { s := s, m := m, h := h, d := d, cy := c }).cy)), (.int false .u8 (a0)), (.int false .u8 (a1)), (.int false .u8 (a2)), (.int false .u8 (a3)), (.int false .u8 (a4))]))))
 (.br (k == (2 : Int))
  (.chk (Ck.B s ∧
  Ck.B m ∧
    Ck.B h ∧ (0 : Int) ≤ d ∧ d < (512 : Int) ∧ Ck.B x)
  (.leaf (.v (.agg [(.int false .u8 (Ck.wS p x s)), (.int false .u8 (Ck.wM p x m)), (.int false .u8 (Ck.wH p x h)), (.int false .i64 (Ck.wD p x d)), (.int false .i64 (Ck.wU p u)), (.bool false (Ck.wT p x t)), (.bool false (Ck.wC p x c)), (.int false .u8 (a0)), (.int false .u8 (a1)), (.int false .u8 (a2)), (.int false .u8 (a3)), (.int false .u8 (a4))]))))
  (.br (k == (3 : Int))
   (.chk ((0 : Int) ≤ d ∧ d < (512 : Int))
   (.leaf (.v (.agg [(.int false .u8 (s)), (.int false .u8 (m)), (.int false .u8 (h)), (.int false .i64 (d)), (.int false .i64 (u)), (.bool false (t)), (.bool false (c)), (.int false .u8 (s)), (.int false .u8 (m)), (.int false .u8 (h)), (.int false .u8 (d % (256 : Int))), (.int false .u8 (Ck.top d t c))]))))
   (.leaf (.v (.agg [(.int false .u8 (s)), (.int false .u8 (m)), (.int false .u8 (h)), (.int false .i64 (d)), (.int false .i64 (u)), (.bool false (t)), (.bool false (c)), (.int false .u8 (a0)), (.int false .u8 (a1)), (.int false .u8 (a2)), (.int false .u8 (a3)), (.int false .u8 (a4))])))))) := by kernel_rfl
theorem doc_tree (w : World) (s m h d u : Int) (t c : Bool) (a0 a1 a2 a3 a4 : Int) (k p x : Int) :
    callV Try.prog w (flatT Try.prog) (ctrOf table2) noLoop 20 12 [.v (.agg [.int false .u8 s, .int false .u8 m, .int false .u8 h, .int false .i64 d, .int false .i64 u, .bool false t, .bool false c, .int false .u8 a0, .int false .u8 a1, .int false .u8 a2, .int false .u8 a3, .int false .u8 a4]), .v (.agg [.int false .i64 k, .int false .i64 p, .int false .u8 x])] =
(.br (k == (1 : Int))
 (.chk (Ck.Ok { s := s, m := m, h := h, d := d, cy := c } ∧ (0 : Int) ≤ u ∧ u ≤ (1048576 : Int))
 (.leaf (.v (.agg [(.int false .u8 ((Ck.tkH t u p { s := s, m := m, h := h, d := d, cy := c }).s)), (.int false .u8 ((Ck.tkH t u p { s := s, m := m, h := h, d := d, cy := c }).m)), (.int false .u8 ((Ck.tkH t u p { s := s, m := m, h := h, d := d, cy := c }).h)), (.int false .i64 ((Ck.tkH t u p { s := s, m := m, h := h, d := d, cy := c }).d)), (.int false .i64 (Ck.tkU t u p)), (.bool false (t)), (.bool false ((Ck.tkH t u p { s := s, m := m, h := h, d := d, cy := c }).cy)), (.int false .u8 (a0)), (.int false .u8 (a1)), (.int false .u8 (a2)), (.int false .u8 (a3)), (.int false .u8 (a4))]))))
 (.br (k == (2 : Int))
  (.chk (Ck.B s ∧
  Ck.B m ∧
    Ck.B h ∧ (0 : Int) ≤ d ∧ d < (512 : Int) ∧ Ck.B x)
  (.leaf (.v (.agg [(.int false .u8 (Ck.wS p x s)), (.int false .u8 (Ck.wM p x m)), (.int false .u8 (Ck.wH p x h)), (.int false .i64 (Ck.wD p x d)), (.int false .i64 (Ck.wU p u)), (.bool false (Ck.wT p x t)), (.bool false (Ck.wC p x c)), (.int false .u8 (a0)), (.int false .u8 (a1)), (.int false .u8 (a2)), (.int false .u8 (a3)), (.int false .u8 (a4))]))))
  (.br (k == (3 : Int))
   (.chk ((0 : Int) ≤ d ∧ d < (512 : Int))
   (.leaf (.v (.agg [(.int false .u8 (s)), (.int false .u8 (m)), (.int false .u8 (h)), (.int false .i64 (d)), (.int false .i64 (u)), (.bool false (t)), (.bool false (c)), (.int false .u8 (s)), (.int false .u8 (m)), (.int false .u8 (h)), (.int false .u8 (d % (256 : Int))), (.int false .u8 (Ck.top d t c))]))))
   (.leaf (.v (.agg [(.int false .u8 (s)), (.int false .u8 (m)), (.int false .u8 (h)), (.int false .i64 (d)), (.int false .i64 (u)), (.bool false (t)), (.bool false (c)), (.int false .u8 (a0)), (.int false .u8 (a1)), (.int false .u8 (a2)), (.int false .u8 (a3)), (.int false .u8 (a4))])))))) := by kernel_rfl
theorem awake_tree (w : World) :
    callV Try.prog w (flatT Try.prog) (ctrOf tableB) noLoop 20 9 [] =
(.chk ((6 : Int) = (6 : Int) ∨ (6 : Int) = (7 : Int))
(.chk ((7 : Int) = (6 : Int) ∨ (7 : Int) = (7 : Int))
(.leaf (.v (.one (.bool true true)))))) := by kernel_rfl
theorem do_any (w : World) (s m h d u : Int) (t c : Bool) (a0 a1 a2 a3 a4 : Int) (k p x : Int) (ok : Ck.Ok ⟨s, m, h, d, c⟩) (bu : 0 ≤ u ∧ u ≤ 1048576) (bx : Ck.B x) : Calls Try.prog 11 #[.agg #[.int .u8 s, .int .u8 m, .int .u8 h, .int .i64 d, .int .i64 u, .bool t, .bool c, .int .u8 a0, .int .u8 a1, .int .u8 a2, .int .u8 a3, .int .u8 a4], .agg #[.int .i64 k, .int .i64 p, .int .u8 x]] w fun e w' => e = .returned (.agg #[.int .u8 (Ck.doH k p x t u ⟨s, m, h, d, c⟩).s, .int .u8 (Ck.doH k p x t u ⟨s, m, h, d, c⟩).m, .int .u8 (Ck.doH k p x t u ⟨s, m, h, d, c⟩).h, .int .i64 (Ck.doH k p x t u ⟨s, m, h, d, c⟩).d, .int .i64 (Ck.doU k p t u), .bool (Ck.doT k p x t), .bool (Ck.doH k p x t u ⟨s, m, h, d, c⟩).cy, .int .u8 (Ck.doA k s a0), .int .u8 (Ck.doA k m a1), .int .u8 (Ck.doA k h a2), .int .u8 (Ck.doA k (d % 256) a3), .int .u8 (Ck.doA k (Ck.top d t c) a4)]) ∧ Below w.heap.size w w' := by
  refine val_eq base2 (table2_ok w) (loops_none _ _) (do_tree w s m h d u t c a0 a1 a2 a3 a4 k p x) rfl ?_
  obtain ⟨s', m', h', d'⟩ := id ok
  simp only at s' m' h' d'
  by_cases k1 : k = 1
  · subst k1; simp only [T.holds, beq_self_eq_true, forall_const, Bool.true_eq_false, false_implies, and_true]
    refine ⟨⟨ok, bu⟩, ?_⟩
    simp [Ck.doH, Ck.doU, Ck.doT, Ck.doA, AV.own, AV.wf, V.wf, Sc.wf, AV.γ, V.γ, Sc.γ]
  by_cases k2 : k = 2
  · subst k2; simp only [T.holds, beq_iff_eq, beq_self_eq_true, forall_const, Bool.true_eq_false, false_implies, and_true, show ¬ ((2 : Int) = 1) by decide, beq_eq_false_iff_ne, ne_eq, not_false_eq_true, true_and]
    refine ⟨⟨s', m', h', d'.1, d'.2, bx⟩, ?_⟩
    simp [Ck.doH, Ck.doU, Ck.doT, Ck.doA, AV.own, AV.wf, V.wf, Sc.wf, AV.γ, V.γ, Sc.γ]
  by_cases k3 : k = 3
  · subst k3; simp only [T.holds, beq_iff_eq, beq_self_eq_true, forall_const, Bool.true_eq_false, false_implies, and_true, show ¬ ((3 : Int) = 1) by decide, show ¬ ((3 : Int) = 2) by decide, beq_eq_false_iff_ne, ne_eq, not_false_eq_true, true_and]
    refine ⟨d', ?_⟩
    simp [Ck.doH, Ck.doU, Ck.doT, Ck.doA, AV.own, AV.wf, V.wf, Sc.wf, AV.γ, V.γ, Sc.γ]
  simp [T.holds, k1, k2, k3, Ck.doH, Ck.doU, Ck.doT, Ck.doA, AV.own, AV.wf, V.wf, Sc.wf, AV.γ, V.γ, Sc.γ]
theorem doc_any (w : World) (s m h d u : Int) (t c : Bool) (a0 a1 a2 a3 a4 : Int) (k p x : Int) (ok : Ck.Ok ⟨s, m, h, d, c⟩) (bu : 0 ≤ u ∧ u ≤ 1048576) (bx : Ck.B x) : Calls Try.prog 12 #[.agg #[.int .u8 s, .int .u8 m, .int .u8 h, .int .i64 d, .int .i64 u, .bool t, .bool c, .int .u8 a0, .int .u8 a1, .int .u8 a2, .int .u8 a3, .int .u8 a4], .agg #[.int .i64 k, .int .i64 p, .int .u8 x]] w fun e w' => e = .returned (.agg #[.int .u8 (Ck.doH k p x t u ⟨s, m, h, d, c⟩).s, .int .u8 (Ck.doH k p x t u ⟨s, m, h, d, c⟩).m, .int .u8 (Ck.doH k p x t u ⟨s, m, h, d, c⟩).h, .int .i64 (Ck.doH k p x t u ⟨s, m, h, d, c⟩).d, .int .i64 (Ck.doU k p t u), .bool (Ck.doT k p x t), .bool (Ck.doH k p x t u ⟨s, m, h, d, c⟩).cy, .int .u8 (Ck.doA k s a0), .int .u8 (Ck.doA k m a1), .int .u8 (Ck.doA k h a2), .int .u8 (Ck.doA k (d % 256) a3), .int .u8 (Ck.doA k (Ck.top d t c) a4)]) ∧ Below w.heap.size w w' := by
  refine val_eq base2 (table2_ok w) (loops_none _ _) (doc_tree w s m h d u t c a0 a1 a2 a3 a4 k p x) rfl ?_
  obtain ⟨s', m', h', d'⟩ := id ok
  simp only at s' m' h' d'
  by_cases k1 : k = 1
  · subst k1; simp only [T.holds, beq_self_eq_true, forall_const, Bool.true_eq_false, false_implies, and_true]
    refine ⟨⟨ok, bu⟩, ?_⟩
    simp [Ck.doH, Ck.doU, Ck.doT, Ck.doA, AV.own, AV.wf, V.wf, Sc.wf, AV.γ, V.γ, Sc.γ]
  by_cases k2 : k = 2
  · subst k2; simp only [T.holds, beq_iff_eq, beq_self_eq_true, forall_const, Bool.true_eq_false, false_implies, and_true, show ¬ ((2 : Int) = 1) by decide, beq_eq_false_iff_ne, ne_eq, not_false_eq_true, true_and]
    refine ⟨⟨s', m', h', d'.1, d'.2, bx⟩, ?_⟩
    simp [Ck.doH, Ck.doU, Ck.doT, Ck.doA, AV.own, AV.wf, V.wf, Sc.wf, AV.γ, V.γ, Sc.γ]
  by_cases k3 : k = 3
  · subst k3; simp only [T.holds, beq_iff_eq, beq_self_eq_true, forall_const, Bool.true_eq_false, false_implies, and_true, show ¬ ((3 : Int) = 1) by decide, show ¬ ((3 : Int) = 2) by decide, beq_eq_false_iff_ne, ne_eq, not_false_eq_true, true_and]
    refine ⟨d', ?_⟩
    simp [Ck.doH, Ck.doU, Ck.doT, Ck.doA, AV.own, AV.wf, V.wf, Sc.wf, AV.γ, V.γ, Sc.γ]
  simp [T.holds, k1, k2, k3, Ck.doH, Ck.doU, Ck.doT, Ck.doA, AV.own, AV.wf, V.wf, Sc.wf, AV.γ, V.γ, Sc.γ]
theorem awake_any (w : World) : Calls Try.prog 9 #[] w fun e w' => e = .returned (.bool true) ∧ Below w.heap.size w w' := by
  refine val_eq base2 (tableB_ok w) (loops_none _ _) (awake_tree w) rfl ?_
  exact ⟨Or.inl rfl, Or.inr rfl, rfl, rfl⟩
def doC : Ctr := ⟨11, fun | [.v (.agg [.int _ .u8 s, .int _ .u8 m, .int _ .u8 h, .int _ .i64 d, .int _ .i64 u, .bool _ t, .bool _ c, .int _ .u8 a0, .int _ .u8 a1, .int _ .u8 a2, .int _ .u8 a3, .int _ .u8 a4]), .v (.agg [.int _ .i64 k, .int _ .i64 p, .int _ .u8 x])] => some (.chk (Ck.Ok ⟨s, m, h, d, c⟩ ∧ (0 ≤ u ∧ u ≤ 1048576) ∧ Ck.B x) (.leaf (.v (.agg [.int false .u8 (Ck.doH k p x t u ⟨s, m, h, d, c⟩).s, .int false .u8 (Ck.doH k p x t u ⟨s, m, h, d, c⟩).m, .int false .u8 (Ck.doH k p x t u ⟨s, m, h, d, c⟩).h, .int false .i64 (Ck.doH k p x t u ⟨s, m, h, d, c⟩).d, .int false .i64 (Ck.doU k p t u), .bool false (Ck.doT k p x t), .bool false (Ck.doH k p x t u ⟨s, m, h, d, c⟩).cy, .int false .u8 (Ck.doA k s a0), .int false .u8 (Ck.doA k m a1), .int false .u8 (Ck.doA k h a2), .int false .u8 (Ck.doA k (d % 256) a3), .int false .u8 (Ck.doA k (Ck.top d t c) a4)])))) | _ => none⟩
theorem doC_ok (w0 : World) : doC.ok Try.prog w0 := by
  refine ⟨⟨_, Try.func11, rfl⟩, fun args t ht => ?_⟩
  unfold doC at ht
  simp only at ht
  split at ht
  · cases ht
    refine ⟨rfl, fun K hK => ⟨_, hK.2, rfl, fun w _ => ?_⟩⟩
    obtain ⟨hr, _⟩ := hK
    exact do_any w _ _ _ _ _ _ _ _ _ _ _ _ _ _ _ hr.1 hr.2.1 hr.2.2
  · cases ht
def docC : Ctr := ⟨12, fun | [.v (.agg [.int _ .u8 s, .int _ .u8 m, .int _ .u8 h, .int _ .i64 d, .int _ .i64 u, .bool _ t, .bool _ c, .int _ .u8 a0, .int _ .u8 a1, .int _ .u8 a2, .int _ .u8 a3, .int _ .u8 a4]), .v (.agg [.int _ .i64 k, .int _ .i64 p, .int _ .u8 x])] => some (.chk (Ck.Ok ⟨s, m, h, d, c⟩ ∧ (0 ≤ u ∧ u ≤ 1048576) ∧ Ck.B x) (.leaf (.v (.agg [.int false .u8 (Ck.doH k p x t u ⟨s, m, h, d, c⟩).s, .int false .u8 (Ck.doH k p x t u ⟨s, m, h, d, c⟩).m, .int false .u8 (Ck.doH k p x t u ⟨s, m, h, d, c⟩).h, .int false .i64 (Ck.doH k p x t u ⟨s, m, h, d, c⟩).d, .int false .i64 (Ck.doU k p t u), .bool false (Ck.doT k p x t), .bool false (Ck.doH k p x t u ⟨s, m, h, d, c⟩).cy, .int false .u8 (Ck.doA k s a0), .int false .u8 (Ck.doA k m a1), .int false .u8 (Ck.doA k h a2), .int false .u8 (Ck.doA k (d % 256) a3), .int false .u8 (Ck.doA k (Ck.top d t c) a4)])))) | _ => none⟩
theorem docC_ok (w0 : World) : docC.ok Try.prog w0 := by
  refine ⟨⟨_, Try.func12, rfl⟩, fun args t ht => ?_⟩
  unfold docC at ht
  simp only at ht
  split at ht
  · cases ht
    refine ⟨rfl, fun K hK => ⟨_, hK.2, rfl, fun w _ => ?_⟩⟩
    obtain ⟨hr, _⟩ := hK
    exact doc_any w _ _ _ _ _ _ _ _ _ _ _ _ _ _ _ hr.1 hr.2.1 hr.2.2
  · cases ht
def awC : Ctr := ⟨9, fun | [] => some (.chk (True) (.leaf (.v (.one (.bool true true))))) | _ => none⟩
theorem awC_ok (w0 : World) : awC.ok Try.prog w0 := by
  refine ⟨⟨_, Try.func9, rfl⟩, fun args t ht => ?_⟩
  unfold awC at ht
  simp only at ht
  split at ht
  · cases ht
    refine ⟨rfl, fun K hK => ⟨_, hK.2, rfl, fun w _ => ?_⟩⟩
    obtain ⟨hr, _⟩ := hK
    exact awake_any w
  · cases ht
def table : List Ctr := [awC, bitC, rsecC, readC, rreadC, writeC, rwriteC, holdC, rholdC, tickC, rtickC, doC, docC]
theorem table_ok (w0 : World) : Ctrs Try.prog w0 (ctrOf table) := ctrs_of fun c hc => by
  simp only [table, List.mem_cons, List.not_mem_nil, or_false] at hc
  rcases hc with rfl | rfl | rfl | rfl | rfl | rfl | rfl | rfl | rfl | rfl | rfl | rfl | rfl
  · exact awC_ok w0
  · exact bitC_ok w0
  · exact rsecC_ok w0
  · exact readC_ok w0
  · exact rreadC_ok w0
  · exact writeC_ok w0
  · exact rwriteC_ok w0
  · exact holdC_ok w0
  · exact rholdC_ok w0
  · exact tickC_ok w0
  · exact rtickC_ok w0
  · exact doC_ok w0
  · exact docC_ok w0
end Go.Proofs.Ytpmgaoigelplgaa
