/-
  Walks of two statements of the clock, by computing: so many seconds later, and any clock as it stands. Bytes are below 256, days 0 to 65535; no other condition.
-/
import Derived.Test.YtpmgaoigelplgaaA4
namespace Go.Proofs.Ytpmgaoigelplgaa
open Go.RowKit sym
set_option linter.unusedVariables false
set_option linter.unusedSimpArgs false
set_option maxRecDepth 100000
theorem counts_tree (w : World) (d h m s n : Int) :
    callV Try.prog w (flatT Try.prog) (ctrOf table) noLoop 20 3 [.v (.one (.int false .u16 d)), .v (.one (.int false .u8 h)), .v (.one (.int false .u8 m)), .v (.one (.int false .u8 s)), .v (.one (.int false .u16 n))] =
(.chk (True)
(.chk (Ck.Ok
    { s := s.tmod (60 : Int), m := m.tmod (60 : Int), h := h.tmod (24 : Int),
      d := (IntKind.i64.wrap d).tmod (512 : Int), cy := false } ∧
  (0 : Int) ≤ (0 : Int) ∧ (0 : Int) ≤ (1048576 : Int))
(.br (IntKind.i64.wrap
    (Ck.tkH false (0 : Int)
        (IntKind.i64.wrap ((IntKind.i64.wrap n).tmod (1024 : Int) * (1048576 : Int)))
        { s := s.tmod (60 : Int), m := m.tmod (60 : Int), h := h.tmod (24 : Int),
          d := (IntKind.i64.wrap d).tmod (512 : Int), cy := false }).s ==
  (IntKind.i64.wrap
        (IntKind.i64.wrap
            (IntKind.i64.wrap
                (IntKind.i64.wrap
                    (IntKind.i64.wrap
                        (IntKind.i64.wrap
                            (IntKind.i64.wrap ((IntKind.i64.wrap d).tmod (512 : Int) * (24 : Int)) +
                              IntKind.i64.wrap (h.tmod (24 : Int))) *
                          (60 : Int)) +
                      IntKind.i64.wrap (m.tmod (60 : Int))) *
                  (60 : Int)) +
              IntKind.i64.wrap (s.tmod (60 : Int))) +
          (IntKind.i64.wrap n).tmod (1024 : Int))).tmod
    (60 : Int))
 (.br (IntKind.i64.wrap
    (Ck.tkH false (0 : Int)
        (IntKind.i64.wrap ((IntKind.i64.wrap n).tmod (1024 : Int) * (1048576 : Int)))
        { s := s.tmod (60 : Int), m := m.tmod (60 : Int), h := h.tmod (24 : Int),
          d := (IntKind.i64.wrap d).tmod (512 : Int), cy := false }).m ==
  (IntKind.i64.wrap
        ((IntKind.i64.wrap
              (IntKind.i64.wrap
                  (IntKind.i64.wrap
                      (IntKind.i64.wrap
                          (IntKind.i64.wrap
                              (IntKind.i64.wrap
                                  (IntKind.i64.wrap ((IntKind.i64.wrap d).tmod (512 : Int) * (24 : Int)) +
                                    IntKind.i64.wrap (h.tmod (24 : Int))) *
                                (60 : Int)) +
                            IntKind.i64.wrap (m.tmod (60 : Int))) *
                        (60 : Int)) +
                    IntKind.i64.wrap (s.tmod (60 : Int))) +
                (IntKind.i64.wrap n).tmod (1024 : Int))).tdiv
          (60 : Int))).tmod
    (60 : Int))
  (.br (IntKind.i64.wrap
    (Ck.tkH false (0 : Int)
        (IntKind.i64.wrap ((IntKind.i64.wrap n).tmod (1024 : Int) * (1048576 : Int)))
        { s := s.tmod (60 : Int), m := m.tmod (60 : Int), h := h.tmod (24 : Int),
          d := (IntKind.i64.wrap d).tmod (512 : Int), cy := false }).h ==
  (IntKind.i64.wrap
        ((IntKind.i64.wrap
              (IntKind.i64.wrap
                  (IntKind.i64.wrap
                      (IntKind.i64.wrap
                          (IntKind.i64.wrap
                              (IntKind.i64.wrap
                                  (IntKind.i64.wrap ((IntKind.i64.wrap d).tmod (512 : Int) * (24 : Int)) +
                                    IntKind.i64.wrap (h.tmod (24 : Int))) *
                                (60 : Int)) +
                            IntKind.i64.wrap (m.tmod (60 : Int))) *
                        (60 : Int)) +
                    IntKind.i64.wrap (s.tmod (60 : Int))) +
                (IntKind.i64.wrap n).tmod (1024 : Int))).tdiv
          (3600 : Int))).tmod
    (24 : Int))
   (.br ((Ck.tkH false (0 : Int)
      (IntKind.i64.wrap ((IntKind.i64.wrap n).tmod (1024 : Int) * (1048576 : Int)))
      { s := s.tmod (60 : Int), m := m.tmod (60 : Int), h := h.tmod (24 : Int),
        d := (IntKind.i64.wrap d).tmod (512 : Int), cy := false }).d ==
  (IntKind.i64.wrap
        ((IntKind.i64.wrap
              (IntKind.i64.wrap
                  (IntKind.i64.wrap
                      (IntKind.i64.wrap
                          (IntKind.i64.wrap
                              (IntKind.i64.wrap
                                  (IntKind.i64.wrap ((IntKind.i64.wrap d).tmod (512 : Int) * (24 : Int)) +
                                    IntKind.i64.wrap (h.tmod (24 : Int))) *
                                (60 : Int)) +
                            IntKind.i64.wrap (m.tmod (60 : Int))) *
                        (60 : Int)) +
                    IntKind.i64.wrap (s.tmod (60 : Int))) +
                (IntKind.i64.wrap n).tmod (1024 : Int))).tdiv
          (86400 : Int))).tmod
    (512 : Int))
    (.br ((Ck.tkH false (0 : Int)
      (IntKind.i64.wrap ((IntKind.i64.wrap n).tmod (1024 : Int) * (1048576 : Int)))
      { s := s.tmod (60 : Int), m := m.tmod (60 : Int), h := h.tmod (24 : Int),
        d := (IntKind.i64.wrap d).tmod (512 : Int), cy := false }).cy ==
  decide
    (IntKind.i64.wrap
        (IntKind.i64.wrap
            (IntKind.i64.wrap
                (IntKind.i64.wrap
                    (IntKind.i64.wrap
                        (IntKind.i64.wrap
                            (IntKind.i64.wrap ((IntKind.i64.wrap d).tmod (512 : Int) * (24 : Int)) +
                              IntKind.i64.wrap (h.tmod (24 : Int))) *
                          (60 : Int)) +
                      IntKind.i64.wrap (m.tmod (60 : Int))) *
                  (60 : Int)) +
              IntKind.i64.wrap (s.tmod (60 : Int))) +
          (IntKind.i64.wrap n).tmod (1024 : Int)) ≥
      (44236800 : Int)))
     (.leaf (.v (.one (.bool false (Ck.tkU false (0 : Int)
    (IntKind.i64.wrap ((IntKind.i64.wrap n).tmod (1024 : Int) * (1048576 : Int))) ==
  (0 : Int))))))
     (.leaf (.v (.one (.bool true false)))))
    (.leaf (.v (.one (.bool true false)))))
   (.leaf (.v (.one (.bool true false)))))
  (.leaf (.v (.one (.bool true false)))))
 (.leaf (.v (.one (.bool true false))))))) := by kernel_rfl
theorem anyc_tree (w : World) (s m h d u : Int) (t c : Bool) (a0 a1 a2 a3 a4 : Int) (k p x : Int) :
    callV Try.prog w (flatT Try.prog) (ctrOf table) noLoop 20 5 [.v (.agg [.int false .u8 s, .int false .u8 m, .int false .u8 h, .int false .i64 d, .int false .i64 u, .bool false t, .bool false c, .int false .u8 a0, .int false .u8 a1, .int false .u8 a2, .int false .u8 a3, .int false .u8 a4]), .v (.agg [.int false .i64 k, .int false .i64 p, .int false .u8 x])] =
(.chk (True)
(.br (decide (u < (0 : Int)))
 (.chk (True)
 (.leaf (.v (.one (.bool true true)))))
 (.br (decide (u > (1048576 : Int)))
  (.chk (True)
  (.leaf (.v (.one (.bool true true)))))
  (.br (decide (d < (0 : Int)))
   (.chk (True)
   (.leaf (.v (.one (.bool true true)))))
   (.br (decide (d > (511 : Int)))
    (.chk (True)
    (.leaf (.v (.one (.bool true true)))))
    (.chk (Ck.Ok { s := s, m := m, h := h, d := d, cy := c } ∧
  ((0 : Int) ≤ u ∧ u ≤ (1048576 : Int)) ∧ Ck.B x)
    (.chk (Ck.Ok { s := s, m := m, h := h, d := d, cy := c } ∧
  ((0 : Int) ≤ u ∧ u ≤ (1048576 : Int)) ∧ Ck.B x)
    (.br ((Ck.doH k p x t u { s := s, m := m, h := h, d := d, cy := c }).s ==
    (Ck.doH k p x t u { s := s, m := m, h := h, d := d, cy := c }).s &&
  ((Ck.doH k p x t u { s := s, m := m, h := h, d := d, cy := c }).m ==
      (Ck.doH k p x t u { s := s, m := m, h := h, d := d, cy := c }).m &&
    ((Ck.doH k p x t u { s := s, m := m, h := h, d := d, cy := c }).h ==
        (Ck.doH k p x t u { s := s, m := m, h := h, d := d, cy := c }).h &&
      ((Ck.doH k p x t u { s := s, m := m, h := h, d := d, cy := c }).d ==
          (Ck.doH k p x t u { s := s, m := m, h := h, d := d, cy := c }).d &&
        (Ck.doU k p t u == Ck.doU k p t u &&
          (Ck.doT k p x t == Ck.doT k p x t &&
            ((Ck.doH k p x t u { s := s, m := m, h := h, d := d, cy := c }).cy ==
                (Ck.doH k p x t u { s := s, m := m, h := h, d := d, cy := c }).cy &&
              (Ck.doA k s a0 == Ck.doA k s a0 &&
                (Ck.doA k m a1 == Ck.doA k m a1 &&
                  (Ck.doA k h a2 == Ck.doA k h a2 &&
                    (Ck.doA k (d % (256 : Int)) a3 ==
                        Ck.doA k (d % (256 : Int)) a3 &&
                      (Ck.doA k (Ck.top d t c) a4 ==
                          Ck.doA k (Ck.top d t c) a4 &&
                        true))))))))))))
     (.chk (True)
     (.chk (True)
     (.leaf (.v (.one (.bool false (Ck.rd p a0 a1 a2 a3 a4 == Ck.rd p a0 a1 a2 a3 a4)))))))
     (.leaf (.v (.one (.bool true false)))))))))))) := by kernel_rfl
theorem any_walk (w : World) (s m h d u : Int) (t c : Bool) (a0 a1 a2 a3 a4 : Int) (k p x : Int) (bs : Ck.B s) (bm : Ck.B m) (bh : Ck.B h) (bx : Ck.B x) : Calls Try.prog 5 #[.agg #[.int .u8 s, .int .u8 m, .int .u8 h, .int .i64 d, .int .i64 u, .bool t, .bool c, .int .u8 a0, .int .u8 a1, .int .u8 a2, .int .u8 a3, .int .u8 a4], .agg #[.int .i64 k, .int .i64 p, .int .u8 x]] w fun e w' => e = .returned (.bool true) ∧ Below w.heap.size w w' := by
  refine val_eq base2 (table_ok w) (loops_none _ _) (anyc_tree w s m h d u t c a0 a1 a2 a3 a4 k p x) rfl ?_
  simp only [T.holds, beq_self_eq_true, Bool.and_self, Bool.and_true, true_and, decide_eq_true_eq, decide_eq_false_iff_not, forall_const, Bool.true_eq_false, false_implies, and_true]
  refine ⟨fun _ => ⟨rfl, rfl⟩, fun h1 => ⟨fun _ => ⟨rfl, rfl⟩, fun h2 => ⟨fun _ => ⟨rfl, rfl⟩, fun h3 => ⟨fun _ => ⟨rfl, rfl⟩, fun h4 => ?_⟩⟩⟩⟩
  have ok : Ck.Ok ⟨s, m, h, d, c⟩ := ⟨bs, bm, bh, by show 0 ≤ d; omega, by show d < 512; omega⟩
  exact ⟨⟨ok, ⟨by omega, by omega⟩, bx⟩, ⟨ok, ⟨by omega, by omega⟩, bx⟩, rfl, rfl⟩
theorem counts_walk (w : World) (d h m s n : Int) (bd : 0 ≤ d ∧ d < 65536) (bh : Ck.B h) (bm : Ck.B m) (bs : Ck.B s) (bn : 0 ≤ n ∧ n < 65536) : Calls Try.prog 3 #[.int .u16 d, .int .u8 h, .int .u8 m, .int .u8 s, .int .u16 n] w fun e w' => e = .returned (.bool true) ∧ Below w.heap.size w w' := by
  refine val_eq base2 (table_ok w) (loops_none _ _) (counts_tree w d h m s n) rfl ?_
  obtain ⟨d1, d2⟩ := bd
  obtain ⟨h1, h2⟩ := bh
  obtain ⟨m1, m2⟩ := bm
  obtain ⟨s1, s2⟩ := bs
  obtain ⟨n1, n2⟩ := bn
  have ed : (IntKind.i64.wrap d).tmod 512 = d % 512 := by rw [Ck.wi64 _ (by omega) (by omega), Int.tmod_eq_emod_of_nonneg d1]
  have en : (IntKind.i64.wrap n).tmod 1024 = n % 1024 := by rw [Ck.wi64 _ (by omega) (by omega), Int.tmod_eq_emod_of_nonneg n1]
  have eh : h.tmod 24 = h % 24 := Int.tmod_eq_emod_of_nonneg h1
  have em : m.tmod 60 = m % 60 := Int.tmod_eq_emod_of_nonneg m1
  have es : s.tmod 60 = s % 60 := Int.tmod_eq_emod_of_nonneg s1
  simp only [ed, en, eh, em, es]
  have D : 0 ≤ d % 512 ∧ d % 512 < 512 := by omega
  have S : 0 ≤ s % 60 ∧ s % 60 < 60 := by omega
  have M : 0 ≤ m % 60 ∧ m % 60 < 60 := by omega
  have H : 0 ≤ h % 24 ∧ h % 24 < 24 := by omega
  have Nn : 0 ≤ n % 1024 ∧ n % 1024 < 1024 := by omega
  generalize d % 512 = d at D
  generalize s % 60 = s at S
  generalize m % 60 = m at M
  generalize h % 24 = h at H
  generalize n % 1024 = n at Nn
  clear ed en eh em es d1 d2 h1 h2 m1 m2 s1 s2 n1 n2
  obtain ⟨d1, d2⟩ := D
  obtain ⟨h1, h2⟩ := H
  obtain ⟨m1, m2⟩ := M
  obtain ⟨s1, s2⟩ := S
  obtain ⟨n1, n2⟩ := Nn
  have can : Ck.Can ⟨s, m, h, d, false⟩ := ⟨⟨s1, s2⟩, ⟨m1, m2⟩, ⟨h1, h2⟩, ⟨d1, d2⟩⟩
  have ok : Ck.Ok ⟨s, m, h, d, false⟩ := ⟨⟨s1, by show s < 256; omega⟩, ⟨m1, by show m < 256; omega⟩, ⟨h1, by show h < 256; omega⟩, ⟨d1, d2⟩⟩
  have w1 : IntKind.i64.wrap (n * 1048576) = n * 1048576 := Ck.wi64 _ (by omega) (by omega)
  have w2 : IntKind.i64.wrap (d * 24) = d * 24 := Ck.wi64 _ (by omega) (by omega)
  have w3 : IntKind.i64.wrap h = h := Ck.wi64 _ (by omega) (by omega)
  have w4 : IntKind.i64.wrap m = m := Ck.wi64 _ (by omega) (by omega)
  have w5 : IntKind.i64.wrap s = s := Ck.wi64 _ (by omega) (by omega)
  have w6 : IntKind.i64.wrap (d * 24 + h) = d * 24 + h := Ck.wi64 _ (by omega) (by omega)
  have w7 : IntKind.i64.wrap ((d * 24 + h) * 60) = (d * 24 + h) * 60 := Ck.wi64 _ (by omega) (by omega)
  have w8 : IntKind.i64.wrap ((d * 24 + h) * 60 + m) = (d * 24 + h) * 60 + m := Ck.wi64 _ (by omega) (by omega)
  have w9 : IntKind.i64.wrap (((d * 24 + h) * 60 + m) * 60) = ((d * 24 + h) * 60 + m) * 60 := Ck.wi64 _ (by omega) (by omega)
  have w10 : IntKind.i64.wrap (((d * 24 + h) * 60 + m) * 60 + s) = ((d * 24 + h) * 60 + m) * 60 + s := Ck.wi64 _ (by omega) (by omega)
  have w11 : IntKind.i64.wrap (((d * 24 + h) * 60 + m) * 60 + s + n) = ((d * 24 + h) * 60 + m) * 60 + s + n := Ck.wi64 _ (by omega) (by omega)
  simp only [w1, w2, w3, w4, w5, w6, w7, w8, w9, w10, w11]
  have et : ((d * 24 + h) * 60 + m) * 60 + s + n = Ck.tot ⟨s, m, h, d, false⟩ + (n.toNat : Int) := by
    simp only [Ck.tot]; omega
  have eH : Ck.tkH false 0 (n * 1048576) ⟨s, m, h, d, false⟩ = Ck.secs n.toNat ⟨s, m, h, d, false⟩ := by
    unfold Ck.tkH
    split
    · rename_i hc
      have : n = 0 := by simp at hc; omega
      subst this; rfl
    · have e1 : Ck.mn (n * 1048576) = n * 1048576 := by unfold Ck.mn; split <;> omega
      rw [e1]
      congr 1
      omega
  have eU : Ck.tkU false 0 (n * 1048576) = 0 := by
    unfold Ck.tkU
    split
    · rfl
    · have e1 : Ck.mn (n * 1048576) = n * 1048576 := by unfold Ck.mn; split <;> omega
      rw [e1]; omega
  obtain ⟨q1, q2, q3, q4, q5⟩ := Ck.later can rfl n.toNat (by omega) _ rfl
  have tb := can.tot
  rw [et, eH, eU]
  generalize Ck.secs n.toNat ⟨s, m, h, d, false⟩ = b at q1 q2 q3 q4 q5
  have tn : 0 ≤ Ck.tot ⟨s, m, h, d, false⟩ + (n.toNat : Int) ∧ Ck.tot ⟨s, m, h, d, false⟩ + (n.toNat : Int) < 44300000 := by omega
  generalize Ck.tot ⟨s, m, h, d, false⟩ + (n.toNat : Int) = t at q1 q2 q3 q4 q5 tn
  obtain ⟨t1, t2⟩ := tn
  have z1 : t.tmod 60 = t % 60 := Int.tmod_eq_emod_of_nonneg t1
  have z2 : t.tdiv 60 = t / 60 := Int.tdiv_eq_ediv_of_nonneg t1
  have z3 : t.tdiv 3600 = t / 3600 := Int.tdiv_eq_ediv_of_nonneg t1
  have z4 : t.tdiv 86400 = t / 86400 := Int.tdiv_eq_ediv_of_nonneg t1
  have y2 : IntKind.i64.wrap (t / 60) = t / 60 := Ck.wi64 _ (by omega) (by omega)
  have y3 : IntKind.i64.wrap (t / 3600) = t / 3600 := Ck.wi64 _ (by omega) (by omega)
  have y4 : IntKind.i64.wrap (t / 86400) = t / 86400 := Ck.wi64 _ (by omega) (by omega)
  have x2 : (t / 60).tmod 60 = t / 60 % 60 := Int.tmod_eq_emod_of_nonneg (by omega)
  have x3 : (t / 3600).tmod 24 = t / 3600 % 24 := Int.tmod_eq_emod_of_nonneg (by omega)
  have x4 : (t / 86400).tmod 512 = t / 86400 % 512 := Int.tmod_eq_emod_of_nonneg (by omega)
  have v1 : IntKind.i64.wrap b.s = b.s := Ck.wi64 _ (by omega) (by omega)
  have v2 : IntKind.i64.wrap b.m = b.m := Ck.wi64 _ (by omega) (by omega)
  have v3 : IntKind.i64.wrap b.h = b.h := Ck.wi64 _ (by omega) (by omega)
  simp only [z1, z2, z3, z4, y2, y3, y4, x2, x3, x4, v1, v2, v3, ← q1, ← q2, ← q3, ← q4, ← q5, beq_self_eq_true, T.holds, true_and, forall_const, Bool.true_eq_false, false_implies, and_true]
  refine ⟨⟨ok, by decide, by decide⟩, ?_⟩
  exact ⟨rfl, rfl⟩
end Go.Proofs.Ytpmgaoigelplgaa
