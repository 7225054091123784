/-
  Scans of bytes in pieces: the law walked.
-/
import Derived.Test.YtmenafkmkcodlaaR10
namespace Go.Proofs.Ytmenafkmkcodlaa
open Go.RowKit sym
set_option linter.unusedVariables false
set_option linter.unusedSimpArgs false
set_option maxRecDepth 100000
theorem pre5_ok (w : World) : PreOk Try.prog w (preOr (preOf w tab2) (fpreOf [concatC w, feedC w, framesC, rscanC w, sameFC, encC w, rencC w, fedC w])) := preOr_ok (preOf_ok (tab2_ok w)) (fpreOf_ok fun c hc => by
  simp only [List.mem_cons, List.not_mem_nil, or_false] at hc
  rcases hc with rfl | rfl | rfl | rfl | rfl | rfl | rfl | rfl
  · exact concatC_ok w
  · exact feedC_ok w
  · exact framesC_ok w
  · exact rscanC_ok w
  · exact sameFC_ok w
  · exact encC_ok w
  · exact rencC_ok w
  · exact fedC_ok w)
theorem awT_ok (w : World) : Ctrs Try.prog w (ctrOf [awC]) := ctrs_of fun c hc => by
  simp only [List.mem_cons, List.not_mem_nil, or_false] at hc
  subst hc
  exact awC_ok w
theorem ofF_W {n : Nat} {z : Nat → Int} (h : ∀ i, W (z i)) : ∀ j, W ((ofF n z).getD j 0) := fun j => by
  by_cases hj : j < n
  · rw [ofF_get hj]; exact h j
  · rw [List.getD_eq_getElem?_getD, List.getElem?_eq_none (by rw [ofF_length]; omega)]; exact ⟨by decide, by decide⟩
theorem pj_small {fs : List Fr} {X : List Int} (h : pj fs = (scanL X).1) : ∀ f ∈ fs, f.xs.length ≤ 64 := fun f hf => by
  have h1 : (f.s, f.xs) ∈ pj fs := List.mem_map_of_mem hf
  rw [h] at h1
  exact (scan_in X).2.2.2.1 _ h1
theorem pj_all {fs : List Fr} {X : List Int} (h : pj fs = (scanL X).1) : fs.length = (scanL X).1.length := by
  rw [← h, pj_length]
theorem scans_tree (w : World) (A : Option Addr) (X : List Int) (n cap : Nat) (A2 : Option Addr) (Y : List Int) (m cap2 : Nat) :
    callV Try.prog w (flatT Try.prog) (ctrOf [awC]) (preOr (preOf w tab2) (fpreOf [concatC w, feedC w, framesC, rscanC w, sameFC, encC w, rencC w, fedC w])) (noLoop) 20 7 [.v (.one (.xr A [.u8] X n cap)), .v (.one (.xr A2 [.u16] Y m cap2))] =
(.br (decide ((↑n : Int) > (3000 : Int)))
 (.leaf (.v (.one (.bool true true))))
 (.br (decide ((↑m : Int) > (200 : Int)))
  (.leaf (.v (.one (.bool true true))))
  (.chk (sym.XR w A [IntKind.u8] X n ∧
  n ≤ cap ∧
    Bs X ∧
      n ≤ (1000000 : Nat) ∧
        sym.XR w A2 [IntKind.u16] Y m ∧
          (∀ (j : Nat), W (Y.getD j (0 : Int))) ∧ m ≤ (1000000 : Nat))
  (.all fun x : FeedR X =>
   (.chk (sym.XR w A [IntKind.u8] X n ∧
  n ≤ cap ∧ n ≤ (2000000 : Nat) ∧ Bs X)
   (.all fun x_1 : FrsR (scanL X).fst =>
    (.chk (x.fn = x.fn ∧
  x_1.fn = x_1.fn ∧
    (0 : Nat) + x.fs.length ≤ x.fs.length ∧
      (0 : Nat) + x_1.fs.length ≤ x_1.fs.length ∧
        (x.fn = true → x.fs.length = (0 : Nat)) ∧
          (x_1.fn = true → x_1.fs.length = (0 : Nat)) ∧
            x.fs.length ≤ (4000000 : Nat) ∧
              ∀ (f : sym.Fr), f ∈ x.fs → f.xs.length ≤ (1000000 : Nat))
    (.br (decide
  (pj (List.take x.fs.length (List.drop (0 : Nat) x.fs)) =
    pj (List.take x_1.fs.length (List.drop (0 : Nat) x_1.fs))))
     (.br ((↑(scanL X).snd.fst : Int) == (↑(scanL X).snd.fst : Int))
      (.leaf (.v (.one (.bool false ((↑(scanL X).snd.snd.length : Int) ==
  (↑(scanL X).snd.snd.length : Int))))))
      (.leaf (.v (.one (.bool true false)))))
     (.leaf (.v (.one (.bool true false)))))))))))) := by kernel_rfl
theorem scans_walk (w : World) (A : Option Addr) (X : List Int) (n cap : Nat) (A2 : Option Addr) (Y : List Int) (m cap2 : Nat) (hX : XR w A [.u8] X n) (hc : n ≤ cap) (hb : Bs X) (hY : XR w A2 [.u16] Y m) (hc2 : m ≤ cap2) (hW : ∀ j, W (Y.getD j 0)) : Calls Try.prog 7 #[.slice A n cap, .slice A2 m cap2] w fun e w' => e = .returned (.bool true) ∧ Below w.heap.size w w' := by
  refine val_eq base2 (awT_ok w) (pre5_ok w) (loops_none _ _) (scans_tree w A X n cap A2 Y m cap2) rfl ?_
  refine ⟨fun _ => ⟨rfl, rfl⟩, fun h1 => ⟨fun _ => ⟨rfl, rfl⟩, fun h2 => ?_⟩⟩
  have h1' : n ≤ 3000 := by have := of_decide_eq_false h1; omega
  have h2' : m ≤ 200 := by have := of_decide_eq_false h2; omega
  have hXl : X.length = n := by simpa using hX.1
  obtain ⟨s1, s2, s3, s4, s5⟩ := scan_in X
  refine ⟨⟨hX, hc, hb, by omega, hY, hW, by omega⟩, fun x => ⟨⟨hX, hc, by omega, hb⟩, fun y => ?_⟩⟩
  have hxl := pj_all x.eq
  refine ⟨⟨rfl, rfl, by omega, by omega, fun h => (x.fnil h).1, fun h => (y.fnil h).1, by omega, fun f hf => by have := pj_small x.eq f hf; omega⟩, fun _ => ⟨fun _ => ⟨rfl, ?_⟩, fun h => ?_⟩, fun h => ?_⟩
  · show Value.bool _ = Value.bool true
    simp
  · simp at h
  · rw [List.drop_zero, List.drop_zero, List.take_length, List.take_length, x.eq, y.eq] at h
    simp at h
end Go.Proofs.Ytmenafkmkcodlaa
