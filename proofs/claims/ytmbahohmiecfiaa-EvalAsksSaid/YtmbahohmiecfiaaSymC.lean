/-
  The walk by computing: loops of few rounds. Conditions stand in each theorem.
-/
import Derived.Test.YtmbahohmiecfiaaSymB
namespace Go.Proofs.Ytmbahohmiecfiaa.sym
open Go.RowKit
def noCall : FuncId → List AV → List Blk → T (AV × List Blk) := fun _ _ _ => .fail "call"
theorem noCall_ok (P : Program) (w0 : World) : CallOk P w0 noCall := fun f args h K hK => hK.elim
/-- A loop of at most k rounds. -/
def fewLp (P : Program) (w0 : World) (eqT : TypeId → Bool) (f id k : Nat) : Lp := ⟨f, id, fun s => some (iter (codeT P w0 eqT noCtr noCall (fun _ _ => none) (roundOf (bodyAt P f id))) k s)⟩
theorem fewLp_ok {P : Program} {eqT : TypeId → Bool} (B : Base P eqT) (w0 : World) {f id k : Nat} (hc : bodyAt P f id = .loop (roundOf (bodyAt P f id))) (h1 : Nat.ble 5000 id = false) (h2 : Nat.beq id 777 = false) : (fewLp P w0 eqT f id k).ok P w0 := by
  intro s t h
  cases h
  show LoopOk P w0 id (textAt P f id) s _
  unfold textAt
  rw [h1, h2]
  intro bs K Q a w h ht hw R hQ
  show (bodyAt P f id).wp P Q a w
  rw [hc]
  exact wp_loop_rounds k (iter_ok (fun bs s K Q a w h ht hw R hQ => codeT_ok B.mixed B.names B.eqs (ctrs_none P w0).ok (ctrs_none P w0).there (noCall_ok P w0) (fun _ _ _ _ h => by cases h) _ bs s K Q a w h ht hw R hQ) k bs s a w h ht hw R hQ)
end Go.Proofs.Ytmbahohmiecfiaa.sym
