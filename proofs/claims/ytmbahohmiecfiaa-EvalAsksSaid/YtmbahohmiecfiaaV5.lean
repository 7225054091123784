/-
  What is peeked by the document's function: its contract is kept.
-/
import Derived.Test.YtmbahohmiecfiaaR2
namespace Go.Proofs.Ytmbahohmiecfiaa
open Go.RowKit sym
set_option linter.unusedVariables false
set_option linter.unusedSimpArgs false
set_option maxRecDepth 100000
/-- What is peeked by the document's function. -/
def rpkC (ev : Value) (F : Int → Int) : RCtr := ⟨17, [none, none], fun | [.av (.v y), .av (.v (.one (.int _ .u16 x)))] => some (.chk (y.γ [] = ev ∧ 0 ≤ x ∧ x < 65536) (.leaf [.av (.one (.int false .u8 (F x)))])) | _ => none⟩
theorem Ok_later {c : RCtr} {w0 w : World} (h : c.Ok Try.prog w0) (hb : Below w0.heap.size w0 w) : c.Ok Try.prog w := ⟨h.there, fun w' hw' => h.it w' (hb.trans (hw'.mono hb.size))⟩
theorem Ctr_later {c : Ctr} {w0 w : World} (h : c.ok Try.prog w0) (hb : Below w0.heap.size w0 w) : c.ok Try.prog w := ⟨h.1, fun args t ht => ⟨(h.2 args t ht).1, fun K hK => by
  obtain ⟨x, h1, h2, h3⟩ := (h.2 args t ht).2 K hK
  exact ⟨x, h1, h2, fun w' hw' => h3 w' (hb.trans (hw'.mono hb.size))⟩⟩⟩
theorem pk_ok {ev : Value} {F : Int → Int} {w : World} (hP : (rpkC ev F).Ok Try.prog w) : ∀ c ∈ [rpkC ev F], c.Ok Try.prog w := fun c hc => by
  simp only [List.mem_cons, List.not_mem_nil, or_false] at hc
  subst hc
  exact hP
end Go.Proofs.Ytmbahohmiecfiaa
