/-
  Arguments that are four numbers.
-/
import Derived.Test.YthifbkjkiijkoaaEvArgT
import Derived.OpenShut
namespace Go.Ev.Wk
set_option linter.unusedSimpArgs false
set_option linter.unusedVariables false
open Go.ChangeShapes Go.WideShapes Go.ChangeAt Go.RowKit

section
variable {H : Type} {enc : TypeId × Value → H} {P : Program} {W W' : World}

theorem arg_arr4 {t e : TypeId} {k : IntKind} {v : Value} {d : DataW H} {ps : List MemPlace} {sp : Nat → Bool} {held : Bool} (ht : P.underlying t = some (.array 4 e)) (he : P.underlying e = some (.int k)) (hce : P.cellsOf e = 1) (hct : P.cellsOf t = 4)
    (hv : Value.okWide P W .any 0 t v) (h : DataW.Trod enc P W 0 sp held t v d ps) :
    ∃ (a b c f : Int), v = .agg #[.int k a, .int k b, .int k c, .int k f] ∧ d = .agg [.lit (.int k a), .lit (.int k b), .lit (.int k c), .lit (.int k f)] ∧ (Lit.int k a).wf = true ∧ (Lit.int k b).wf = true ∧ (Lit.int k c).wf = true ∧ (Lit.int k f).wf = true := by
  obtain ⟨cs, rfl, hsz⟩ : ∃ cs, v = .agg cs ∧ cs.size = P.cellsOf t := by
    simp only [Value.okWide, ht] at hv
    obtain ⟨cs, h1, h2, _⟩ := hv
    exact ⟨cs, h1, h2⟩
  obtain ⟨fuel, hf⟩ := h
  obtain ⟨xs, n, _, hx, hlen, hxs, hfl⟩ := DataW.trod_array ht hf
  simp only [Prod.mk.injEq] at hx
  obtain ⟨cs⟩ := cs
  have hl4 : cs.length = 4 := by rw [hct] at hsz; simpa using hsz
  rw [hce] at hfl
  match cs, hl4, xs, hxs with
  | [c0, c1, c2, c3], _, [y0, y1, y2, y3], _ =>
    obtain ⟨a, e0, f0, w0⟩ := DataW.trod_int he (show DataW.trod enc P W 0 sp held n e [c0] = some y0 from hfl 0 (by omega))
    obtain ⟨b, e1, f1, w1⟩ := DataW.trod_int he (show DataW.trod enc P W 0 sp held n e [c1] = some y1 from hfl 1 (by omega))
    obtain ⟨c, e2, f2, w2⟩ := DataW.trod_int he (show DataW.trod enc P W 0 sp held n e [c2] = some y2 from hfl 2 (by omega))
    obtain ⟨f, e3, f3, w3⟩ := DataW.trod_int he (show DataW.trod enc P W 0 sp held n e [c3] = some y3 from hfl 3 (by omega))
    cases e0; cases e1; cases e2; cases e3
    subst f0; subst f1; subst f2; subst f3
    exact ⟨a, b, c, f, rfl, hx.1, w0, w1, w2, w3⟩

theorem closed_arr4 {k : IntKind} {a b c d : Int} : closedC (.agg #[.int k a, .int k b, .int k c, .int k d]) = true := rfl
end
end Go.Ev.Wk
