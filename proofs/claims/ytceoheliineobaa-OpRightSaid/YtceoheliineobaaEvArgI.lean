/-
  Arguments that are structs of numbers and texts: an instruction.
-/
import Derived.Test.YtceoheliineobaaEvArgT
namespace Go.Ev.Wk
set_option linter.unusedSimpArgs false
set_option linter.unusedVariables false
open Go.ChangeShapes Go.WideShapes Go.ChangeAt Go.RowKit

section
variable {H : Type} {enc : TypeId × Value → H} {P : Program} {W W' : World}

theorem arg_cells {t : TypeId} {fs : Array Field} {fts : List TypeId} {v : Value} {d : DataW H} {ps : List MemPlace} {sp : Nat → Bool} {held : Bool} (ht : P.underlying t = some (.struct fs)) (hn : P.cellsOf t = fts.length) (hfs : (fs.toList.map fun f => (f.type, f.offset, P.cellsOf f.type)) = fts.zipIdx.map fun p => (p.1, p.2, 1))
    (hv : Value.okWide P W .any 0 t v) (h : DataW.Trod enc P W 0 sp held t v d ps) :
    ∃ (cs : List Value) (xs : List (DataW H × List MemPlace)) (n : Nat), v = .agg cs.toArray ∧ d = .agg (xs.map (·.1)) ∧ cs.length = fts.length ∧ xs.length = fts.length ∧
      ∀ (i : Nat) (f : TypeId) (c : Value) (y : DataW H × List MemPlace), fts[i]? = some f → cs[i]? = some c → xs[i]? = some y → DataW.trod enc P W 0 sp held n f [c] = some y := by
  obtain ⟨cs, rfl, hsz⟩ := okWide_struct ht hv
  obtain ⟨fuel, hf⟩ := h
  obtain ⟨xs, n, _, hx, hlen, hxs, hfl⟩ := DataW.trod_struct ht hf
  have hfz : fs.size = fts.length := by have := congrArg List.length hfs; simpa using this
  simp only [Prod.mk.injEq] at hx
  refine ⟨cs.toList, xs, n, by simp, hx.1, by rw [Array.length_toList]; omega, by omega, fun i f c y hif hic hiy => ?_⟩
  have hi : i < fts.length := (List.getElem?_eq_some_iff.1 hif).1
  have hg := congrArg (fun l => l[i]?) hfs
  simp only [List.getElem?_map, List.getElem?_zipIdx, hif, Option.map_some, Option.map_eq_some_iff, Prod.mk.injEq] at hg
  obtain ⟨g, e1, e2, e3, e4⟩ := hg
  have hx1 := hfl i g (by simpa using e1)
  have hc1 : (cs.toList.drop (0 + i)).take 1 = [c] := by
    obtain ⟨hlt, rfl⟩ := List.getElem?_eq_some_iff.1 hic
    rw [Nat.zero_add, List.drop_eq_getElem_cons hlt]
    rfl
  rw [e4, e3, e2, hiy] at hx1
  have hx1 : DataW.trod enc P W 0 sp held n f ((cs.toList.drop (0 + i)).take 1) = some y := hx1
  rwa [hc1] at hx1

theorem arg_ins {t t1 t2 t3 : TypeId} {fs : Array Field} {v : Value} {d : DataW H} {ps : List MemPlace} {sp : Nat → Bool} {held : Bool} (ht : P.underlying t = some (.struct fs)) (h1 : P.underlying t1 = some (.int .i64)) (h2 : P.underlying t2 = some (.int .i32)) (h3 : P.underlying t3 = some .string)
    (hn : P.cellsOf t = 7) (hfs : (fs.toList.map fun f => (f.type, f.offset, P.cellsOf f.type)) = ([t1, t2, t1, t3, t3, t3, t3].zipIdx.map fun p => (p.1, p.2, 1)))
    (hv : Value.okWide P W .any 0 t v) (h : DataW.Trod enc P W 0 sp held t v d ps) :
    ∃ (a b c : Int) (s1 s2 s3 s4 : List UInt8), v = .agg #[.int .i64 a, .int .i32 b, .int .i64 c, str s1, str s2, str s3, str s4] ∧ d = .agg [.lit (.int .i64 a), .lit (.int .i32 b), .lit (.int .i64 c), .lit (.string s1), .lit (.string s2), .lit (.string s3), .lit (.string s4)] := by
  obtain ⟨cs, xs, n, rfl, rfl, hcl, hxl, hall⟩ := arg_cells (fts := [t1, t2, t1, t3, t3, t3, t3]) ht hn hfs hv h
  match cs, hcl, xs, hxl with
  | [c0, c1, c2, c3, c4, c5, c6], _, [y0, y1, y2, y3, y4, y5, y6], _ =>
    obtain ⟨a, e0, f0, w0⟩ := DataW.trod_int h1 (hall 0 t1 c0 y0 rfl rfl rfl)
    obtain ⟨b, e1, f1, w1⟩ := DataW.trod_int h2 (hall 1 t2 c1 y1 rfl rfl rfl)
    obtain ⟨c, e2, f2, w2⟩ := DataW.trod_int h1 (hall 2 t1 c2 y2 rfl rfl rfl)
    obtain ⟨s1, e3, f3, w3⟩ := DataW.trod_string h3 (hall 3 t3 c3 y3 rfl rfl rfl)
    obtain ⟨s2, e4, f4, w4⟩ := DataW.trod_string h3 (hall 4 t3 c4 y4 rfl rfl rfl)
    obtain ⟨s3, e5, f5, w5⟩ := DataW.trod_string h3 (hall 5 t3 c5 y5 rfl rfl rfl)
    obtain ⟨s4, e6, f6, w6⟩ := DataW.trod_string h3 (hall 6 t3 c6 y6 rfl rfl rfl)
    cases e0; cases e1; cases e2; cases e3; cases e4; cases e5; cases e6
    subst f0; subst f1; subst f2; subst f3; subst f4; subst f5; subst f6
    exact ⟨a, b, c, s1.data.toList, s2.data.toList, s3.data.toList, s4.data.toList, rfl, rfl⟩

theorem closed_ins {a b c : Int} {s1 s2 s3 s4 : List UInt8} : closedC (.agg #[.int .i64 a, .int .i32 b, .int .i64 c, str s1, str s2, str s3, str s4]) = true := rfl
end
end Go.Ev.Wk
