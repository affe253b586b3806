/-
  Arguments that are numbers with texts: lists of them, and one alone.
-/
import Derived.Test.YthifbkjkiijkoaaEvArg
namespace Go.Ev.Wk
set_option linter.unusedSimpArgs false
set_option linter.unusedVariables false
open Go.ChangeShapes Go.WideShapes Go.ChangeAt Go.RowKit

section
variable {H : Type} {enc : TypeId × Value → H} {P : Program} {W W' : World}

/-- pairs of a number and a text, as cells -/
def pairT (k1 : IntKind) : List (Int × List UInt8) → List Value
  | [] => []
  | p :: l => .int k1 p.1 :: str p.2 :: pairT k1 l

theorem pairT_length (k1 : IntKind) : ∀ l, (pairT k1 l).length = l.length * 2
  | [] => rfl
  | p :: l => by simp only [pairT, List.length_cons, pairT_length k1 l]; omega

theorem pairT_get (k1 : IntKind) : ∀ (l : List (Int × List UInt8)) (i : Nat) (p : Int × List UInt8), l[i]? = some p → (pairT k1 l)[i * 2]? = some (.int k1 p.1) ∧ (pairT k1 l)[i * 2 + 1]? = some (str p.2)
  | [], i, p, h => by simp at h
  | q :: l, 0, p, h => by simp at h; subst h; exact ⟨rfl, rfl⟩
  | q :: l, i + 1, p, h => by
    simp at h
    have := pairT_get k1 l i p h
    have e1 : (i + 1) * 2 = i * 2 + 1 + 1 := by omega
    rw [e1]
    exact this

/-- a list of pairs: a number and a text -/
theorem arg_pairT {t e : TypeId} {k1 : IntKind} {t1 t2 : TypeId} {fs : Array Field} {v : Value} {d : DataW H} {ps : List MemPlace} {sp : Nat → Bool} {held : Bool} (ht : P.underlying t = some (.slice e)) (he : P.underlying e = some (.struct fs)) (hn : P.cellsOf e = 2) (h1 : P.underlying t1 = some (.int k1)) (h2 : P.underlying t2 = some .string)
    (hfs : (fs.toList.map fun f => (f.type, f.offset, P.cellsOf f.type)) = [(t1, 0, 1), (t2, 1, 1)]) (hv : Value.okWide P W .any 0 t v) (h : DataW.Trod enc P W 0 sp held t v d ps) :
    ∃ (a : Option Addr) (n c : Nat) (l : List (Int × List UInt8)), v = .slice a n c ∧ l.length = n ∧ flat (.slice a n c) = true ∧ (∀ H, Sl W.cell? H (.slice a n c) 2 n (pairT k1 l)) ∧ ∀ x ∈ l, (Lit.int k1 x.1).wf = true ∧ x.2.length ≤ maxLen := by
  obtain ⟨a, n, c, rfl⟩ := okWide_slice ht hv
  obtain ⟨fuel, hf⟩ := h
  rcases DataW.trod_slice ht hf with ⟨hcs, _⟩ | ⟨a', len, cap, elems, rest, m, _, hcs, _, _, hle, _, hlen, hel, _, _⟩
  · have hcs : [Value.slice a n c] = [.slice none 0 0] := hcs
    cases hcs
    exact ⟨none, 0, 0, [], rfl, rfl, rfl, fun H => Sl.nil, fun x hx => by cases hx⟩
  · have hcs : [Value.slice a n c] = [.slice (some a') len cap] := hcs
    cases hcs
    have hsp := okWide_spot ht hv
    have each : ∀ i, i < n → ∃ p : Int × List UInt8, W.cell? (a'.add (i * 2)) = some (.int k1 p.1) ∧ W.cell? ((a'.add (i * 2)).add 1) = some (str p.2) ∧ (Lit.int k1 p.1).wf = true ∧ p.2.length ≤ maxLen := by
      intro i hi
      have hE := hel i hi
      have hil : i < elems.length := by omega
      rw [hn, List.getElem?_eq_getElem hil, Option.bind_eq_some_iff] at hE
      obtain ⟨cs, hc, hy⟩ := hE
      unfold World.cells? at hc
      split at hc
      · obtain ⟨x, y, hx, hy2, rfl⟩ := mapM_range2 hc
        obtain ⟨xs, m', _, _, _, hxs, hfl⟩ := DataW.trod_struct he hy
        have hf0 : ∃ f, fs[0]? = some f ∧ f.type = t1 ∧ f.offset = 0 ∧ P.cellsOf f.type = 1 := by
          have := congrArg (fun l => l[0]?) hfs
          simp only [List.getElem?_map, List.getElem?_cons_zero, Option.map_eq_some_iff, Prod.mk.injEq] at this
          obtain ⟨f, e1, e2, e3, e4⟩ := this
          exact ⟨f, by simpa using e1, e2, e3, e4⟩
        have hf1 : ∃ f, fs[1]? = some f ∧ f.type = t2 ∧ f.offset = 1 ∧ P.cellsOf f.type = 1 := by
          have := congrArg (fun l => l[1]?) hfs
          simp only [List.getElem?_map, List.getElem?_cons_succ, List.getElem?_cons_zero, Option.map_eq_some_iff, Prod.mk.injEq] at this
          obtain ⟨f, e1, e2, e3, e4⟩ := this
          exact ⟨f, by simpa using e1, e2, e3, e4⟩
        obtain ⟨f0, g0, g1, g2, g3⟩ := hf0
        obtain ⟨f1, g4, g5, g6, g7⟩ := hf1
        have hx0 := hfl 0 f0 g0
        have hx1 := hfl 1 f1 g4
        have hsz : 2 ≤ xs.length := by
          rw [hxs]
          have := (Array.getElem?_eq_some_iff.1 g4).1
          omega
        rw [g3, g2, g1, List.getElem?_eq_getElem (by omega)] at hx0
        rw [g7, g6, g5, List.getElem?_eq_getElem (by omega)] at hx1
        obtain ⟨q1, e1, _, w1⟩ := DataW.trod_int h1 hx0
        obtain ⟨q2, e2, _, w2⟩ := DataW.trod_string h2 hx1
        simp at e1 e2
        subst e1; subst e2
        refine ⟨(q1, q2.data.toList), ?_, hy2, w1, by rw [Array.length_toList]; exact w2⟩
        have : (a'.add (i * 2)).add 0 = a'.add (i * 2) := by simp [Addr.add]
        rwa [this] at hx
      · cases hc
    have hall : ∃ l : List (Int × List UInt8), l.length = n ∧ ∀ i p, l[i]? = some p → W.cell? (a'.add (i * 2)) = some (.int k1 p.1) ∧ W.cell? ((a'.add (i * 2)).add 1) = some (str p.2) ∧ (Lit.int k1 p.1).wf = true ∧ p.2.length ≤ maxLen := by
      classical
      refine ⟨(List.range n).pmap (fun i hi => Classical.choose (each i hi)) (fun i hi => List.mem_range.1 hi), by simp, fun i p hp => ?_⟩
      simp only [List.getElem?_pmap, List.getElem?_range] at hp
      have hin : i < n := by
        have := (List.getElem?_eq_some_iff.1 (by simpa using hp : ((List.range n).pmap (fun i hi => Classical.choose (each i hi)) (fun i hi => List.mem_range.1 hi))[i]? = some p)).1
        simpa using this
      have hq : p = Classical.choose (each i hin) := by
        have : ((List.range n).pmap (fun i hi => Classical.choose (each i hi)) (fun i hi => List.mem_range.1 hi))[i]? = some (Classical.choose (each i hin)) := by
          rw [List.getElem?_eq_getElem (by simpa using hin)]
          simp
        rw [show ((List.range n).pmap (fun i hi => Classical.choose (each i hi)) (fun i hi => List.mem_range.1 hi))[i]? = some p from by simpa using hp] at this
        exact Option.some.inj this
      rw [hq]
      exact Classical.choose_spec (each i hin)
    obtain ⟨l, hl, hget⟩ := hall
    obtain ⟨bb, oo, ss⟩ := a'
    simp only at hsp
    subst hsp
    have addr : ∀ q, (⟨bb, oo, none⟩ : Addr).add q = ⟨bb, oo + q, none⟩ := by
      intro q
      simp only [Addr.add]
      split
      · rename_i h0; subst h0; rfl
      · rfl
    refine ⟨some ⟨bb, oo, none⟩, n, c, l, rfl, hl, rfl, fun H => ⟨by rw [pairT_length, hl], .inr ⟨bb, oo, none, c, rfl, rdN_of_get (by rw [pairT_length, hl]) fun i v hv => ?_, fun _ => hle, fun ver h => by cases h⟩⟩, fun x hx => ?_⟩
    · have hlt : i < l.length * 2 := by rw [← pairT_length k1 l]; exact (List.getElem?_eq_some_iff.1 hv).1
      have hp : l[i / 2]? = some (l[i / 2]'(by omega)) := List.getElem?_eq_getElem _
      obtain ⟨c1, c2, _, _⟩ := hget (i / 2) _ hp
      obtain ⟨d1, d2⟩ := pairT_get k1 l (i / 2) _ hp
      rw [addr] at c1 c2
      by_cases hpar : i % 2 = 0
      · have e : i / 2 * 2 = i := by omega
        rw [e] at c1 d1
        rw [d1] at hv
        cases hv
        simp only [rd, c1, keepFlat, flat, cond_true]
      · have e : i / 2 * 2 + 1 = i := by omega
        rw [e] at d2
        rw [d2] at hv
        cases hv
        have e2 : (⟨bb, oo + i / 2 * 2, none⟩ : Addr).add 1 = ⟨bb, oo + i, none⟩ := by
          simp only [Addr.add]
          simp
          omega
        rw [e2] at c2
        simp only [rd, c2, keepFlat, flat, cond_true]
    · obtain ⟨i, hi⟩ := List.getElem?_of_mem hx
      exact ⟨(hget i x hi).2.2.1, (hget i x hi).2.2.2⟩

/-- a number with a text -/
theorem arg_typ {t t1 t2 : TypeId} {k1 : IntKind} {fs : Array Field} {v : Value} {d : DataW H} {ps : List MemPlace} {sp : Nat → Bool} {held : Bool} (ht : P.underlying t = some (.struct fs)) (h1 : P.underlying t1 = some (.int k1)) (h2 : P.underlying t2 = some .string)
    (hts : P.cellTypes P.depth t = some [t1, t2]) (hn : P.cellsOf t = 2) (hfs : (fs.toList.map fun f => (f.type, f.offset, P.cellsOf f.type)) = [(t1, 0, 1), (t2, 1, 1)])
    (hv : Value.okWide P W .any 0 t v) (h : DataW.Trod enc P W 0 sp held t v d ps) :
    ∃ (x : Int) (s : List UInt8), v = .agg #[.int k1 x, str s] ∧ d = .agg [.lit (.int k1 x), .lit (.string s)] ∧ (Lit.int k1 x).wf = true ∧ s.length ≤ maxLen := by
  obtain ⟨cs, rfl, hsz⟩ := okWide_struct ht hv
  obtain ⟨fuel, hf⟩ := h
  obtain ⟨xs, n, _, hx, hlen, hxs, hfl⟩ := DataW.trod_struct ht hf
  have hf0 : ∃ f, fs[0]? = some f ∧ f.type = t1 ∧ f.offset = 0 ∧ P.cellsOf f.type = 1 := by
    have := congrArg (fun l => l[0]?) hfs
    simp only [List.getElem?_map, List.getElem?_cons_zero, Option.map_eq_some_iff, Prod.mk.injEq] at this
    obtain ⟨f, e1, e2, e3, e4⟩ := this
    exact ⟨f, by simpa using e1, e2, e3, e4⟩
  have hf1 : ∃ f, fs[1]? = some f ∧ f.type = t2 ∧ f.offset = 1 ∧ P.cellsOf f.type = 1 := by
    have := congrArg (fun l => l[1]?) hfs
    simp only [List.getElem?_map, List.getElem?_cons_succ, List.getElem?_cons_zero, Option.map_eq_some_iff, Prod.mk.injEq] at this
    obtain ⟨f, e1, e2, e3, e4⟩ := this
    exact ⟨f, by simpa using e1, e2, e3, e4⟩
  have hfz : fs.size = 2 := by have := congrArg List.length hfs; simpa using this
  obtain ⟨f0, g0, g1, g2, g3⟩ := hf0
  obtain ⟨f1, g4, g5, g6, g7⟩ := hf1
  have hx0 := hfl 0 f0 g0
  have hx1 := hfl 1 f1 g4
  obtain ⟨y0, y1, rfl⟩ : ∃ y0 y1, xs = [y0, y1] := by
    match xs, (show xs.length = 2 by omega) with
    | [y0, y1], _ => exact ⟨_, _, rfl⟩
  rw [g3, g2, g1] at hx0
  rw [g7, g6, g5] at hx1
  obtain ⟨c0, c1, e⟩ : ∃ c0 c1, cs.toList = [c0, c1] := by
    match cs.toList, (show cs.toList.length = 2 by rw [Array.length_toList, ← hn]; exact hsz) with
    | [c0, c1], _ => exact ⟨_, _, rfl⟩
  obtain ⟨cs⟩ := cs
  have e : cs = [c0, c1] := e
  subst e
  obtain ⟨x, e1, h3, w1⟩ := DataW.trod_int h1 (show DataW.trod enc P W 0 sp held n t1 [c0] = some y0 from hx0)
  obtain ⟨s, e2, h4, w2⟩ := DataW.trod_string h2 (show DataW.trod enc P W 0 sp held n t2 [c1] = some y1 from hx1)
  cases e1; cases e2
  subst h3; subst h4
  simp only [Prod.mk.injEq] at hx
  exact ⟨x, s.data.toList, rfl, hx.1, w1, by rw [Array.length_toList]; exact w2⟩

theorem closed_typ {k1 : IntKind} {x : Int} {s : List UInt8} : closedC (.agg #[.int k1 x, str s]) = true := rfl
end
end Go.Ev.Wk
