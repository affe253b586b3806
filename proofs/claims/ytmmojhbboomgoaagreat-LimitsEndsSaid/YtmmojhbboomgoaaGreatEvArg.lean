/-
  Arguments that lead into memory: what they read, in the walks' words; and that they read so behind a call that leaves that memory alone.
-/
import Derived.Test.YtmmojhbboomgoaaGreatEvRow
import Derived.Test.YtmmojhbboomgoaaGreatEvWG
import Derived.SliceStrings
import Derived.Carry
namespace Go.Ev.Wk
set_option linter.unusedSimpArgs false
set_option linter.unusedVariables false
open Go.ChangeShapes Go.WideShapes Go.ChangeAt Go.RowKit

/-- A text, by its bytes. -/
abbrev str (l : List UInt8) : Value := .string ⟨⟨l⟩⟩

section
variable {H : Type} {enc : TypeId × Value → H} {P : Program} {W W' : World}

theorem trodAll_stays (hl : laidOutB P = true) (hst : Stays W W') {sp : Nat → Bool} : ∀ {ts : List TypeId} {vs : List Value} {ds : List (DataW H)} {ps : List MemPlace}, (ts.all fun t => P.readableRec t && decide (t < P.types.size)) = true →
    DataW.TrodAll enc P W 0 (fun _ => true) true ts vs ds ps → (∀ p ∈ ps, p.block < W.heap.size) → (∀ p ∈ ps, sp p.block = true) → DataW.TrodAll enc P W' 0 sp true ts vs ds ps
  | [], vs, ds, ps, _, h, _, _ => by
    obtain ⟨rfl, rfl, rfl⟩ := trodAll_nil h
    rfl
  | t :: ts, vs, ds, ps, hr, h, hlt, hs => by
    obtain ⟨v, vs', d, ds', p, q, rfl, rfl, rfl, h1, h2⟩ := trodAll_cons h
    simp only [List.all_cons, Bool.and_eq_true, decide_eq_true_eq] at hr
    refine ⟨p, q, ?_, trodAll_stays hl hst hr.2 h2 (fun x hx => hlt x (by simp [hx])) (fun x hx => hs x (by simp [hx])), rfl⟩
    refine WideElems.Trod_stays hl hr.1.1 hr.1.2 h1 (fun x hx => ?_) (fun x hx => hs x (by simp [hx]))
    have := hst.1 x.block (hlt x (by simp [hx]))
    cases x with
    | cell b o => simp only [World.sameAt]; simp only [MemPlace.block] at this; simp [World.cell?, this]
    | map b => simp only [World.sameAt]; simp only [MemPlace.block] at this; rw [this]

theorem okWide_spot {t e : TypeId} {base : Nat} {r : Reach} {a : Addr} {len cap : Nat} (ht : P.underlying t = some (.slice e)) (h : Value.okWide P W r base t (.slice (some a) len cap)) : a.spot = none := by
  simp only [Value.okWide, ht, Cell.okWide, Cell.ok] at h
  exact h.2.2.2.1

theorem sl_old {a : Addr} {len cap : Nat} {cs : List Value} (hsp : a.spot = none) (hle : len ≤ cap) (hl : cs.length = len) (hc : ∀ i v, cs[i]? = some v → W.cell? (a.add i) = some v ∧ flat v = true) : ∀ H, Sl W.cell? H (.slice (some a) len cap) 1 len cs := by
  intro H
  obtain ⟨b, off, s⟩ := a
  simp only at hsp
  subst hsp
  refine ⟨by omega, .inr ⟨b, off, none, cap, rfl, rdN_of_get (by omega) fun i v hv => ?_, fun _ => hle, fun ver h => by cases h⟩⟩
  obtain ⟨h1, h2⟩ := hc i v hv
  have e : (⟨b, off, none⟩ : Addr).add i = ⟨b, off + i, none⟩ := by
    simp only [Addr.add]
    split
    · rename_i h0; subst h0; rfl
    · rfl
  rw [e] at h1
  simp only [rd, h1, keepFlat, h2, cond_true]

/-- a list of texts -/
theorem arg_strs {t e : TypeId} {v : Value} {d : DataW H} {ps : List MemPlace} {sp : Nat → Bool} {held : Bool} (ht : P.underlying t = some (.slice e)) (he : P.underlying e = some .string) (hc : P.cellsOf e = 1) (hv : Value.okWide P W .any 0 t v) (h : DataW.Trod enc P W 0 sp held t v d ps) :
    ∃ (a : Option Addr) (n c : Nat) (l : List (List UInt8)), v = .slice a n c ∧ l.length = n ∧ flat (.slice a n c) = true ∧ (∀ H, Sl W.cell? H (.slice a n c) 1 n (l.map str)) ∧ ∀ x ∈ l, x.length ≤ maxLen := by
  obtain ⟨a, n, c, rfl⟩ := okWide_slice ht hv
  obtain ⟨fuel, hf⟩ := h
  rcases open_strings ht he hc hf with ⟨hcs, hx⟩ | ⟨a', len, cap, ss, hcs, _, hle, hm, hz, hx, hcell, hsz⟩
  · have hcs : [Value.slice a n c] = [.slice none 0 0] := hcs
    cases hcs
    exact ⟨none, 0, 0, [], rfl, rfl, rfl, fun H => Sl.nil, fun x hx => by cases hx⟩
  · have hcs : [Value.slice a n c] = [.slice (some a') len cap] := hcs
    cases hcs
    have hsp := okWide_spot ht hv
    have hlen : n ≤ ss.length := by rw [hz]; split <;> omega
    refine ⟨some a', n, c, (ss.take n).map (·.data.toList), rfl, by simp [hlen], by simp [flat, hsp], ?_, ?_⟩
    · refine sl_old hsp hle (by simp [hlen]) fun i v hv => ?_
      simp only [List.map_map, List.getElem?_map, Option.map_eq_some_iff] at hv
      obtain ⟨s, hs, rfl⟩ := hv
      have hi : i < n := by
        have := (List.getElem?_eq_some_iff.1 hs).1
        rw [List.length_take] at this; omega
      rw [List.getElem?_take, if_pos hi] at hs
      refine ⟨?_, rfl⟩
      rw [hcell i (by omega), List.getD, hs]
      rfl
    · intro x hx
      obtain ⟨s, hs, rfl⟩ := List.mem_map.1 hx
      rw [Array.length_toList]
      exact hsz s (List.mem_of_mem_take hs)

/-- a list of numbers -/
theorem arg_ints {t e : TypeId} {k : IntKind} {v : Value} {d : DataW H} {ps : List MemPlace} {sp : Nat → Bool} {held : Bool} (ht : P.underlying t = some (.slice e)) (he : P.underlying e = some (.int k)) (hc : P.cellsOf e = 1) (hv : Value.okWide P W .any 0 t v) (h : DataW.Trod enc P W 0 sp held t v d ps) :
    ∃ (a : Option Addr) (n c : Nat) (l : List Int), v = .slice a n c ∧ l.length = n ∧ flat (.slice a n c) = true ∧ (∀ H, Sl W.cell? H (.slice a n c) 1 n (l.map (.int k))) ∧ ∀ x ∈ l, (Lit.int k x).wf = true := by
  obtain ⟨a, n, c, rfl⟩ := okWide_slice ht hv
  obtain ⟨fuel, hf⟩ := h
  rcases open_ints ht he hc hf with ⟨hcs, hx⟩ | ⟨a', len, cap, zs, hcs, _, hle, hm, hz, hx, hcell, hwf⟩
  · have hcs : [Value.slice a n c] = [.slice none 0 0] := hcs
    cases hcs
    exact ⟨none, 0, 0, [], rfl, rfl, rfl, fun H => Sl.nil, fun x hx => by cases hx⟩
  · have hcs : [Value.slice a n c] = [.slice (some a') len cap] := hcs
    cases hcs
    have hsp := okWide_spot ht hv
    have hlen : n ≤ zs.length := by rw [hz]; split <;> omega
    refine ⟨some a', n, c, zs.take n, rfl, by simp [hlen], by simp [flat, hsp], ?_, ?_⟩
    · refine sl_old hsp hle (by simp [hlen]) fun i v hv => ?_
      simp only [List.getElem?_map, Option.map_eq_some_iff] at hv
      obtain ⟨s, hs, rfl⟩ := hv
      have hi : i < n := by
        have := (List.getElem?_eq_some_iff.1 hs).1
        rw [List.length_take] at this; omega
      rw [List.getElem?_take, if_pos hi] at hs
      refine ⟨?_, rfl⟩
      rw [hcell i (by omega), List.getD, hs]
      rfl
    · intro x hx
      exact hwf x (List.mem_of_mem_take hx)

theorem mapM_range2 {f : Nat → Option Value} {r : List Value} (h : (List.range 2).mapM f = some r) : ∃ x y, f 0 = some x ∧ f 1 = some y ∧ r = [x, y] := by
  simp only [List.range_succ, List.range_zero, List.nil_append, List.singleton_append, List.mapM_cons, List.mapM_nil] at h
  cases h0 : f 0 with
  | none => simp [h0] at h
  | some x => cases h1 : f 1 with
    | none => simp [h0, h1] at h
    | some y => simp [h0, h1] at h; exact ⟨x, y, rfl, rfl, h.symm⟩

/-- pairs of numbers, as cells -/
def pairC (k1 k2 : IntKind) : List (Int × Int) → List Value
  | [] => []
  | p :: l => .int k1 p.1 :: .int k2 p.2 :: pairC k1 k2 l

theorem pairC_length (k1 k2 : IntKind) : ∀ l, (pairC k1 k2 l).length = l.length * 2
  | [] => rfl
  | p :: l => by simp only [pairC, List.length_cons, pairC_length k1 k2 l]; omega

theorem pairC_get (k1 k2 : IntKind) : ∀ (l : List (Int × Int)) (i : Nat) (p : Int × Int), l[i]? = some p → (pairC k1 k2 l)[i * 2]? = some (.int k1 p.1) ∧ (pairC k1 k2 l)[i * 2 + 1]? = some (.int k2 p.2)
  | [], i, p, h => by simp at h
  | q :: l, 0, p, h => by simp at h; subst h; exact ⟨rfl, rfl⟩
  | q :: l, i + 1, p, h => by
    simp at h
    have := pairC_get k1 k2 l i p h
    have e1 : (i + 1) * 2 = i * 2 + 1 + 1 := by omega
    rw [e1]
    exact this

/-- a list of pairs of numbers -/
theorem arg_pairs {t e : TypeId} {k1 k2 : IntKind} {t1 t2 : TypeId} {fs : Array Field} {v : Value} {d : DataW H} {ps : List MemPlace} {sp : Nat → Bool} {held : Bool} (ht : P.underlying t = some (.slice e)) (he : P.underlying e = some (.struct fs)) (hn : P.cellsOf e = 2) (h1 : P.underlying t1 = some (.int k1)) (h2 : P.underlying t2 = some (.int k2))
    (hfs : (fs.toList.map fun f => (f.type, f.offset, P.cellsOf f.type)) = [(t1, 0, 1), (t2, 1, 1)]) (hv : Value.okWide P W .any 0 t v) (h : DataW.Trod enc P W 0 sp held t v d ps) :
    ∃ (a : Option Addr) (n c : Nat) (l : List (Int × Int)), v = .slice a n c ∧ l.length = n ∧ flat (.slice a n c) = true ∧ (∀ H, Sl W.cell? H (.slice a n c) 2 n (pairC k1 k2 l)) ∧ ∀ x ∈ l, (Lit.int k1 x.1).wf = true ∧ (Lit.int k2 x.2).wf = true := by
  obtain ⟨a, n, c, rfl⟩ := okWide_slice ht hv
  obtain ⟨fuel, hf⟩ := h
  rcases DataW.trod_slice ht hf with ⟨hcs, _⟩ | ⟨a', len, cap, elems, rest, m, _, hcs, _, _, hle, _, hlen, hel, _, _⟩
  · have hcs : [Value.slice a n c] = [.slice none 0 0] := hcs
    cases hcs
    exact ⟨none, 0, 0, [], rfl, rfl, rfl, fun H => Sl.nil, fun x hx => by cases hx⟩
  · have hcs : [Value.slice a n c] = [.slice (some a') len cap] := hcs
    cases hcs
    have hsp := okWide_spot ht hv
    have each : ∀ i, i < n → ∃ p : Int × Int, W.cell? (a'.add (i * 2)) = some (.int k1 p.1) ∧ W.cell? ((a'.add (i * 2)).add 1) = some (.int k2 p.2) ∧ (Lit.int k1 p.1).wf = true ∧ (Lit.int k2 p.2).wf = true := by
      intro i hi
      have hE := hel i hi
      have hil : i < elems.length := by omega
      rw [hn, List.getElem?_eq_getElem hil, Option.bind_eq_some_iff] at hE
      obtain ⟨cs, hc, hy⟩ := hE
      unfold World.cells? at hc
      split at hc
      · obtain ⟨x, y, hx, hy2, rfl⟩ := mapM_range2 hc
        obtain ⟨xs, m', _, _, _, hxs, hfl⟩ := DataW.trod_struct he hy
        have hf0 : ∃ f, fs[0]? = some f ∧ f.type = t1 ∧ f.offset = 0 ∧ P.cellsOf f.type = 1 := by
          have := congrArg (fun l => l[0]?) hfs
          simp only [List.getElem?_map, List.getElem?_cons_zero, Option.map_eq_some_iff, Prod.mk.injEq] at this
          obtain ⟨f, e1, e2, e3, e4⟩ := this
          exact ⟨f, by simpa using e1, e2, e3, e4⟩
        have hf1 : ∃ f, fs[1]? = some f ∧ f.type = t2 ∧ f.offset = 1 ∧ P.cellsOf f.type = 1 := by
          have := congrArg (fun l => l[1]?) hfs
          simp only [List.getElem?_map, List.getElem?_cons_succ, List.getElem?_cons_zero, Option.map_eq_some_iff, Prod.mk.injEq] at this
          obtain ⟨f, e1, e2, e3, e4⟩ := this
          exact ⟨f, by simpa using e1, e2, e3, e4⟩
        obtain ⟨f0, g0, g1, g2, g3⟩ := hf0
        obtain ⟨f1, g4, g5, g6, g7⟩ := hf1
        have hx0 := hfl 0 f0 g0
        have hx1 := hfl 1 f1 g4
        have hsz : 2 ≤ xs.length := by
          rw [hxs]
          have := (Array.getElem?_eq_some_iff.1 g4).1
          omega
        rw [g3, g2, g1, List.getElem?_eq_getElem (by omega)] at hx0
        rw [g7, g6, g5, List.getElem?_eq_getElem (by omega)] at hx1
        obtain ⟨q1, e1, _, w1⟩ := DataW.trod_int h1 hx0
        obtain ⟨q2, e2, _, w2⟩ := DataW.trod_int h2 hx1
        simp at e1 e2
        subst e1; subst e2
        refine ⟨(q1, q2), ?_, hy2, w1, w2⟩
        have : (a'.add (i * 2)).add 0 = a'.add (i * 2) := by simp [Addr.add]
        rwa [this] at hx
      · cases hc
    have hall : ∃ l : List (Int × Int), l.length = n ∧ ∀ i p, l[i]? = some p → W.cell? (a'.add (i * 2)) = some (.int k1 p.1) ∧ W.cell? ((a'.add (i * 2)).add 1) = some (.int k2 p.2) ∧ (Lit.int k1 p.1).wf = true ∧ (Lit.int k2 p.2).wf = true := by
      classical
      refine ⟨(List.range n).pmap (fun i hi => Classical.choose (each i hi)) (fun i hi => List.mem_range.1 hi), by simp, fun i p hp => ?_⟩
      simp only [List.getElem?_pmap, List.getElem?_range] at hp
      have hin : i < n := by
        have := (List.getElem?_eq_some_iff.1 (by simpa using hp : ((List.range n).pmap (fun i hi => Classical.choose (each i hi)) (fun i hi => List.mem_range.1 hi))[i]? = some p)).1
        simpa using this
      have hq : p = Classical.choose (each i hin) := by
        have : ((List.range n).pmap (fun i hi => Classical.choose (each i hi)) (fun i hi => List.mem_range.1 hi))[i]? = some (Classical.choose (each i hin)) := by
          rw [List.getElem?_eq_getElem (by simpa using hin)]
          simp
        rw [show ((List.range n).pmap (fun i hi => Classical.choose (each i hi)) (fun i hi => List.mem_range.1 hi))[i]? = some p from by simpa using hp] at this
        exact Option.some.inj this
      rw [hq]
      exact Classical.choose_spec (each i hin)
    obtain ⟨l, hl, hget⟩ := hall
    obtain ⟨bb, oo, ss⟩ := a'
    simp only at hsp
    subst hsp
    have addr : ∀ q, (⟨bb, oo, none⟩ : Addr).add q = ⟨bb, oo + q, none⟩ := by
      intro q
      simp only [Addr.add]
      split
      · rename_i h0; subst h0; rfl
      · rfl
    refine ⟨some ⟨bb, oo, none⟩, n, c, l, rfl, hl, rfl, fun H => ⟨by rw [pairC_length, hl], .inr ⟨bb, oo, none, c, rfl, rdN_of_get (by rw [pairC_length, hl]) fun i v hv => ?_, fun _ => hle, fun ver h => by cases h⟩⟩, fun x hx => ?_⟩
    · have hlt : i < l.length * 2 := by rw [← pairC_length k1 k2 l]; exact (List.getElem?_eq_some_iff.1 hv).1
      have hp : l[i / 2]? = some (l[i / 2]'(by omega)) := List.getElem?_eq_getElem _
      obtain ⟨c1, c2, _, _⟩ := hget (i / 2) _ hp
      obtain ⟨d1, d2⟩ := pairC_get k1 k2 l (i / 2) _ hp
      rw [addr] at c1 c2
      by_cases hpar : i % 2 = 0
      · have e : i / 2 * 2 = i := by omega
        rw [e] at c1 d1
        rw [d1] at hv
        cases hv
        simp only [rd, c1, keepFlat, flat, cond_true]
      · have e : i / 2 * 2 + 1 = i := by omega
        rw [e] at d2
        rw [d2] at hv
        cases hv
        have e2 : (⟨bb, oo + i / 2 * 2, none⟩ : Addr).add 1 = ⟨bb, oo + i, none⟩ := by
          simp only [Addr.add]
          simp
          omega
        rw [e2] at c2
        simp only [rd, c2, keepFlat, flat, cond_true]
    · obtain ⟨i, hi⟩ := List.getElem?_of_mem hx
      exact ⟨(hget i x hi).2.2.1, (hget i x hi).2.2.2⟩

/-- a struct: its cells, each well typed; its fields, as they read -/
theorem arg_struct {t : TypeId} {fs : Array Field} {ts : List TypeId} {v : Value} {d : DataW H} {ps : List MemPlace} {sp : Nat → Bool} {held : Bool} (ht : P.underlying t = some (.struct fs)) (hts : P.cellTypes P.depth t = some ts) (hn : ts.length = P.cellsOf t) (hv : Value.okWide P W .any 0 t v) (h : DataW.Trod enc P W 0 sp held t v d ps) :
    ∃ cs : List Value, v = .agg cs.toArray ∧ cs.length = P.cellsOf t ∧ (∀ (i : Nat) (c : Value), cs[i]? = some c → ∃ u, ts[i]? = some u ∧ Cell.okWide P W .any 0 u c) ∧
      ∀ (q : Nat × TypeId × Nat × Nat), (fs.toList.map fun f => (f.type, f.offset, P.cellsOf f.type))[q.1]? = some q.2 → ∃ n x, DataW.trod enc P W 0 sp held n q.2.1 ((cs.drop q.2.2.1).take q.2.2.2) = some x := by
  obtain ⟨cs, rfl, hsz⟩ := okWide_struct ht hv
  obtain ⟨fuel, hf⟩ := h
  obtain ⟨xs, n, _, _, hlen, hxs, hfl⟩ := DataW.trod_struct ht hf
  simp only [Value.okWide, ht] at hv
  obtain ⟨cs', he, _, ts', hts', _, hrow⟩ := hv
  cases he
  rw [hts] at hts'
  cases hts'
  refine ⟨cs.toList, by simp, by simpa using hsz, fun i c hc => ?_, fun q hq => ?_⟩
  · have hc' : cs[i]? = some c := by simpa using hc
    obtain ⟨u, hu, hok⟩ := hrow i c hc'
    have hlt : i < ts.length := by
      have := (Array.getElem?_eq_some_iff.1 hc').1
      omega
    rw [Nat.mod_eq_of_lt hlt] at hu
    exact ⟨u, hu, hok⟩
  · rw [List.getElem?_map] at hq
    cases hfi : fs.toList[q.1]? with
    | none => rw [hfi] at hq; cases hq
    | some f =>
      rw [hfi] at hq
      simp only [Option.map_some, Option.some.injEq] at hq
      have hfi' : fs[q.1]? = some f := by simpa using hfi
      have h1 := hfl q.1 f hfi'
      have hlt : q.1 < xs.length := by
        rw [hxs]
        exact (Array.getElem?_eq_some_iff.1 hfi').1
      rw [List.getElem?_eq_getElem hlt] at h1
      rw [← hq]
      exact ⟨n, _, h1⟩

theorem okWide_cell {u : TypeId} {c : Value} (h : Cell.okWide P W .any 0 u c) (hs : ∀ fs, P.underlying u ≠ some (.struct fs)) (ha : ∀ n e, P.underlying u ≠ some (.array n e)) : Value.okWide P W .any 0 u c := by
  unfold Value.okWide
  split
  · rename_i fs hh; exact absurd hh (hs fs)
  · rename_i n e hh; exact absurd hh (ha n e)
  · exact h

/-- a result: a list of texts, five numbers -/
theorem arg_res {t t0 e ti : TypeId} {fs : Array Field} {v : Value} {d : DataW H} {ps : List MemPlace} {sp : Nat → Bool} {held : Bool} (ht : P.underlying t = some (.struct fs)) (h0 : P.underlying t0 = some (.slice e)) (he : P.underlying e = some .string) (hc : P.cellsOf e = 1) (hi : P.underlying ti = some (.int .i64))
    (hts : P.cellTypes P.depth t = some [t0, ti, ti, ti, ti, ti]) (hn : P.cellsOf t = 6) (hfs : (fs.toList.map fun f => (f.type, f.offset, P.cellsOf f.type)) = [(t0, 0, 1), (ti, 1, 1), (ti, 2, 1), (ti, 3, 1), (ti, 4, 1), (ti, 5, 1)])
    (hv : Value.okWide P W .any 0 t v) (h : DataW.Trod enc P W 0 sp held t v d ps) :
    ∃ (a : Option Addr) (n c : Nat) (l : List (List UInt8)) (x1 x2 x3 x4 x5 : Int), v = .agg #[.slice a n c, .int .i64 x1, .int .i64 x2, .int .i64 x3, .int .i64 x4, .int .i64 x5] ∧ flat (.slice a n c) = true ∧ (∀ H, Sl W.cell? H (.slice a n c) 1 n (l.map str)) := by
  obtain ⟨cs, rfl, hl, hok, hfl⟩ := arg_struct ht hts (by rw [hn]; rfl) hv h
  rw [hfs] at hfl
  rw [hn] at hl
  obtain ⟨c0, c1, c2, c3, c4, c5, rfl⟩ : ∃ c0 c1 c2 c3 c4 c5, cs = [c0, c1, c2, c3, c4, c5] := by
    match cs, hl with
    | [c0, c1, c2, c3, c4, c5], _ => exact ⟨_, _, _, _, _, _, rfl⟩
  obtain ⟨u, hu, hok0⟩ := hok 0 c0 rfl
  cases hu
  have hv0 : Value.okWide P W .any 0 t0 c0 := okWide_cell hok0 (by rw [h0]; intro fs h; cases h) (by rw [h0]; intro n e h; cases h)
  obtain ⟨n0, x0, hx0⟩ := hfl (0, t0, 0, 1) rfl
  obtain ⟨n1, y1, hy1⟩ := hfl (1, ti, 1, 1) rfl
  obtain ⟨n2, y2, hy2⟩ := hfl (2, ti, 2, 1) rfl
  obtain ⟨n3, y3, hy3⟩ := hfl (3, ti, 3, 1) rfl
  obtain ⟨n4, y4, hy4⟩ := hfl (4, ti, 4, 1) rfl
  obtain ⟨n5, y5, hy5⟩ := hfl (5, ti, 5, 1) rfl
  obtain ⟨x1, e1, _, _⟩ := DataW.trod_int hi hy1
  obtain ⟨x2, e2, _, _⟩ := DataW.trod_int hi hy2
  obtain ⟨x3, e3, _, _⟩ := DataW.trod_int hi hy3
  obtain ⟨x4, e4, _, _⟩ := DataW.trod_int hi hy4
  obtain ⟨x5, e5, _, _⟩ := DataW.trod_int hi hy5
  have e1 : [c1] = [Value.int .i64 x1] := e1
  have e2 : [c2] = [Value.int .i64 x2] := e2
  have e3 : [c3] = [Value.int .i64 x3] := e3
  have e4 : [c4] = [Value.int .i64 x4] := e4
  have e5 : [c5] = [Value.int .i64 x5] := e5
  cases e1; cases e2; cases e3; cases e4; cases e5
  obtain ⟨a, n, c, rfl⟩ := okWide_slice h0 hv0
  obtain ⟨a', n', c', l, e0, hl0, hfl0, hs0, _⟩ := arg_strs (enc := enc) (d := x0.1) (ps := x0.2) h0 he hc hv0 ⟨n0, hx0⟩
  cases e0
  exact ⟨a, n, c, l, x1, x2, x3, x4, x5, rfl, hfl0, hs0⟩

theorem closed_res {a : Option Addr} {n c : Nat} {x1 x2 x3 x4 x5 : Int} (h : flat (.slice a n c) = true) : closedC (.agg #[.slice a n c, .int .i64 x1, .int .i64 x2, .int .i64 x3, .int .i64 x4, .int .i64 x5]) = true := by
  simp only [closedC, List.all_cons, h]
  rfl

theorem allC_cons {x : Value} {l : List Value} (h : closedC x = true) (t : l.all closedC = true) : (x :: l).all closedC = true := by
  simp only [List.all_cons, h, t, Bool.and_self]

theorem wf_u8 {n : Int} (h : (Lit.int .u8 n).wf = true) : 0 ≤ n ∧ n ≤ 255 := by
  simp only [Lit.wf, Bool.and_eq_true, decide_eq_true_eq] at h
  simpa [IntKind.min, IntKind.max, IntKind.signed, IntKind.bits] using h
theorem wf_i64 {n : Int} (h : (Lit.int .i64 n).wf = true) : -9223372036854775808 ≤ n ∧ n ≤ 9223372036854775807 := by
  simp only [Lit.wf, Bool.and_eq_true, decide_eq_true_eq] at h
  simpa [IntKind.min, IntKind.max, IntKind.signed, IntKind.bits] using h
theorem wf_u16 {n : Int} (h : (Lit.int .u16 n).wf = true) : 0 ≤ n ∧ n ≤ 65535 := by
  simp only [Lit.wf, Bool.and_eq_true, decide_eq_true_eq] at h
  simpa [IntKind.min, IntKind.max, IntKind.signed, IntKind.bits] using h
theorem wf_i32 {n : Int} (h : (Lit.int .i32 n).wf = true) : -2147483648 ≤ n ∧ n ≤ 2147483647 := by
  simp only [Lit.wf, Bool.and_eq_true, decide_eq_true_eq] at h
  simpa [IntKind.min, IntKind.max, IntKind.signed, IntKind.bits] using h
end
end Go.Ev.Wk
