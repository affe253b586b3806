/-
  Arguments that lead into memory: what they read, in the walks' words; and that they read so behind a call that leaves that memory alone.
-/
import Derived.Test.YtafbconajhpijaaEvRow
import Derived.Test.YtafbconajhpijaaEvWG
import Derived.SliceStrings
import Derived.Carry
namespace Go.Ev.Wk
set_option linter.unusedSimpArgs false
set_option linter.unusedVariables false
open Go.ChangeShapes Go.WideShapes Go.ChangeAt Go.RowKit

/-- A text, by its bytes. -/
abbrev str (l : List UInt8) : Value := .string ⟨⟨l⟩⟩

section
variable {H : Type} {enc : TypeId × Value → H} {P : Program} {W W' : World}

theorem trodAll_stays (hl : laidOutB P = true) (hst : Stays W W') {sp : Nat → Bool} : ∀ {ts : List TypeId} {vs : List Value} {ds : List (DataW H)} {ps : List MemPlace}, (ts.all fun t => P.readableRec t && decide (t < P.types.size)) = true →
    DataW.TrodAll enc P W 0 (fun _ => true) true ts vs ds ps → (∀ p ∈ ps, p.block < W.heap.size) → (∀ p ∈ ps, sp p.block = true) → DataW.TrodAll enc P W' 0 sp true ts vs ds ps
  | [], vs, ds, ps, _, h, _, _ => by
    obtain ⟨rfl, rfl, rfl⟩ := trodAll_nil h
    rfl
  | t :: ts, vs, ds, ps, hr, h, hlt, hs => by
    obtain ⟨v, vs', d, ds', p, q, rfl, rfl, rfl, h1, h2⟩ := trodAll_cons h
    simp only [List.all_cons, Bool.and_eq_true, decide_eq_true_eq] at hr
    refine ⟨p, q, ?_, trodAll_stays hl hst hr.2 h2 (fun x hx => hlt x (by simp [hx])) (fun x hx => hs x (by simp [hx])), rfl⟩
    refine WideElems.Trod_stays hl hr.1.1 hr.1.2 h1 (fun x hx => ?_) (fun x hx => hs x (by simp [hx]))
    have := hst.1 x.block (hlt x (by simp [hx]))
    cases x with
    | cell b o => simp only [World.sameAt]; simp only [MemPlace.block] at this; simp [World.cell?, this]
    | map b => simp only [World.sameAt]; simp only [MemPlace.block] at this; rw [this]

theorem okWide_spot {t e : TypeId} {base : Nat} {r : Reach} {a : Addr} {len cap : Nat} (ht : P.underlying t = some (.slice e)) (h : Value.okWide P W r base t (.slice (some a) len cap)) : a.spot = none := by
  simp only [Value.okWide, ht, Cell.okWide, Cell.ok] at h
  exact h.2.2.2.1

theorem sl_old {a : Addr} {len cap : Nat} {cs : List Value} (hsp : a.spot = none) (hle : len ≤ cap) (hl : cs.length = len) (hc : ∀ i v, cs[i]? = some v → W.cell? (a.add i) = some v ∧ flat v = true) : ∀ H, Sl W.cell? H (.slice (some a) len cap) 1 len cs := by
  intro H
  obtain ⟨b, off, s⟩ := a
  simp only at hsp
  subst hsp
  refine ⟨by omega, .inr ⟨b, off, none, cap, rfl, rdN_of_get (by omega) fun i v hv => ?_, fun _ => hle, fun ver h => by cases h⟩⟩
  obtain ⟨h1, h2⟩ := hc i v hv
  have e : (⟨b, off, none⟩ : Addr).add i = ⟨b, off + i, none⟩ := by
    simp only [Addr.add]
    split
    · rename_i h0; subst h0; rfl
    · rfl
  rw [e] at h1
  simp only [rd, h1, keepFlat, h2, cond_true]

/-- a list of texts -/
theorem arg_strs {t e : TypeId} {v : Value} {d : DataW H} {ps : List MemPlace} {sp : Nat → Bool} {held : Bool} (ht : P.underlying t = some (.slice e)) (he : P.underlying e = some .string) (hc : P.cellsOf e = 1) (hv : Value.okWide P W .any 0 t v) (h : DataW.Trod enc P W 0 sp held t v d ps) :
    ∃ (a : Option Addr) (n c : Nat) (l : List (List UInt8)), v = .slice a n c ∧ l.length = n ∧ flat (.slice a n c) = true ∧ (∀ H, Sl W.cell? H (.slice a n c) 1 n (l.map str)) ∧ ∀ x ∈ l, x.length ≤ maxLen := by
  obtain ⟨a, n, c, rfl⟩ := okWide_slice ht hv
  obtain ⟨fuel, hf⟩ := h
  rcases open_strings ht he hc hf with ⟨hcs, hx⟩ | ⟨a', len, cap, ss, hcs, _, hle, hm, hz, hx, hcell, hsz⟩
  · have hcs : [Value.slice a n c] = [.slice none 0 0] := hcs
    cases hcs
    exact ⟨none, 0, 0, [], rfl, rfl, rfl, fun H => Sl.nil, fun x hx => by cases hx⟩
  · have hcs : [Value.slice a n c] = [.slice (some a') len cap] := hcs
    cases hcs
    have hsp := okWide_spot ht hv
    have hlen : n ≤ ss.length := by rw [hz]; split <;> omega
    refine ⟨some a', n, c, (ss.take n).map (·.data.toList), rfl, by simp [hlen], by simp [flat, hsp], ?_, ?_⟩
    · refine sl_old hsp hle (by simp [hlen]) fun i v hv => ?_
      simp only [List.map_map, List.getElem?_map, Option.map_eq_some_iff] at hv
      obtain ⟨s, hs, rfl⟩ := hv
      have hi : i < n := by
        have := (List.getElem?_eq_some_iff.1 hs).1
        rw [List.length_take] at this; omega
      rw [List.getElem?_take, if_pos hi] at hs
      refine ⟨?_, rfl⟩
      rw [hcell i (by omega), List.getD, hs]
      rfl
    · intro x hx
      obtain ⟨s, hs, rfl⟩ := List.mem_map.1 hx
      rw [Array.length_toList]
      exact hsz s (List.mem_of_mem_take hs)

/-- a list of numbers -/
theorem arg_ints {t e : TypeId} {k : IntKind} {v : Value} {d : DataW H} {ps : List MemPlace} {sp : Nat → Bool} {held : Bool} (ht : P.underlying t = some (.slice e)) (he : P.underlying e = some (.int k)) (hc : P.cellsOf e = 1) (hv : Value.okWide P W .any 0 t v) (h : DataW.Trod enc P W 0 sp held t v d ps) :
    ∃ (a : Option Addr) (n c : Nat) (l : List Int), v = .slice a n c ∧ l.length = n ∧ flat (.slice a n c) = true ∧ (∀ H, Sl W.cell? H (.slice a n c) 1 n (l.map (.int k))) ∧ ∀ x ∈ l, (Lit.int k x).wf = true := by
  obtain ⟨a, n, c, rfl⟩ := okWide_slice ht hv
  obtain ⟨fuel, hf⟩ := h
  rcases open_ints ht he hc hf with ⟨hcs, hx⟩ | ⟨a', len, cap, zs, hcs, _, hle, hm, hz, hx, hcell, hwf⟩
  · have hcs : [Value.slice a n c] = [.slice none 0 0] := hcs
    cases hcs
    exact ⟨none, 0, 0, [], rfl, rfl, rfl, fun H => Sl.nil, fun x hx => by cases hx⟩
  · have hcs : [Value.slice a n c] = [.slice (some a') len cap] := hcs
    cases hcs
    have hsp := okWide_spot ht hv
    have hlen : n ≤ zs.length := by rw [hz]; split <;> omega
    refine ⟨some a', n, c, zs.take n, rfl, by simp [hlen], by simp [flat, hsp], ?_, ?_⟩
    · refine sl_old hsp hle (by simp [hlen]) fun i v hv => ?_
      simp only [List.getElem?_map, Option.map_eq_some_iff] at hv
      obtain ⟨s, hs, rfl⟩ := hv
      have hi : i < n := by
        have := (List.getElem?_eq_some_iff.1 hs).1
        rw [List.length_take] at this; omega
      rw [List.getElem?_take, if_pos hi] at hs
      refine ⟨?_, rfl⟩
      rw [hcell i (by omega), List.getD, hs]
      rfl
    · intro x hx
      exact hwf x (List.mem_of_mem_take hx)

/-- a struct: its cells, each well typed; its fields, as they read -/
theorem arg_struct {t : TypeId} {fs : Array Field} {ts : List TypeId} {v : Value} {d : DataW H} {ps : List MemPlace} {sp : Nat → Bool} {held : Bool} (ht : P.underlying t = some (.struct fs)) (hts : P.cellTypes P.depth t = some ts) (hn : ts.length = P.cellsOf t) (hv : Value.okWide P W .any 0 t v) (h : DataW.Trod enc P W 0 sp held t v d ps) :
    ∃ cs : List Value, v = .agg cs.toArray ∧ cs.length = P.cellsOf t ∧ (∀ (i : Nat) (c : Value), cs[i]? = some c → ∃ u, ts[i]? = some u ∧ Cell.okWide P W .any 0 u c) ∧
      ∀ (q : Nat × TypeId × Nat × Nat), (fs.toList.map fun f => (f.type, f.offset, P.cellsOf f.type))[q.1]? = some q.2 → ∃ n x, DataW.trod enc P W 0 sp held n q.2.1 ((cs.drop q.2.2.1).take q.2.2.2) = some x := by
  obtain ⟨cs, rfl, hsz⟩ := okWide_struct ht hv
  obtain ⟨fuel, hf⟩ := h
  obtain ⟨xs, n, _, _, hlen, hxs, hfl⟩ := DataW.trod_struct ht hf
  simp only [Value.okWide, ht] at hv
  obtain ⟨cs', he, _, ts', hts', _, hrow⟩ := hv
  cases he
  rw [hts] at hts'
  cases hts'
  refine ⟨cs.toList, by simp, by simpa using hsz, fun i c hc => ?_, fun q hq => ?_⟩
  · have hc' : cs[i]? = some c := by simpa using hc
    obtain ⟨u, hu, hok⟩ := hrow i c hc'
    have hlt : i < ts.length := by
      have := (Array.getElem?_eq_some_iff.1 hc').1
      omega
    rw [Nat.mod_eq_of_lt hlt] at hu
    exact ⟨u, hu, hok⟩
  · rw [List.getElem?_map] at hq
    cases hfi : fs.toList[q.1]? with
    | none => rw [hfi] at hq; cases hq
    | some f =>
      rw [hfi] at hq
      simp only [Option.map_some, Option.some.injEq] at hq
      have hfi' : fs[q.1]? = some f := by simpa using hfi
      have h1 := hfl q.1 f hfi'
      have hlt : q.1 < xs.length := by
        rw [hxs]
        exact (Array.getElem?_eq_some_iff.1 hfi').1
      rw [List.getElem?_eq_getElem hlt] at h1
      rw [← hq]
      exact ⟨n, _, h1⟩

theorem okWide_cell {u : TypeId} {c : Value} (h : Cell.okWide P W .any 0 u c) (hs : ∀ fs, P.underlying u ≠ some (.struct fs)) (ha : ∀ n e, P.underlying u ≠ some (.array n e)) : Value.okWide P W .any 0 u c := by
  unfold Value.okWide
  split
  · rename_i fs hh; exact absurd hh (hs fs)
  · rename_i n e hh; exact absurd hh (ha n e)
  · exact h

/-- a result: a list of texts, five numbers -/
theorem arg_res {t t0 e ti : TypeId} {fs : Array Field} {v : Value} {d : DataW H} {ps : List MemPlace} {sp : Nat → Bool} {held : Bool} (ht : P.underlying t = some (.struct fs)) (h0 : P.underlying t0 = some (.slice e)) (he : P.underlying e = some .string) (hc : P.cellsOf e = 1) (hi : P.underlying ti = some (.int .i64))
    (hts : P.cellTypes P.depth t = some [t0, ti, ti, ti, ti, ti]) (hn : P.cellsOf t = 6) (hfs : (fs.toList.map fun f => (f.type, f.offset, P.cellsOf f.type)) = [(t0, 0, 1), (ti, 1, 1), (ti, 2, 1), (ti, 3, 1), (ti, 4, 1), (ti, 5, 1)])
    (hv : Value.okWide P W .any 0 t v) (h : DataW.Trod enc P W 0 sp held t v d ps) :
    ∃ (a : Option Addr) (n c : Nat) (l : List (List UInt8)) (x1 x2 x3 x4 x5 : Int), v = .agg #[.slice a n c, .int .i64 x1, .int .i64 x2, .int .i64 x3, .int .i64 x4, .int .i64 x5] ∧ flat (.slice a n c) = true ∧ (∀ H, Sl W.cell? H (.slice a n c) 1 n (l.map str)) := by
  obtain ⟨cs, rfl, hl, hok, hfl⟩ := arg_struct ht hts (by rw [hn]; rfl) hv h
  rw [hfs] at hfl
  rw [hn] at hl
  obtain ⟨c0, c1, c2, c3, c4, c5, rfl⟩ : ∃ c0 c1 c2 c3 c4 c5, cs = [c0, c1, c2, c3, c4, c5] := by
    match cs, hl with
    | [c0, c1, c2, c3, c4, c5], _ => exact ⟨_, _, _, _, _, _, rfl⟩
  obtain ⟨u, hu, hok0⟩ := hok 0 c0 rfl
  cases hu
  have hv0 : Value.okWide P W .any 0 t0 c0 := okWide_cell hok0 (by rw [h0]; intro fs h; cases h) (by rw [h0]; intro n e h; cases h)
  obtain ⟨n0, x0, hx0⟩ := hfl (0, t0, 0, 1) rfl
  obtain ⟨n1, y1, hy1⟩ := hfl (1, ti, 1, 1) rfl
  obtain ⟨n2, y2, hy2⟩ := hfl (2, ti, 2, 1) rfl
  obtain ⟨n3, y3, hy3⟩ := hfl (3, ti, 3, 1) rfl
  obtain ⟨n4, y4, hy4⟩ := hfl (4, ti, 4, 1) rfl
  obtain ⟨n5, y5, hy5⟩ := hfl (5, ti, 5, 1) rfl
  obtain ⟨x1, e1, _, _⟩ := DataW.trod_int hi hy1
  obtain ⟨x2, e2, _, _⟩ := DataW.trod_int hi hy2
  obtain ⟨x3, e3, _, _⟩ := DataW.trod_int hi hy3
  obtain ⟨x4, e4, _, _⟩ := DataW.trod_int hi hy4
  obtain ⟨x5, e5, _, _⟩ := DataW.trod_int hi hy5
  have e1 : [c1] = [Value.int .i64 x1] := e1
  have e2 : [c2] = [Value.int .i64 x2] := e2
  have e3 : [c3] = [Value.int .i64 x3] := e3
  have e4 : [c4] = [Value.int .i64 x4] := e4
  have e5 : [c5] = [Value.int .i64 x5] := e5
  cases e1; cases e2; cases e3; cases e4; cases e5
  obtain ⟨a, n, c, rfl⟩ := okWide_slice h0 hv0
  obtain ⟨a', n', c', l, e0, hl0, hfl0, hs0, _⟩ := arg_strs (enc := enc) (d := x0.1) (ps := x0.2) h0 he hc hv0 ⟨n0, hx0⟩
  cases e0
  exact ⟨a, n, c, l, x1, x2, x3, x4, x5, rfl, hfl0, hs0⟩

theorem closed_res {a : Option Addr} {n c : Nat} {x1 x2 x3 x4 x5 : Int} (h : flat (.slice a n c) = true) : closedC (.agg #[.slice a n c, .int .i64 x1, .int .i64 x2, .int .i64 x3, .int .i64 x4, .int .i64 x5]) = true := by
  simp only [closedC, List.all_cons, h]
  rfl

theorem allC_cons {x : Value} {l : List Value} (h : closedC x = true) (t : l.all closedC = true) : (x :: l).all closedC = true := by
  simp only [List.all_cons, h, t, Bool.and_self]

theorem wf_u8 {n : Int} (h : (Lit.int .u8 n).wf = true) : 0 ≤ n ∧ n ≤ 255 := by
  simp only [Lit.wf, Bool.and_eq_true, decide_eq_true_eq] at h
  simpa [IntKind.min, IntKind.max, IntKind.signed, IntKind.bits] using h
theorem wf_i64 {n : Int} (h : (Lit.int .i64 n).wf = true) : -9223372036854775808 ≤ n ∧ n ≤ 9223372036854775807 := by
  simp only [Lit.wf, Bool.and_eq_true, decide_eq_true_eq] at h
  simpa [IntKind.min, IntKind.max, IntKind.signed, IntKind.bits] using h
theorem wf_u16 {n : Int} (h : (Lit.int .u16 n).wf = true) : 0 ≤ n ∧ n ≤ 65535 := by
  simp only [Lit.wf, Bool.and_eq_true, decide_eq_true_eq] at h
  simpa [IntKind.min, IntKind.max, IntKind.signed, IntKind.bits] using h
theorem wf_i32 {n : Int} (h : (Lit.int .i32 n).wf = true) : -2147483648 ≤ n ∧ n ≤ 2147483647 := by
  simp only [Lit.wf, Bool.and_eq_true, decide_eq_true_eq] at h
  simpa [IntKind.min, IntKind.max, IntKind.signed, IntKind.bits] using h
end
end Go.Ev.Wk
