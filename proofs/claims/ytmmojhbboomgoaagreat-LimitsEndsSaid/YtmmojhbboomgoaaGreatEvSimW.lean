/-
  The operations that write.
-/
import Derived.Test.YtmmojhbboomgoaaGreatEvSimA
namespace Go.Ev
set_option linter.unusedSimpArgs false
set_option linter.unusedVariables false

/-! ## how the relation stays where one block is written -/

theorem HR.upd {w0 : World} {ρ ρ' : Ren} {H : Heap} {w w' : World} {b : Nat} {k' : Blk} (h : HR w0 ρ H w) (hle : ρ.le ρ') (hother : ∀ b', b' ≠ b → ∀ v, ρ'.loc b' v = ρ.loc b' v) (hesz : ∀ b', b' ≠ b → ρ'.esz b' = ρ.esz b')
    (hnew : ∀ v l, ρ'.loc b v = some l → (∃ v0 l0, ρ.loc b v0 = some l0 ∧ l0.r = l.r) ∨ (l.r = w.heap.size ∧ w.heap.size < w'.heap.size)) (hhas : ρ.has b)
    (hw : ∀ r, r < w.heap.size → (∀ v l, ρ.loc b v = some l → l.r ≠ r) → w'.heap[r]? = w.heap[r]?) (hsz : w.heap.size ≤ w'.heap.size) (hb : BR ρ' b k' w') (hio : w'.os = w.os ∧ w'.output = w.output := by exact ⟨rfl, rfl⟩) :
    HR w0 ρ' ⟨H.blks.put b k', H.next⟩ w' where
  old := fun r hr => by
    rw [hw r (by have := h.big; omega) (fun v l hl e => by have := (h.dom _ _ _ hl).2.1; omega)]
    exact h.old r hr
  big := by have := h.big; omega
  io := ⟨hio.1.trans h.io.1, hio.2.trans h.io.2⟩
  dom := fun b' v l hl => by
    by_cases e : b' = b
    · subst e
      obtain ⟨v1, l1, hl1⟩ := hhas
      have hlt := (h.dom _ _ _ hl1).1
      rcases hnew v l hl with ⟨v0, l0, h0, e0⟩ | ⟨e0, e1⟩
      · obtain ⟨_, c, d⟩ := h.dom _ _ _ h0
        exact ⟨hlt, by omega, by omega⟩
      · have := h.big
        exact ⟨hlt, by omega, by omega⟩
    · rw [hother b' e] at hl
      obtain ⟨a, c, d⟩ := h.dom _ _ _ hl
      exact ⟨a, c, by omega⟩
  inj := fun b1 v1 l1 b2 v2 l2 h1 h2 hr => by
    have key : ∀ {bb v l}, ρ'.loc bb v = some l → bb ≠ b → ρ.loc bb v = some l := fun {bb v l} hh e => by rw [hother bb e] at hh; exact hh
    by_cases e1 : b1 = b
    · by_cases e2 : b2 = b
      · omega
      · exfalso
        subst e1
        have h2' := key h2 e2
        rcases hnew v1 l1 h1 with ⟨v0, l0, h0, e0⟩ | ⟨e0, _⟩
        · exact e2 (h.inj _ _ _ _ _ _ h2' h0 (by omega))
        · have := (h.dom _ _ _ h2').2.2; omega
    · have h1' := key h1 e1
      by_cases e2 : b2 = b
      · exfalso
        subst e2
        rcases hnew v2 l2 h2 with ⟨v0, l0, h0, e0⟩ | ⟨e0, _⟩
        · exact e1 (h.inj _ _ _ _ _ _ h1' h0 (by omega))
        · have := (h.dom _ _ _ h1').2.2; omega
      · exact h.inj _ _ _ _ _ _ h1' (key h2 e2) hr
  blk := fun b' v l hl => by
    by_cases e : b' = b
    · subst e; exact ⟨k', Tr.get_put_self _ _ _, hb⟩
    · rw [hother b' e] at hl
      obtain ⟨k, h1, h2⟩ := h.blk _ _ _ hl
      refine ⟨k, by simpa [Tr.get_put_ne _ _ e] using h1, h2.mono hle (hother b' e) (hesz b' e) fun v2 l2 hl2 => ?_⟩
      refine hw _ (h.dom _ _ _ hl2).2.2 fun v3 l3 hl3 e3 => e ?_
      exact h.inj _ _ _ _ _ _ hl2 hl3 e3.symm

/-! ## cells over cells -/

def wrA : Array Value → Nat → List Value → Array Value
  | c, _, [] => c
  | c, k, v :: vs => wrA (c.setIfInBounds k v) (k + 1) vs

theorem size_wrA : ∀ (vs : List Value) (c : Array Value) (k : Nat), (wrA c k vs).size = c.size
  | [], c, k => rfl
  | v :: vs, c, k => by simp [wrA, size_wrA vs]

theorem get_wrA : ∀ (vs : List Value) (c : Array Value) (k j : Nat), (∀ i, i < vs.length → k + i < c.size) → (wrA c k vs)[j]? = if k ≤ j ∧ j < k + vs.length then vs[j - k]? else c[j]?
  | [], c, k, j, _ => by simp [wrA]; intro h h2; omega
  | v :: vs, c, k, j, hb => by
    simp only [wrA]
    rw [get_wrA vs _ _ _ (fun i hi => by have := hb (i + 1) (by simp; omega); simp; omega)]
    have h0 := hb 0 (by simp)
    by_cases h1 : k + 1 ≤ j ∧ j < k + 1 + vs.length
    · have h2 : k ≤ j ∧ j < k + (v :: vs).length := by simp; omega
      rw [if_pos h1, if_pos h2]
      obtain ⟨i, rfl⟩ : ∃ i, j = k + 1 + i := ⟨j - (k + 1), by omega⟩
      rw [show k + 1 + i - (k + 1) = i by omega, show k + 1 + i - k = i + 1 by omega]
      simp
    · rw [if_neg h1]
      by_cases h2 : j = k
      · subst h2
        simp [Array.getElem?_setIfInBounds]
        omega
      · have h3 : ¬ (k ≤ j ∧ j < k + (v :: vs).length) := by simp; omega
        rw [if_neg h3]
        simp [Array.getElem?_setIfInBounds, Ne.symm h2]

theorem set_self {α : Type} {a : Array α} {i : Nat} {x : α} (h : a[i]? = some x) : a.setIfInBounds i x = a := by
  apply Array.ext_getElem?
  intro j
  rw [Array.getElem?_setIfInBounds]
  split
  · rename_i e; subst e
    have := (Array.getElem?_eq_some_iff.1 h).1
    rw [if_pos this, h]
  · rfl

theorem run_storeCells {P : Program} {r off ty : Nat} {fz : Nat × Nat} : ∀ (vs : List Value) (i : Nat) (c : Array Value) (w : World), w.heap[r]? = some (.cells c ty fz) →
    (∀ j, j < c.size → ¬ (fz.1 ≤ j ∧ j < fz.2)) → (∀ j, j < vs.length → off + i + j < c.size) → (∀ v ∈ vs, isCell v = true) →
    (storeCells ⟨r, off, none⟩ vs i).run P w = .ok () { w with heap := w.heap.setIfInBounds r (.cells (wrA c (off + i) vs) ty fz) }
  | [], i, c, w, hw, _, _, _ => by
    simp only [storeCells, Sem.run_pure, wrA]
    rw [set_self hw]
  | v :: vs, i, c, w, hw, hf, hb, hc => by
    have h0 := hb 0 (by simp)
    simp only [Nat.add_zero] at h0
    have ha : (⟨r, off, none⟩ : Addr).add i = ⟨r, off + i, none⟩ := by
      by_cases e : i = 0 <;> simp [Addr.add, e]
    have hone : v.oneCell' = true := by
      have := hc v (by simp)
      cases v <;> first | rfl | (simp [isCell] at this)
    have hcell : w.cell? ⟨r, off + i, none⟩ = some (c[off + i]'h0) := cell_of hw (by simp [h0])
    have hfr : w.frozen? ⟨r, off + i, none⟩ = false := by
      have := hf _ h0
      simp only [World.frozen?, hw]
      simpa using this
    have hset : w.setCell ⟨r, off + i, none⟩ v = { w with heap := w.heap.setIfInBounds r (.cells (c.setIfInBounds (off + i) v) ty fz) } := by
      simp only [World.setCell]
      congr 1
      apply Array.ext_getElem?
      intro j
      rw [Array.getElem?_modify, Array.getElem?_setIfInBounds]
      by_cases e : r = j
      · subst e
        have := (Array.getElem?_eq_some_iff.1 hw).1
        simp [this, hw]
        rw [(Array.getElem?_eq_some_iff.1 hw).2]
      · simp [e]
    simp only [storeCells, Sem.run_bind, ha, run_store P w _ _ _ hone, hcell, hfr, Bool.false_eq_true, if_false, Result.andThen_ok, hset]
    have hr : r < w.heap.size := (Array.getElem?_eq_some_iff.1 hw).1
    rw [run_storeCells (ty := ty) (fz := fz) vs (i + 1) (c.setIfInBounds (off + i) v) _ (by simp [hr]) (by intro j hj; exact hf j (by simpa using hj)) (by intro j hj; have := hb (j + 1) (by simp; omega); simp; omega) (fun u hu => hc u (by simp [hu]))]
    simp [wrA, Nat.add_assoc]

theorem wrN_inv : ∀ {l : List Value} {i : Nat} {t t' : Tr Value}, wrN l i t = some t' →
    (∀ v ∈ l, isCell v = true) ∧ (∀ j, j < l.length → (t.get (i + j)).isSome = true) ∧ ∀ j, t'.get j = if i ≤ j ∧ j < i + l.length then l[j - i]? else t.get j
  | [], i, t, t', h => by simp [wrN] at h; subst h; refine ⟨by simp, by simp, fun j => ?_⟩; simp; intro h1 h2; omega
  | v :: l, i, t, t', h => by
    simp only [wrN] at h
    cases hc : isCell v with
    | false => simp [hc] at h
    | true =>
      simp only [hc, cond_true] at h
      split at h
      · cases h
      · rename_i y hy
        obtain ⟨h1, h2, h3⟩ := wrN_inv h
        refine ⟨by simpa using ⟨hc, h1⟩, fun j hj => ?_, fun j => ?_⟩
        · cases j with
          | zero => simp [hy]
          | succ j =>
            have := h2 j (by simpa using hj)
            rw [Tr.get_put_ne _ _ (by omega)] at this
            rwa [show i + 1 + j = i + (j + 1) by omega] at this
        · rw [h3, Tr.get_put]
          by_cases e1 : i + 1 ≤ j ∧ j < i + 1 + l.length
          · have e2 : i ≤ j ∧ j < i + (v :: l).length := by simp; omega
            rw [if_pos e1, if_pos e2]
            obtain ⟨k, rfl⟩ : ∃ k, j = i + 1 + k := ⟨j - (i + 1), by omega⟩
            rw [show i + 1 + k - (i + 1) = k by omega, show i + 1 + k - i = k + 1 by omega]
            simp
          · rw [if_neg e1]
            by_cases e2 : j = i
            · subst e2; simp
            · have e3 : ¬ (i ≤ j ∧ j < i + (v :: l).length) := by simp; omega
              rw [if_neg e3, if_neg e2]

section
variable {w0 : World} {ρ : Ren} {H : Heap} {w : World} (hr : HR w0 ρ H w) {T : Tab} {P : Program} (ok : T.Ok P)
include hr

/-- cells are written over cells of a block: the machine and the evaluator -/
theorem sim_write {b ver off esz ty m : Nat} {prev : Option Nat} {lc : Loc} {cs cs' : Tr Value} {l l' : List Value} (hl : ρ.loc b ver = some lc) (hk : H.blks.get b = some (.cells cs m ver prev esz ty)) (hd : lc.d ≤ off)
    (hwr : wrN l off cs = some cs') (hll : All2 (V ρ) l l') :
    ∃ w', (storeCells ⟨lc.r, off - lc.d, none⟩ l').run P w = .ok () w' ∧ HR w0 ρ ⟨H.blks.put b (.cells cs' m ver none esz ty), H.next⟩ w' := by
  obtain ⟨i1, i2, i3⟩ := wrN_inv hwr
  have hbr := hr.blkOf hl hk
  obtain ⟨b1, b2, b3, b4, b5⟩ := hbr
  obtain ⟨c, fz, h1, h2, h3, h4, h5⟩ := b4 lc hl
  have hlen := hll.length
  have hb : ∀ j, j < l'.length → off - lc.d + 0 + j < c.size := by
    intro j hj
    have := i2 j (by omega)
    obtain ⟨x, hx⟩ := Option.isSome_iff_exists.1 this
    obtain ⟨y, hy, _⟩ := h5 (off + j) x (by omega) (b2 _ _ hx) hx
    have := (Array.getElem?_eq_some_iff.1 hy).1
    omega
  have hc : ∀ v ∈ l', isCell v = true := by
    intro v hv
    obtain ⟨j, hj⟩ := List.getElem?_of_mem hv
    have hj1 : j < l'.length := (List.getElem?_eq_some_iff.1 hj).1
    have : l[j]? = some (l[j]'(by omega)) := by simp
    obtain ⟨y, hy, hvy⟩ := hll.get this
    rw [hj] at hy; cases hy
    rw [hvy.isCell]
    exact i1 _ (by simp)
  have hrun := run_storeCells (P := P) (off := off - lc.d) l' 0 c w h1 h3 hb hc
  refine ⟨_, hrun, ?_⟩
  have hlt : lc.r < w.heap.size := (hr.dom _ _ _ hl).2.2
  refine hr.upd (Ren.le_refl _) (fun _ _ _ => rfl) (fun _ _ => rfl) (fun v l hh => .inl ⟨v, l, hh, rfl⟩) ⟨ver, lc, hl⟩ ?_ (by simp) ?_
  · intro r hr1 hr2
    simp only
    rw [Array.getElem?_setIfInBounds]
    have := hr2 _ _ hl
    simp [this]
  · refine ⟨b1, fun i x hx => ?_, b3, fun lc2 hl2 => ?_, fun pn hp => by cases hp⟩
    · rw [i3] at hx
      split at hx
      · rename_i e
        have := i2 (i - off) (by omega)
        rw [show off + (i - off) = i by omega] at this
        obtain ⟨y, hy⟩ := Option.isSome_iff_exists.1 this
        exact b2 _ _ hy
      · exact b2 _ _ hx
    · rw [hl] at hl2; cases hl2
      refine ⟨wrA c (off - lc.d + 0) l', fz, by simp [hlt], by rw [size_wrA]; exact h2, by rw [size_wrA]; exact h3, h4, fun i x hi1 hi2 hx => ?_⟩
      rw [i3] at hx
      rw [get_wrA _ _ _ _ hb]
      split at hx
      · rename_i e
        obtain ⟨y, hy, hv⟩ := hll.get hx
        refine ⟨y, ?_, hv⟩
        rw [if_pos (by omega)]
        rw [← hy]
        congr 1
        omega
      · rename_i e
        obtain ⟨y, hy, hv⟩ := h5 i x hi1 hi2 hx
        refine ⟨y, ?_, hv⟩
        rw [if_neg (by omega)]
        exact hy

include ok
theorem sim_store {t : Nat} {a x a' x' : Value} {H' : Heap} (h : store T H t a x = some H') (ha : V ρ a a') (hx : V ρ x x') : ∃ w' b k, (Instr.storeAt t a' x').run P w = .ok () w' ∧ HR w0 ρ H' w' ∧ H' = ⟨H.blks.put b k, H.next⟩ ∧ ρ.has b := by
  unfold store at h
  split at h
  · rename_i b off ver
    split at h
    · rename_i n cs m v prev esz ty hn hk
      cases hc : (Nat.beq ver v && Nat.beq x.cells.size n) with
      | false => simp [hc] at h
      | true =>
        simp only [hc, cond_true] at h
        simp only [Bool.and_eq_true] at hc
        obtain rfl := Nat.eq_of_beq_eq_true hc.1
        have hsz := Nat.eq_of_beq_eq_true hc.2
        split at h
        · cases h
        · rename_i cs' hwr
          cases h
          obtain ⟨lc, hl, hd, rfl⟩ := ha.newPtr_inv
          obtain ⟨w', h1, h2⟩ := sim_write hr (P := P) hl hk hd hwr hx.cells
          refine ⟨w', b, _, ?_, h2, rfl, ver, lc, hl⟩
          have hlen := hx.cells.length
          simp only [Array.length_toList] at hlen
          have : x'.cells.size = n := by omega
          simp [Instr.storeAt, Instr.sureAddr, storeVar, ok.runSize hn, this, h1]
    · cases h
  · cases h
end
end Go.Ev
