/-
  'simA': the operations that make a block.
-/
import Derived.Test.YtmmojhbboomgoaaGreatEvSimL
namespace Go.Ev
set_option linter.unusedSimpArgs false
set_option linter.unusedVariables false

/-! ## how the relation stays -/

theorem CR.mono {ρ ρ' : Ren} {cs : Tr Value} {n ty : Nat} {l : Loc} {w w' : World} (h : CR ρ cs n ty l w) (hr : ρ.le ρ') (hw : w'.heap[l.r]? = w.heap[l.r]?) : CR ρ' cs n ty l w' := by
  obtain ⟨c, fz, h1, h2, h3, h4, h5⟩ := h
  exact ⟨c, fz, hw.trans h1, h2, h3, h4, fun i x a b d => let ⟨y, e1, e2⟩ := h5 i x a b d; ⟨y, e1, e2.mono hr⟩⟩

theorem BR.mono {ρ ρ' : Ren} {b : Nat} {k : Blk} {w w' : World} (h : BR ρ b k w) (hr : ρ.le ρ') (hl : ∀ v, ρ'.loc b v = ρ.loc b v) (he : ρ'.esz b = ρ.esz b)
    (hw : ∀ v l, ρ.loc b v = some l → w'.heap[l.r]? = w.heap[l.r]?) : BR ρ' b k w' := by
  cases k with
  | cells cs n ver prev esz ty =>
    obtain ⟨h1, h2, h3, h4, h5⟩ := h
    refine ⟨he.trans h1, h2, fun v hv => (hl v).trans (h3 v hv), fun l hlo => ?_, fun pn hp v l hv hlo => ?_⟩
    · rw [hl] at hlo
      exact (h4 l hlo).mono hr (hw _ _ hlo)
    · rw [hl] at hlo
      obtain ⟨a, c⟩ := h5 pn hp v l hv hlo
      exact ⟨a, c.mono hr (hw _ _ hlo)⟩
  | map es =>
    intro l hlo
    rw [hl] at hlo
    obtain ⟨en, clock, h1, h2⟩ := h l hlo
    exact ⟨en, clock, (hw _ _ hlo).trans h1, h2.mono fun _ _ hh => ⟨hh.1, hh.2.mono hr⟩⟩
  | dead => trivial

/-- In the relation's domain. -/
def Ren.has (ρ : Ren) (b : Nat) : Prop := ∃ v l, ρ.loc b v = some l

theorem HR.weak {w0 : World} {ρ : Ren} {H H' : Heap} {w : World} (h : HR w0 ρ H w) (hg : ∀ b, ρ.has b → H'.blks.get b = H.blks.get b) (hn : H.next ≤ H'.next) : HR w0 ρ H' w where
  old := h.old
  big := h.big
  io := h.io
  dom := fun b v l hl => let ⟨a, c⟩ := h.dom b v l hl; ⟨by omega, c⟩
  inj := h.inj
  blk := fun b v l hl => by
    rw [hg b ⟨v, l, hl⟩]
    exact h.blk b v l hl

/-- one block more -/
def Ren.ext (ρ : Ren) (id r s esz : Nat) : Ren where
  loc := fun b v => if b = id then (if v = 0 then some ⟨r, 0, s⟩ else none) else ρ.loc b v
  esz := fun b => if b = id then esz else ρ.esz b
  sym := ρ.sym

theorem Ren.ext_le {ρ : Ren} {id r s esz : Nat} (h : ¬ ρ.has id) : ρ.le (ρ.ext id r s esz) := by
  refine ⟨fun b v l hl => ?_, rfl⟩
  have : b ≠ id := fun e => h (e ▸ ⟨v, l, hl⟩)
  simp [Ren.ext, this, hl]

theorem HR.ext {w0 : World} {ρ : Ren} {H : Heap} {w w' : World} {id s esz : Nat} {k : Blk} (h : HR w0 ρ H w) (hid : ¬ ρ.has id) (hlt : id < H.next) (hk : H.blks.get id = some k)
    (hw : ∀ r, r < w.heap.size → w'.heap[r]? = w.heap[r]?) (hsz : w'.heap.size = w.heap.size + 1) (hb : BR (ρ.ext id w.heap.size s esz) id k w') (hio : w'.os = w.os ∧ w'.output = w.output) : HR w0 (ρ.ext id w.heap.size s esz) H w' where
  old := fun r hr => (hw r (by have := h.big; omega)).trans (h.old r hr)
  big := by have := h.big; omega
  io := ⟨hio.1.trans h.io.1, hio.2.trans h.io.2⟩
  dom := fun b v l hl => by
    simp only [Ren.ext] at hl
    split at hl
    · rename_i e
      split at hl
      · cases hl
        subst e
        have := h.big
        exact ⟨hlt, by simp; omega, by simp; omega⟩
      · cases hl
    · obtain ⟨a, c, d⟩ := h.dom b v l hl
      exact ⟨a, c, by omega⟩
  inj := fun b v l b' v' l' hl hl' hrr => by
    simp only [Ren.ext] at hl hl'
    split at hl
    · rename_i e
      split at hl
      · cases hl
        split at hl'
        · rename_i e'; omega
        · have := (h.dom b' v' l' hl').2.2
          simp at hrr; omega
      · cases hl
    · split at hl'
      · split at hl'
        · cases hl'
          have := (h.dom b v l hl).2.2
          simp at hrr; omega
        · cases hl'
      · exact h.inj b v l b' v' l' hl hl' hrr
  blk := fun b v l hl => by
    by_cases e : b = id
    · subst e; exact ⟨k, hk, hb⟩
    · have hl0 : ρ.loc b v = some l := by simpa [Ren.ext, e] using hl
      obtain ⟨k', h1, h2⟩ := h.blk b v l hl0
      refine ⟨k', h1, h2.mono (Ren.ext_le hid) (fun v => by simp [Ren.ext, e]) (by simp [Ren.ext, e]) fun v l hl => hw _ (h.dom _ _ _ hl).2.2⟩

theorem get_fill0 (l : List Value) (j : Nat) : (Tr.fill l 0 .lf).get j = l[j]? := by
  rw [Tr.get_fill]
  by_cases h : j < l.length
  · simp [h]
  · simp [h, Tr.get_lf]

/-- What is asked of a new block. -/
structure NewOk (T : Tab) (P : Program) (ρ : Ren) (H : Heap) (w : World) (v : Value) (k : Blk) (v' : Value) (w' : World) (s esz : Nat) : Prop where
  same : ∀ r, r < w.heap.size → w'.heap[r]? = w.heap[r]?
  size : w'.heap.size = w.heap.size + 1
  io : w'.os = w.os ∧ w'.output = w.output := by exact ⟨rfl, rfl⟩
  val : ∀ id, H.next = id → ¬ ρ.has id → V (ρ.ext id w.heap.size s esz) v v'
  blk : ∀ id, H.next = id → ¬ ρ.has id → BR (ρ.ext id w.heap.size s esz) id k w'

theorem br_cells {ρ : Ren} {id r s esz ty : Nat} {l l' : List Value} {w' : World} {c : Array Value} {fz : Nat × Nat} (hid : ¬ ρ.has id) (hl : All2 (V ρ) l l') (h1 : w'.heap[r]? = some (.cells c ty fz)) (h2 : c.size = s)
    (h3 : ∀ i, i < c.size → ¬ (fz.1 ≤ i ∧ i < fz.2)) (h4 : ∀ (i : Nat) y, l'[i]? = some y → c[i]? = some y) : BR (ρ.ext id r s esz) id (.cells (Tr.fill l 0 .lf) l.length 0 none esz ty) w' := by
  have hlen : l.length ≤ s := by
    rcases Nat.eq_zero_or_pos l.length with h | h
    · omega
    · have e := hl.length
      have : l'[l.length - 1]? = some (l'[l.length - 1]'(by omega)) := by simp
      have := h4 _ _ this
      have := (Array.getElem?_eq_some_iff.1 this).1
      omega
  refine ⟨by simp [Ren.ext], fun i x hx => ?_, fun v hv => ?_, fun lc hlc => ?_, fun pn hp => by cases hp⟩
  · rw [get_fill0] at hx
    exact (List.getElem?_eq_some_iff.1 hx).1
  · simp [Ren.ext]; omega
  · simp [Ren.ext] at hlc
    subst hlc
    refine ⟨c, fz, h1, h2, h3, by simp; exact hlen, fun i x _ hi hx => ?_⟩
    rw [get_fill0] at hx
    obtain ⟨y, hy, hv⟩ := hl.get hx
    exact ⟨y, by simpa using h4 _ _ hy, hv.mono (Ren.ext_le hid)⟩

theorem push_old {w : World} {o : Obj} {r : Nat} (h : r < w.heap.size) : (w.heap.push o)[r]? = w.heap[r]? := by
  rw [Array.getElem?_push]
  have : r ≠ w.heap.size := by omega
  simp [this]

theorem newOk_cells {T : Tab} {P : Program} {ρ : Ren} {H : Heap} {w : World} {l l' : List Value} {v v' : Value} {ty esz : Nat} (hl : All2 (V ρ) l l')
    (hv : ∀ id, H.next = id → ¬ ρ.has id → V (ρ.ext id w.heap.size l'.length esz) v v') :
    NewOk T P ρ H w v (.cells (Tr.fill l 0 .lf) l.length 0 none esz ty) v' { w with heap := w.heap.push (.cells l'.toArray ty) } l'.length esz where
  same := fun r hr => push_old hr
  size := by simp
  val := hv
  blk := fun id _ hid => br_cells hid hl (c := l'.toArray) (fz := (0, 0)) (by simp) (by simp) (by intro i _; simp) (by intro i y hy; simpa using hy)

theorem ext_ptr {ρ : Ren} {id r s esz : Nat} : V (ρ.ext id r s esz) (.pointer (some ⟨id, 0, some 0⟩)) (.pointer (some ⟨r, 0, none⟩)) :=
  .fr (.ptr (l := ⟨r, 0, s⟩) (by simp [Ren.ext]) (Nat.le_refl _))

theorem ext_slice {ρ : Ren} {id r s esz len cap cap' : Nat} (h1 : cap' * esz ≤ s) (h2 : len ≤ cap') (h3 : cap = unk ∨ cap = cap') : V (ρ.ext id r s esz) (.slice (some ⟨id, 0, some 0⟩) len cap) (.slice (some ⟨r, 0, none⟩) len cap') :=
  .fr (.slice (l := ⟨r, 0, s⟩) (by simp [Ren.ext]) (Nat.le_refl _) (.inl rfl) (by simpa [Ren.ext] using h1) h2 h3)

theorem length_reps (z : List Value) : ∀ n, (reps z n).length = n * z.length
  | 0 => by simp [reps]
  | n + 1 => by simp [reps, length_reps z n, Nat.add_mul]; omega

theorem get_reps (z : List Value) (hz : 0 < z.length) : ∀ (n i : Nat), i < n * z.length → (reps z n)[i]? = z[i % z.length]?
  | 0, i, h => by simp at h
  | n + 1, i, h => by
    simp only [reps]
    by_cases hi : i < z.length
    · rw [List.getElem?_append_left hi, Nat.mod_eq_of_lt hi]
    · rw [List.getElem?_append_right (by omega), get_reps z hz n _ (by rw [Nat.add_mul] at h; omega)]
      congr 1
      rw [Nat.mod_eq_sub_mod (by omega : i ≥ z.length)]

theorem range_reps (z : Array Value) (n : Nat) (hz : 0 < z.size) : ((Array.range (n * z.size)).map (fun i => z[i % z.size]!)).toList = reps z.toList n := by
  apply List.ext_getElem?
  intro i
  by_cases h : i < n * z.size
  · rw [get_reps _ (by simpa using hz) n i (by simpa using h)]
    have : i % z.size < z.size := Nat.mod_lt _ hz
    simp [h, this]
  · have h1 : (reps z.toList n).length ≤ i := by rw [length_reps]; simp; omega
    rw [List.getElem?_eq_none h1]
    simp
    omega

section
variable {T : Tab} {P : Program} (ok : T.Ok P) {ρ : Ren} {H : Heap}
include ok

theorem sim_alloc {t : Nat} {v : Value} {H' : Heap} (h : alloc T H t = some (v, H')) (w : World) : ∃ k v' w' s esz, H' = H.new k ∧ (Instr.alloc t true (.tuple #[])).run P w = .ok v' w' ∧ NewOk T P ρ H w v k v' w' s esz := by
  unfold alloc at h
  split at h
  · cases h
  · rename_i z hz
    cases hc : closedC z with
    | false => simp [hc] at h
    | true =>
      simp only [hc, cond_true] at h
      cases h
      refine ⟨_, .pointer (some ⟨w.heap.size, 0, none⟩), _, _, _, rfl, ?_, newOk_cells (V.closed hc : V ρ z z).cells fun id e _ => by subst e; exact ext_ptr⟩
      simp [Instr.alloc, ok.runZero hz, newVar, newRow]

omit ok in
theorem sim_box {t : Nat} {x x' v : Value} {H' : Heap} (h : box H t x = some (v, H')) (hx : V ρ x x') (w : World) : ∃ k v' w' s esz, H' = H.new k ∧ (Instr.box t x').run P w = .ok v' w' ∧ NewOk T P ρ H w v k v' w' s esz := by
  unfold box at h
  cases h
  refine ⟨_, .pointer (some ⟨w.heap.size, 0, none⟩), _, _, _, rfl, ?_, newOk_cells hx.cells fun id e _ => by subst e; exact ext_ptr⟩
  simp [Instr.box, newVar, newRow]

theorem sim_buildSlice {t len : Nat} {ps ps' : List (Nat × Value)} {v : Value} {H' : Heap} (h : buildSlice T H t len ps = some (v, H')) (hp : All2 (fun (p q : Nat × Value) => p.1 = q.1 ∧ V ρ p.2 q.2) ps ps') (w : World) :
    ∃ k v' w' s esz, H' = H.new k ∧ (Instr.buildSlice t len ps'.toArray).run P w = .ok v' w' ∧ NewOk T P ρ H w v k v' w' s esz := by
  unfold buildSlice at h
  split at h
  · rename_i elem hu
    split at h
    · rename_i n z hn hz
      cases hc : (closedC z && Nat.beq z.cells.size n && Nat.ble 1 n && Nat.ble (len * n) 16777216) with
      | false => simp [hc] at h
      | true =>
        simp only [hc, cond_true] at h
        simp only [Bool.and_eq_true] at hc
        obtain ⟨⟨⟨c1, c2⟩, c3⟩, c4⟩ := hc
        have c2 := Nat.eq_of_beq_eq_true c2
        have c3 := Nat.le_of_ble_eq_true c3
        have c4 := Nat.le_of_ble_eq_true c4
        split at h
        · cases h
        · rename_i l hl
          cases h
          have hreps : All2 (V ρ) (reps z.cells.toList len) (reps z.cells.toList len) := by
            have : ∀ n, All2 (V ρ) (reps z.cells.toList n) (reps z.cells.toList n) := by
              intro n
              induction n with
              | zero => exact .nil
              | succ n ih => exact (V.closed c1 : V ρ z z).cells.append ih
            exact this len
          obtain ⟨l', h1, h2⟩ := fill_lay hl hreps hp
          have hlen : l'.length = len * n := by
            have e1 := h2.length
            have : ∀ {cs : List Value} {ps : List (Nat × Value)} {l : List Value}, lay (fun i => some (i * n, n)) cs ps = some l → l.length = cs.length := by
              intro cs ps
              induction ps generalizing cs with
              | nil => intro l h; simp [lay] at h; rw [h]
              | cons p ps ih =>
                intro l h
                obtain ⟨i, u⟩ := p
                simp only [lay] at h
                cases hb : (Nat.beq u.cells.size n && Nat.ble (i * n + n) cs.length) with
                | false => simp [hb] at h
                | true =>
                  simp only [hb, cond_true] at h
                  simp only [Bool.and_eq_true] at hb
                  have b1 := Nat.eq_of_beq_eq_true hb.1
                  have b2 := Nat.le_of_ble_eq_true hb.2
                  have := ih h
                  simp at this
                  omega
            have := this hl
            rw [length_reps] at this
            simp only [Array.length_toList, c2] at this
            omega
          obtain ⟨i, hi, hzi⟩ := ok.zero hz
          have hn' := ok.runSize hn
          refine ⟨_, .slice (some ⟨w.heap.size, 0, none⟩) len len, _, _, n, rfl, ?_, newOk_cells h2 fun id e _ => by subst e; exact ext_slice (by omega) (Nat.le_refl _) (.inr rfl)⟩
          have hsmall : ¬ (len * n > 2 ^ 24) := by omega
          by_cases h0 : len * n = 0
          · obtain rfl : len = 0 := by rcases Nat.mul_eq_zero.1 h0 with h | h <;> omega
            have h1' : Instr.fill (fun i => some (i * n, n)) #[] ps' = some l'.toArray := h1
            simp [Instr.buildSlice, ok.runUnd hu, hn', show Array.range 0 = #[] from rfl, h1', newRow]
          · have hcells : (Array.range (len * n)).map (fun x => z.cells[x % z.cells.size]!) = (reps z.cells.toList len).toArray := by
              apply Array.ext'
              have := range_reps z.cells len (by omega)
              rw [c2] at this
              rw [c2]
              simpa using this
            simp only [Instr.buildSlice, Sem.run_bind, ok.runUnd hu, Result.andThen_ok, hn', hsmall, if_false, h0, ok.runZero hz, Sem.run_pure, hcells, h1, newRow, run_newObj]
    · cases h
  · cases h

omit ok in
theorem wrap_small {c : Int} (h0 : 0 ≤ c) (h1 : c ≤ 1073741824) : IntKind.i64.wrap c = c := by
  unfold IntKind.wrap
  simp only [IntKind.bits, IntKind.signed, Bool.true_and]
  split <;> rename_i h <;> simp at h <;> omega

theorem sim_makeSlice {t : Nat} {a b a' b' v : Value} {H' : Heap} (h : makeSlice T H t a b = some (v, H')) (ha : V ρ a a') (hb : V ρ b b') (w : World) :
    ∃ k v' w' s esz, H' = H.new k ∧ (Instr.makeSlice t a' b').run P w = .ok v' w' ∧ NewOk T P ρ H w v k v' w' s esz := by
  unfold makeSlice at h
  split at h
  · rename_i elem k1 l k2 c hu
    obtain rfl := ha.int_inv
    obtain rfl := hb.int_inv
    split at h
    · cases h
    · rename_i i hi
      split at h
      · cases h
      · rename_i z hz
        split at h
        · rename_i hc
          obtain ⟨c1, c2, c3, c4, c5, c6, c7⟩ := hc
          cases h
          have hn : T.size elem = some i.size := by simp [Tab.size, hi]
          have hzz : T.zero elem = some z := by simp [Tab.zero, hi, hz]
          have wl : IntKind.i64.wrap l = l := wrap_small c4 (by omega)
          have wc : IntKind.i64.wrap c = c := wrap_small (by omega) c6
          obtain ⟨L, rfl⟩ := Int.eq_ofNat_of_zero_le c4
          obtain ⟨C, rfl⟩ := Int.eq_ofNat_of_zero_le (show 0 ≤ c by omega)
          have hLC : L ≤ C := by omega
          have hbytes : (i.bytes : Int) * (C : Int) ≤ 2 ^ 48 := by
            have h1 : i.bytes * C ≤ 65536 * 1073741824 := Nat.mul_le_mul c7 (by omega)
            have h2 : (i.bytes : Int) * (C : Int) = ((i.bytes * C : Nat) : Int) := by simp
            rw [h2]
            generalize i.bytes * C = q at h1
            omega
          have hz0 : 0 < z.cells.size := by omega
          have hcells : ((Array.range (C * i.size)).map (fun x => z.cells[x % z.cells.size]!)).toList = reps z.cells.toList C := by
            have := range_reps z.cells C hz0
            rw [c2] at this ⊢
            exact this
          have hrefl : All2 (V ρ) (reps z.cells.toList L) (reps z.cells.toList L) := by
            have : ∀ n, All2 (V ρ) (reps z.cells.toList n) (reps z.cells.toList n) := by
              intro n
              induction n with
              | zero => exact .nil
              | succ n ih => exact (V.closed c1 : V ρ z z).cells.append ih
            exact this L
          have hlenC : ((Array.range (C * i.size)).map (fun x => z.cells[x % z.cells.size]!)).size = C * i.size := by simp
          refine ⟨_, .slice (some ⟨w.heap.size, 0, none⟩) L C, { w with heap := w.heap.push (.cells ((Array.range (C * i.size)).map (fun x => z.cells[x % z.cells.size]!)) elem) }, C * i.size, i.size, rfl, ?_, ?_⟩
          · have hn0 : C * i.size = 0 → C = 0 := fun h => by rcases Nat.mul_eq_zero.1 h with h | h <;> omega
            have g1 : ¬ ((C : Int) < 0) := by omega
            have g2 : ¬ ((i.bytes : Int) * (C : Int) > 2 ^ 48) := by omega
            have g3 : ¬ ((L : Int) < 0) := by omega
            have g4 : ¬ ((L : Int) > (C : Int)) := by omega
            simp only [Instr.makeSlice, Sem.run_bind, ok.runUnd hu, Result.andThen_ok, asInt, asIntOf, Sem.run_pure, ok.runInfo hi, wl, wc, ok.runSize hn]
            simp only [g1, g2, g3, g4, decide_false, Bool.or_self, Bool.false_eq_true, if_false, Sem.run_bind, run_askRoom, Result.andThen_ok, Int.toNat_natCast, ok.runSize hn]
            by_cases h0 : C * i.size = 0
            · obtain rfl := hn0 h0
              simp [newRow, show Array.range 0 = #[] from rfl]
            · simp [h0, ok.runZero hzz, newRow]
          · constructor
            · intro r hr; exact push_old hr
            · simp
            · exact ⟨rfl, rfl⟩
            · intro id e hid; subst e
              exact ext_slice (Nat.le_refl _) hLC (.inl rfl)
            · intro id e hid
              refine br_cells hid hrefl (c := (Array.range (C * i.size)).map (fun x => z.cells[x % z.cells.size]!)) (fz := (0, 0)) (by simp) hlenC (by intro j _; simp) ?_
              intro j y hy
              have hj : j < L * z.cells.size := by
                have := (List.getElem?_eq_some_iff.1 hy).1
                rw [length_reps] at this
                simpa using this
              have h2 : (reps z.cells.toList C)[j]? = some y := by
                have hm : L * z.cells.size ≤ C * z.cells.size := Nat.mul_le_mul_right _ hLC
                rw [get_reps _ (by simpa using hz0) C j (by simp; omega), ← get_reps _ (by simpa using hz0) L j (by simpa using hj)]
                exact hy
              rw [← hcells, Array.getElem?_toList] at h2
              exact h2
        · cases h
  · cases h

theorem sim_toBytes {s d : Nat} {x x' v : Value} {H' : Heap} (h : toBytes T H s d x = some (v, H')) (hx : V ρ x x') (w : World) :
    ∃ k v' w' sz esz, H' = H.new k ∧ (convert s d x').run P w = .ok v' w' ∧ NewOk T P ρ H w v k v' w' sz esz := by
  unfold toBytes at h
  split at h
  · rename_i ds e st hs hd
    split at h
    · rename_i he
      cases h
      obtain rfl := hx.string_inv
      have hq : (Question.appendCap st.size 0 e).forced = false := rfl
      generalize hcap : (Question.appendCap st.size 0 e).cut (w.tape w.drawn (.appendCap st.size 0 e)) = cap
      have hcs : st.size ≤ cap := by
        rw [← hcap]
        simp [Question.cut]
      let els : Array Value := (st.data.map fun b => Value.int .u8 b.toNat) ++ Array.replicate (cap - st.size) (.int .u8 0)
      have hels : els.size = cap := by
        simp only [els, Array.size_append, Array.size_map, Array.size_replicate]
        have : st.data.size = st.size := rfl
        omega
      let w1 : World := { w with drawn := w.drawn + 1 }
      let w2 : World := { w1 with heap := w.heap.push (.cells els e) }
      refine ⟨_, .slice (some ⟨w.heap.size, 0, none⟩) st.size cap, w2.freeze ⟨w.heap.size, els.size, none⟩ 1, cap, 1, rfl, ?_, ?_⟩
      · have hsz : (w1.heap.size) = w.heap.size := rfl
        simp only [convert, Sem.run_bind, ok.runUnd hs, ok.runUnd hd, ok.runUnd he, Result.andThen_ok, Conv.stringToBytes, run_choose, hq, Bool.false_eq_true, if_false, hcap, newRow, run_newObj, Sem.run_pure, markStringish, run_shape]
        have : World.shape? w2 w.heap.size = some (e, els.size) := by simp [World.shape?, w2]
        show ((Sem.run P (match w2.shape? w.heap.size with | some (_, n) => freeze { block := w.heap.size, off := n } 1 | _ => pure ()) w2).andThen fun a w' => Result.ok (Value.slice (some { block := w.heap.size, off := 0 }) st.size cap) w') = _
        rw [this]
        rfl
      · have hfr : (w2.freeze ⟨w.heap.size, els.size, none⟩ 1).heap = w.heap.push (.cells els e (els.size, els.size + 1)) := by
          simp only [World.freeze, w2, w1]
          apply Array.ext
          · simp
          · intro i h1 h2
            simp [Array.getElem_modify, Array.getElem_push]
            split
            · rename_i e1
              simp [e1.symm]
            · rename_i e1
              have : i < w.heap.size := by simp at h2; omega
              simp [this]
        have hsz : st.data.toList.length = st.size := by simp
        constructor
        · intro r hr; rw [hfr]; exact push_old hr
        · rw [hfr]; simp
        · constructor <;> simp [World.freeze, w2, w1]
        · intro id e1 hid; subst e1
          rw [hsz]
          exact ext_slice (by omega) hcs (.inl rfl)
        · intro id e1 hid
          have := br_cells (ρ := ρ) (id := id) (r := w.heap.size) (s := cap) (esz := 1) (ty := e) (l := st.data.toList.map fun c => Value.int .u8 c.toNat) (l' := st.data.toList.map fun c => Value.int .u8 c.toNat)
            (w' := w2.freeze ⟨w.heap.size, els.size, none⟩ 1) (c := els) (fz := (els.size, els.size + 1)) hid
            (All2.refl _ fun x hx => by obtain ⟨_, _, rfl⟩ := List.mem_map.1 hx; exact .flat rfl) (by rw [hfr]; simp) hels (by intro i hi; simp; omega) ?_
          · exact this
          · intro i y hy
            simp only [els]
            rw [Array.getElem?_append_left]
            · simpa using hy
            · have := (List.getElem?_eq_some_iff.1 hy).1
              simpa using this
    · cases h
  · cases h
end

/-- The operations that make a block. -/
theorem simA {T : Tab} {P : Program} (ok : T.Ok P) {ρ : Ren} {H H' : Heap} {e : Operand → Option Value} {g : Operand → Value} (he : OR ρ e g) {o : Oper} {v : Value} (h : opA T H e o.op = some (v, H')) (w : World) :
    ∃ k v' w' s esz, H' = H.new k ∧ (execOp g o).run P w = .ok (.value v') w' ∧ NewOk T P ρ H w v k v' w' s esz := by
  unfold execOp
  unfold opA at h
  split at h
  · rename_i t hop
    simp only [hop]
    obtain ⟨k, v', w', s, esz, h1, h2, h3⟩ := sim_alloc ok h w
    exact ⟨k, v', w', s, esz, h1, by simp [h2], h3⟩
  · rename_i t x hop
    simp only [hop]
    split at h
    · rename_i u hu
      obtain ⟨k, v', w', s, esz, h1, h2, h3⟩ := sim_box (T := T) (P := P) h (he _ _ hu) w
      exact ⟨k, v', w', s, esz, h1, by simp [h2], h3⟩
    · cases h
  · rename_i t n ps hop
    simp only [hop]
    split at h
    · rename_i l hl
      obtain ⟨k, v', w', s, esz, h1, h2, h3⟩ := sim_buildSlice ok h (parts_rel he hl) w
      have e1 : (List.map (fun (p : Nat × Operand) => (p.1, g p.2)) ps.toList).toArray = ps.map fun (p : Nat × Operand) => (p.1, g p.2) := by
        apply Array.ext'; simp
      rw [e1] at h2
      refine ⟨k, v', w', s, esz, h1, ?_, h3⟩
      simp only [Sem.run_bind]
      rw [h2]
      rfl
    · cases h
  · rename_i t r hop
    simp only [hop]
    split at h
    · cases h
      refine ⟨_, .map (some w.heap.size), { w with heap := w.heap.push (.map #[] 0) }, 0, 0, rfl, by simp [Instr.makeMap], ?_⟩
      constructor
      · intro r hr; exact push_old hr
      · simp
      · exact ⟨rfl, rfl⟩
      · intro id e1 hid; subst e1; exact .fr (.map (l := ⟨w.heap.size, 0, 0⟩) (by simp [Ren.ext]))
      · intro id e1 hid l hl
        simp [Ren.ext] at hl
        subst hl
        exact ⟨#[], 0, by simp, .nil⟩
    · cases h
  · rename_i t l c hop
    simp only [hop]
    split at h
    · rename_i a b ha hb
      obtain ⟨k, v', w', s, esz, h1, h2, h3⟩ := sim_makeSlice ok h (he _ _ ha) (he _ _ hb) w
      exact ⟨k, v', w', s, esz, h1, by simp [h2], h3⟩
    · cases h
  · rename_i s d x hop
    simp only [hop]
    split at h
    · rename_i a ha
      obtain ⟨k, v', w', s, esz, h1, h2, h3⟩ := sim_toBytes ok h (he _ _ ha) w
      exact ⟨k, v', w', s, esz, h1, by simp [h2], h3⟩
    · cases h
  · cases h
end Go.Ev
