/-
  The regions whose order is open: whatever order the machine takes, it comes to what the evaluator comes to.
-/
import Derived.Test.YtmmojhbboomgoaaGreatEvTrace
namespace Go.Ev
set_option linter.unusedSimpArgs false
set_option linter.unusedVariables false

theorem testBit_lor (a b i : Nat) : Nat.testBit (Nat.lor a b) i = (Nat.testBit a i || Nat.testBit b i) := Nat.testBit_or a b i

theorem maskOf_mono (acc : Tr Nat) : ∀ (l : List Edge) (s i : Nat), Nat.testBit s i = true → Nat.testBit (maskOf acc l s) i = true
  | [], s, i, h => h
  | e :: l, s, i, h => by
    simp only [maskOf]
    refine maskOf_mono acc l _ i ?_
    cases Region.binds .any e
    · exact h
    · simp [testBit_lor, h]

theorem maskOf_direct (acc : Tr Nat) : ∀ (l : List Edge) (s : Nat) (e : Edge), e ∈ l → Region.binds .any e = true → Nat.testBit (maskOf acc l s) e.on = true
  | [], s, e, h, _ => by simp at h
  | x :: l, s, e, h, hb => by
    simp only [maskOf]
    rcases List.mem_cons.1 h with rfl | h
    · refine maskOf_mono acc l _ _ ?_
      rw [hb]
      simp [testBit_lor, Nat.testBit_two_pow]
    · exact maskOf_direct acc l _ e h hb

theorem maskOf_inv (acc : Tr Nat) : ∀ (l : List Edge) (s i : Nat), Nat.testBit (maskOf acc l s) i = true → Nat.testBit s i = true ∨ ∃ e ∈ l, Region.binds .any e = true ∧ (e.on = i ∨ ∃ m, acc.get e.on = some m ∧ Nat.testBit m i = true)
  | [], s, i, h => .inl h
  | e :: l, s, i, h => by
    simp only [maskOf] at h
    rcases maskOf_inv acc l _ i h with h | ⟨x, h1, h2, h3⟩
    · cases hb : Region.binds .any e with
      | false => rw [hb] at h; exact .inl h
      | true =>
        rw [hb] at h
        simp only [cond_true, testBit_lor, Nat.testBit_two_pow, Bool.or_eq_true, decide_eq_true_eq] at h
        rcases h with h | h | h
        · exact .inl h
        · exact .inr ⟨e, by simp, hb, .inl h⟩
        · refine .inr ⟨e, by simp, hb, .inr ?_⟩
          cases hg : acc.get e.on with
          | none => rw [hg] at h; simp at h
          | some m => rw [hg] at h; exact ⟨m, rfl, h⟩
    · exact .inr ⟨x, by simp [h1], h2, h3⟩

theorem masks_spec : ∀ (l : List Oper) (i : Nat) (acc : Tr Nat), (∀ j, i ≤ j → acc.get j = none) →
    (∀ j, j < i → (masks l i acc).get j = acc.get j) ∧ ∀ (k : Nat) (o : Oper), l[k]? = some o → ∃ acc' : Tr Nat, (∀ j m, acc'.get j = some m → (masks l i acc).get j = some m) ∧ (masks l i acc).get (i + k) = some (maskOf acc' o.after.toList 0)
  | [], i, acc, _ => ⟨fun _ _ => rfl, fun k o h => by simp at h⟩
  | x :: l, i, acc, hacc => by
    simp only [masks]
    have h2 := masks_spec l (i + 1) (acc.put i (maskOf acc x.after.toList 0)) (fun j hj => by rw [Tr.get_put_ne _ _ (by omega)]; exact hacc j (by omega))
    obtain ⟨f1, f2⟩ := h2
    have hlow : ∀ j, j < i → (masks l (i + 1) (acc.put i (maskOf acc x.after.toList 0))).get j = acc.get j := fun j hj => by rw [f1 j (by omega), Tr.get_put_ne _ _ (by omega)]
    refine ⟨hlow, fun k o hk => ?_⟩
    cases k with
    | zero =>
      simp at hk
      subst hk
      refine ⟨acc, fun j m hm => ?_, ?_⟩
      · rcases Nat.lt_or_ge j i with h | h
        · rw [hlow j h]; exact hm
        · rw [hacc j h] at hm; cases hm
      · rw [show i + 0 = i from rfl, f1 i (by omega), Tr.get_put_self]
    | succ k =>
      obtain ⟨acc', g1, g2⟩ := f2 k o (by simpa using hk)
      exact ⟨acc', g1, by rw [show i + (k + 1) = i + 1 + k by omega]; exact g2⟩

theorem writers_spec : ∀ (l : List Oper) (i : Nat) (acc W : Tr Nat), writers l i acc = some W → (∀ d x, acc.get d = some x → W.get d = some x) ∧ ∀ (k : Nat) (o : Oper) (d : Nat), l[k]? = some o → o.dst = some d → W.get d = some (i + k)
  | [], i, acc, W, h => by simp [writers] at h; subst h; exact ⟨fun _ _ h => h, fun k o d h => by simp at h⟩
  | x :: l, i, acc, W, h => by
    simp only [writers] at h
    split at h
    · rename_i hd
      obtain ⟨f1, f2⟩ := writers_spec l (i + 1) acc W h
      refine ⟨f1, fun k o d hk hod => ?_⟩
      cases k with
      | zero => simp at hk; subst hk; rw [hd] at hod; cases hod
      | succ k => rw [show i + (k + 1) = i + 1 + k by omega]; exact f2 k o d (by simpa using hk) hod
    · rename_i d0 hd
      split at h
      · cases h
      · rename_i hg
        obtain ⟨f1, f2⟩ := writers_spec l (i + 1) _ W h
        refine ⟨fun d y hy => ?_, fun k o d hk hod => ?_⟩
        · refine f1 d y ?_
          rw [Tr.get_put]
          split
          · rename_i e; subst e; rw [hg] at hy; cases hy
          · exact hy
        · cases k with
          | zero =>
            simp at hk; subst hk; rw [hd] at hod; cases hod
            exact f1 _ _ (Tr.get_put_self _ _ _)
          | succ k => rw [show i + (k + 1) = i + 1 + k by omega]; exact f2 k o d (by simpa using hk) hod

theorem lookOk_spec {ms W : Tr Nat} {j : Nat} : ∀ {l : List Nat}, lookOk ms W j l = true → ∀ t ∈ l, ∀ i, W.get t = some i → i = j ∨ Nat.testBit ((ms.get j).getD 0) i = true ∨ Nat.testBit ((ms.get i).getD 0) j = true
  | [], _, t, h, _, _ => by simp at h
  | x :: l, h, t, ht, i, hi => by
    simp only [lookOk, Bool.and_eq_true] at h
    rcases List.mem_cons.1 ht with rfl | ht
    · have h1 := h.1
      rw [hi] at h1
      simp only [Bool.or_eq_true] at h1
      rcases h1 with (h1 | h1) | h1
      · exact .inl (Nat.eq_of_beq_eq_true h1)
      · exact .inr (.inl h1)
      · exact .inr (.inr h1)
    · exact lookOk_spec h.2 t ht i hi

theorem looksOk_spec {ops : List Oper} {ms W : Tr Nat} : ∀ {l : List Oper} {j : Nat}, looksOk ops ms W l j = true → ∀ (k : Nat) (o : Oper), l[k]? = some o → lookOk ms W (j + k) (looks ops o) = true
  | [], j, _, k, o, h => by simp at h
  | x :: l, j, h, k, o, hk => by
    simp only [looksOk, Bool.and_eq_true] at h
    cases k with
    | zero => simp at hk; subst hk; exact h.1
    | succ k => rw [show j + (k + 1) = j + 1 + k by omega]; exact looksOk_spec h.2 k o (by simpa using hk)

theorem level_spec {T : Tab} {ms : Tr Nat} {all X : Nat} : ∀ {l : List Oper} {i : Nat} {p : Nat × Oper}, p ∈ level T ms all X l i → i ≤ p.1 ∧ l[p.1 - i]? = some p.2
  | [], i, p, h => by simp [level] at h
  | o :: l, i, p, h => by
    simp only [level] at h
    have rest : p ∈ level T ms all X l (i + 1) → i ≤ p.1 ∧ (o :: l)[p.1 - i]? = some p.2 := by
      intro h
      obtain ⟨h1, h2⟩ := level_spec h
      refine ⟨by omega, ?_⟩
      rw [show p.1 - i = (p.1 - (i + 1)) + 1 by omega]
      simpa using h2
    cases hc : (!(isW T o) && Nat.beq (Nat.land ((ms.get i).getD 0) all) X) with
    | true =>
      rw [hc] at h
      rcases List.mem_cons.1 h with rfl | h
      · exact ⟨Nat.le_refl _, by simp⟩
      · exact rest h
    | false => rw [hc] at h; exact rest h

theorem order_spec {T : Tab} {ops : List Oper} {ms : Tr Nat} {all : Nat} : ∀ {ws : List Nat} {X : Nat} {p : Nat × Oper}, p ∈ order T ops ms all ws X → ops[p.1]? = some p.2
  | [], X, p, h => by
    obtain ⟨_, h2⟩ := level_spec h
    simpa using h2
  | w :: ws, X, p, h => by
    simp only [order, List.mem_append] at h
    rcases h with (h | h) | h
    · obtain ⟨_, h2⟩ := level_spec h
      simpa using h2
    · split at h
      · rename_i o ho
        simp at h
        subst h
        exact ho
      · simp at h
    · exact order_spec h

theorem buildSlice_new {T : Tab} {H H' : Heap} {t len : Nat} {ps : List (Nat × Value)} {v : Value} (h : buildSlice T H t len ps = some (v, H')) : ∃ k, H' = H.new k := by
  unfold buildSlice at h
  split at h
  · split at h
    · rename_i n z _ _
      cases hc : (closedC z && Nat.beq z.cells.size n && Nat.ble 1 n && Nat.ble (len * n) 16777216) with
      | false => simp [hc] at h
      | true =>
        simp only [hc, cond_true] at h
        split at h
        · cases h
        · cases h; exact ⟨_, rfl⟩
    · cases h
  · cases h

theorem opA_new {T : Tab} {H H' : Heap} {e : Operand → Option Value} {op : Op} {v : Value} (h : opA T H e op = some (v, H')) : ∃ k, H' = H.new k := by
  unfold opA at h
  split at h
  · unfold alloc at h
    split at h
    · cases h
    · rename_i z hz
      cases hc : closedC z with
      | false => simp [hc] at h
      | true => simp only [hc, cond_true] at h; cases h; exact ⟨_, rfl⟩
  · split at h
    · unfold box at h; cases h; exact ⟨_, rfl⟩
    · cases h
  · split at h
    · exact buildSlice_new h
    · cases h
  · split at h
    · cases h; exact ⟨_, rfl⟩
    · cases h
  · split at h
    · unfold makeSlice at h
      split at h
      · split at h
        · cases h
        · split at h
          · cases h
          · split at h
            · cases h; exact ⟨_, rfl⟩
            · cases h
      · cases h
    · cases h
  · split at h
    · unfold toBytes at h
      split at h
      · split at h
        · cases h; exact ⟨_, rfl⟩
        · cases h
      · cases h
    · cases h
  · cases h

section
variable {T : Tab} {O : Old} {call : Ev.Call} {N : Nat} {all : List Oper} {ms : Tr Nat}

/-- stretches without a writer: blocks come to be, and nothing else happens -/
theorem Run.seg {R : List Rec} {E X : Nat} {pend : List Pend} {τ : Tr Value} {H : Heap} {E' : Nat} {τ' : Tr Value} {H' : Heap} (h : Run T O call N all ms R E X pend τ H E' τ' H') (s : Nat) : ∀ (p : Nat), s ≤ p → p ≤ R.length →
    (∀ (q : Nat) (r : Rec), s ≤ q → q < p → R[q]? = some r → isW T r.o = false) →
    (heapAt R H' s).next ≤ (heapAt R H' p).next ∧ (∀ b, b < (heapAt R H' s).next → (heapAt R H' p).blks.get b = (heapAt R H' s).blks.get b) ∧
    ∀ (q : Nat) (r : Rec), s ≤ q → q < p → R[q]? = some r → r.wanted = true → cls T r.o.op = .a → (heapAt R H' s).next ≤ r.H.next ∧ r.H.next < (heapAt R H' p).next ∧ (heapAt R H' p).blks.get r.H.next = r.H2.blks.get r.H.next := by
  intro p
  induction p with
  | zero => intro h1 h2 _; obtain rfl : s = 0 := by omega
            exact ⟨Nat.le_refl _, fun _ _ => rfl, fun q r h1 h2 => by omega⟩
  | succ p ih =>
    intro h1 h2 hno
    by_cases e : s = p + 1
    · subst e
      exact ⟨Nat.le_refl _, fun _ _ => rfl, fun q r h1 h2 => by omega⟩
    · obtain ⟨i1, i2, i3⟩ := ih (by omega) (by omega) fun q r a b c => hno q r a (by omega) c
      obtain ⟨r, hr⟩ : ∃ r, R[p]? = some r := ⟨R[p]'(by omega), by simp⟩
      have hH : heapAt R H' p = r.H := by simp [heapAt, hr]
      have hH2 := h.factH hr
      have hnw := hno p r (by omega) (by omega) hr
      obtain ⟨_, _, _, _, hres, _, _⟩ := h.factC hr
      have step : (r.H2 = r.H) ∨ (∃ k, r.H2 = r.H.new k) := by
        rcases hres with ⟨_, _, _, e⟩ | ⟨_, _, hev⟩
        · exact .inl e
        · unfold evalOp at hev
          cases hc : cls T r.o.op with
          | p =>
            simp only [hc] at hev
            split at hev
            · simp only [Option.some.injEq, Prod.mk.injEq] at hev; exact .inl hev.2.symm
            · cases hev
          | l =>
            simp only [hc] at hev
            split at hev
            · simp only [Option.some.injEq, Prod.mk.injEq] at hev; exact .inl hev.2.symm
            · cases hev
          | a => simp only [hc] at hev; exact .inr (opA_new hev)
          | w => simp [isW, hc] at hnw
      have ext : (heapAt R H' p).next ≤ (heapAt R H' (p + 1)).next ∧ ∀ b, b < (heapAt R H' p).next → (heapAt R H' (p + 1)).blks.get b = (heapAt R H' p).blks.get b := by
        rw [hH2, hH]
        rcases step with e | ⟨k, e⟩
        · rw [e]; exact ⟨Nat.le_refl _, fun _ _ => rfl⟩
        · rw [e]; exact ⟨by simp [Heap.new], fun b hb => Tr.get_put_ne _ _ (by omega)⟩
      refine ⟨by omega, fun b hb => by rw [ext.2 b (by omega), i2 b hb], fun q r' g1 g2 g3 g4 g5 => ?_⟩
      by_cases eq : q = p
      · subst eq
        rw [hr] at g3; cases g3
        rw [hH2]
        rcases hres with ⟨hw, _⟩ | ⟨_, _, hev⟩
        · rw [hw] at g4; cases g4
        · unfold evalOp at hev
          simp only [g5] at hev
          obtain ⟨k, e⟩ := opA_new hev
          rw [← hH]
          refine ⟨i1, ?_, by first | rfl | trivial⟩
          rw [e, hH]
          simp [Heap.new]
      · obtain ⟨j1, j2, j3⟩ := i3 q r' g1 (by omega) g3 g4 g5
        exact ⟨j1, by omega, by rw [ext.2 _ j2, j3]⟩

/-- the next writer -/
theorem nextW {R : List Rec} : ∀ (k s : Nat), s + k = R.length → ∃ p, s ≤ p ∧ p ≤ R.length ∧ (∀ (q : Nat) (r : Rec), s ≤ q → q < p → R[q]? = some r → isW T r.o = false) ∧ (p = R.length ∨ ∃ r, R[p]? = some r ∧ isW T r.o = true)
  | 0, s, h => ⟨s, Nat.le_refl _, by omega, fun q r h1 h2 => by omega, .inl (by omega)⟩
  | k + 1, s, h => by
    obtain ⟨r, hr⟩ : ∃ r, R[s]? = some r := ⟨R[s]'(by omega), by simp⟩
    cases hw : isW T r.o with
    | true => exact ⟨s, Nat.le_refl _, by omega, fun q r h1 h2 => by omega, .inr ⟨r, hr, hw⟩⟩
    | false =>
      obtain ⟨p, h1, h2, h3, h4⟩ := nextW (R := R) k (s + 1) (by omega)
      refine ⟨p, by omega, h2, fun q r' g1 g2 g3 => ?_, h4⟩
      by_cases e : q = s
      · subst e; rw [hr] at g3; cases g3; exact hw
      · exact h3 q r' (by omega) g2 g3

theorem Run.nextMono {R : List Rec} {E X : Nat} {pend : List Pend} {τ : Tr Value} {H : Heap} {E' : Nat} {τ' : Tr Value} {H' : Heap} (h : Run T O call N all ms R E X pend τ H E' τ' H') (s : Nat) : ∀ (p : Nat), s ≤ p → p ≤ R.length →
    (heapAt R H' s).next ≤ (heapAt R H' p).next := by
  intro p
  induction p with
  | zero => intro h1 h2; obtain rfl : s = 0 := by omega
            exact Nat.le_refl _
  | succ p ih =>
    intro h1 h2
    by_cases e : s = p + 1
    · subst e; exact Nat.le_refl _
    · have i1 := ih (by omega) (by omega)
      obtain ⟨r, hr⟩ : ∃ r, R[p]? = some r := ⟨R[p]'(by omega), by simp⟩
      have hH : heapAt R H' p = r.H := by simp [heapAt, hr]
      have hH2 := h.factH hr
      obtain ⟨_, _, _, _, hres, _, hmono⟩ := h.factC hr
      rw [hH2]
      rw [hH] at i1
      rcases hres with ⟨_, _, _, e⟩ | ⟨hw, _, hev⟩
      · rw [e]; exact i1
      · cases hW : isW T r.o with
        | true => exact Nat.le_trans i1 (hmono hw hW)
        | false =>
          unfold evalOp at hev
          cases hc : cls T r.o.op with
          | p =>
            simp only [hc] at hev
            split at hev
            · simp only [Option.some.injEq, Prod.mk.injEq] at hev; rw [← hev.2]; exact i1
            · cases hev
          | l =>
            simp only [hc] at hev
            split at hev
            · simp only [Option.some.injEq, Prod.mk.injEq] at hev; rw [← hev.2]; exact i1
            · cases hev
          | a =>
            simp only [hc] at hev
            obtain ⟨k, e⟩ := opA_new hev
            rw [e]
            simp only [Heap.new]
            omega
          | w => simp [isW, hc] at hW
end
end Go.Ev
