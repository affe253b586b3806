/-
  A region whose order is open, as the evaluator goes through it: its trace, and what holds of it.
-/
import Derived.Test.YtmmojhbboomgoaaGreatEvCongr
namespace Go.Ev
set_option linter.unusedSimpArgs false
set_option linter.unusedVariables false

/-- one step of the evaluator's way through a region -/
structure Rec where
  j : Nat
  o : Oper
  m : Nat
  E : Nat
  X : Nat
  τ : Tr Value
  H : Heap
  res : Value
  H2 : Heap
  wanted : Bool

inductive Run (T : Tab) (O : Old) (call : Ev.Call) (N : Nat) (all : List Oper) (ms : Tr Nat) : List Rec → Nat → Nat → List Pend → Tr Value → Heap → Nat → Tr Value → Heap → Prop
  | nil {E X pend τ H} : Run T O call N all ms [] E X pend τ H E τ H
  | step {r : Rec} {R : List Rec} {E X : Nat} {pend pend2 : List Pend} {τ τ2 : Tr Value} {H : Heap} {E' : Nat} {τ' : Tr Value} {H' : Heap}
      (hm : ms.get r.j = some r.m) (hE : r.E = E) (hX : r.X = X) (hτ : r.τ = τ) (hH : r.H = H)
      (c1 : Nat.testBit E r.j = false) (c2 : Nat.land r.m E = r.m) (c3 : Nat.land X r.m = X)
      (hres : (r.wanted = false ∧ wanted all τ r.o = some false ∧ r.res = skipped ∧ r.H2 = H ∧ pend2 = pend) ∨
        (r.wanted = true ∧ wanted all τ r.o = some true ∧ evalOp T O call (ev τ) r.o H = some (r.res, r.H2) ∧
          ((cls T r.o.op = .w ∧ (stable T O r.m r.H2 pend = true ∧ H.next ≤ r.H2.next) ∧ pend2 = pend.filter fun p => !(Nat.testBit r.m p.j)) ∨
           (cls T r.o.op = .a ∧ stable T O 0 r.H2 pend = true ∧ pend2 = pend) ∨
           (cls T r.o.op = .l ∧ pend2 = ⟨r.j, τ, r.o.op, r.res⟩ :: pend) ∨
           (cls T r.o.op = .p ∧ pend2 = pend))))
      (hp : putT N τ r.o.dst r.res = some τ2)
      (next : Run T O call N all ms R (Nat.lor E (2 ^ r.j)) (if isW T r.o = true then Nat.lor X (2 ^ r.j) else X) pend2 τ2 r.H2 E' τ' H') :
      Run T O call N all ms (r :: R) E X pend τ H E' τ' H'

section
variable {T : Tab} {O : Old} {call : Ev.Call} {N : Nat} {all : List Oper} {ms : Tr Nat}

theorem run_of : ∀ (l : List (Nat × Oper)) {E X : Nat} {pend : List Pend} {τ : Tr Value} {H : Heap} {E' : Nat} {τ' : Tr Value} {H' : Heap}, drawRun T O call N all ms l E X pend τ H = some (E', τ', H') →
    ∃ R, R.map (fun r => (r.j, r.o)) = l ∧ Run T O call N all ms R E X pend τ H E' τ' H'
  | [], E, X, pend, τ, H, E', τ', H', h => by
    simp [drawRun] at h
    obtain ⟨rfl, rfl, rfl⟩ := h
    exact ⟨[], rfl, .nil⟩
  | (j, o) :: l, E, X, pend, τ, H, E', τ', H', h => by
    simp only [drawRun] at h
    split at h
    · cases h
    · rename_i m hm
      cases hc : (Nat.testBit E j || !(Nat.beq (Nat.land m E) m) || !(Nat.beq (Nat.land X m) X)) with
      | true => simp only [hc, cond_true] at h; cases h
      | false =>
        simp only [hc, cond_false] at h
        simp only [Bool.or_eq_false_iff, Bool.not_eq_false'] at hc
        obtain ⟨⟨c1, c2⟩, c3⟩ := hc
        have c2 := Nat.eq_of_beq_eq_true c2
        have c3 := Nat.eq_of_beq_eq_true c3
        split at h
        · cases h
        · rename_i hw
          split at h
          · rename_i τ2 hp
            obtain ⟨R, h1, h2⟩ := run_of l h
            refine ⟨⟨j, o, m, E, X, τ, H, skipped, H, false⟩ :: R, by simp [h1], ?_⟩
            refine .step hm rfl rfl rfl rfl c1 c2 c3 (.inl ⟨rfl, hw, rfl, rfl, rfl⟩) hp ?_
            cases hi : isW T o <;> simpa [hi] using h2
          · cases h
        · rename_i hw
          split at h
          · cases h
          · rename_i v H2 hev
            split at h
            · cases h
            · rename_i τ2 hp
              split at h
              · rename_i hcl
                cases hs : (stable T O m H2 pend && Nat.ble H.next H2.next) with
                | false => simp [hs] at h
                | true =>
                  simp only [hs, cond_true] at h
                  simp only [Bool.and_eq_true] at hs
                  obtain ⟨R, h1, h2⟩ := run_of l h
                  refine ⟨⟨j, o, m, E, X, τ, H, v, H2, true⟩ :: R, by simp [h1], ?_⟩
                  refine .step hm rfl rfl rfl rfl c1 c2 c3 (.inr ⟨rfl, hw, hev, .inl ⟨hcl, ⟨hs.1, Nat.le_of_ble_eq_true hs.2⟩, rfl⟩⟩) hp ?_
                  have : isW T o = true := by simp [isW, hcl]
                  simpa [this] using h2
              · rename_i hcl
                obtain ⟨R, h1, h2⟩ := run_of l h
                refine ⟨⟨j, o, m, E, X, τ, H, v, H2, true⟩ :: R, by simp [h1], ?_⟩
                refine .step hm rfl rfl rfl rfl c1 c2 c3 (.inr ⟨rfl, hw, hev, .inr (.inr (.inl ⟨hcl, rfl⟩))⟩) hp ?_
                have : isW T o = false := by simp [isW, hcl]
                simpa [this] using h2
              · rename_i hcl
                cases hs : stable T O 0 H2 pend with
                | false => simp [hs] at h
                | true =>
                  simp only [hs, cond_true] at h
                  obtain ⟨R, h1, h2⟩ := run_of l h
                  refine ⟨⟨j, o, m, E, X, τ, H, v, H2, true⟩ :: R, by simp [h1], ?_⟩
                  refine .step hm rfl rfl rfl rfl c1 c2 c3 (.inr ⟨rfl, hw, hev, .inr (.inl ⟨hcl, hs, rfl⟩)⟩) hp ?_
                  have : isW T o = false := by simp [isW, hcl]
                  simpa [this] using h2
              · rename_i hcl
                obtain ⟨R, h1, h2⟩ := run_of l h
                refine ⟨⟨j, o, m, E, X, τ, H, v, H2, true⟩ :: R, by simp [h1], ?_⟩
                refine .step hm rfl rfl rfl rfl c1 c2 c3 (.inr ⟨rfl, hw, hev, .inr (.inr (.inr ⟨hcl, rfl⟩))⟩) hp ?_
                have : isW T o = false := by simp [isW, hcl]
                simpa [this] using h2

/-- the way from a place on -/
theorem Run.drop {R : List Rec} {E X : Nat} {pend : List Pend} {τ : Tr Value} {H : Heap} {E' : Nat} {τ' : Tr Value} {H' : Heap} (h : Run T O call N all ms R E X pend τ H E' τ' H') :
    ∀ (q : Nat) (r : Rec), R[q]? = some r → ∃ pend, Run T O call N all ms (R.drop q) r.E r.X pend r.τ r.H E' τ' H' := by
  induction h with
  | nil => intro q r hq; simp at hq
  | @step r R E X pend pend2 τ τ2 H E' τ' H' hm hE hX hτ hH c1 c2 c3 hres hp next ih =>
    intro q r' hq
    cases q with
    | zero =>
      simp at hq
      subst hq
      subst hE hX hτ hH
      exact ⟨pend, .step hm rfl rfl rfl rfl c1 c2 c3 hres hp next⟩
    | succ q =>
      simp at hq
      obtain ⟨p, h⟩ := ih q r' hq
      exact ⟨p, by simpa using h⟩

theorem testBit_lor_pow (E j i : Nat) : Nat.testBit (Nat.lor E (2 ^ j)) i = true ↔ Nat.testBit E i = true ∨ j = i := by
  show Nat.testBit (E ||| 2 ^ j) i = true ↔ _
  rw [Nat.testBit_or, Nat.testBit_two_pow]
  simp

theorem Run.factE {R : List Rec} {E X : Nat} {pend : List Pend} {τ : Tr Value} {H : Heap} {E' : Nat} {τ' : Tr Value} {H' : Heap} (h : Run T O call N all ms R E X pend τ H E' τ' H') :
    (∀ q r, R[q]? = some r → ∀ i, Nat.testBit r.E i = true ↔ (Nat.testBit E i = true ∨ ∃ (q' : Nat) (r' : Rec), q' < q ∧ R[q']? = some r' ∧ r'.j = i)) ∧
    (∀ i, Nat.testBit E' i = true ↔ (Nat.testBit E i = true ∨ ∃ (q' : Nat) (r' : Rec), R[q']? = some r' ∧ r'.j = i)) := by
  induction h with
  | nil => exact ⟨fun q r hq => by simp at hq, fun i => by simp⟩
  | @step r R E X pend pend2 τ τ2 H E' τ' H' hm hE hX hτ hH c1 c2 c3 hres hp next ih =>
    obtain ⟨ih1, ih2⟩ := ih
    refine ⟨fun q r' hq i => ?_, fun i => ?_⟩
    · cases q with
      | zero =>
        simp at hq
        subst hq
        rw [hE]
        simp
      | succ q =>
        simp at hq
        rw [ih1 q r' hq i, testBit_lor_pow]
        constructor
        · rintro ((h | h) | ⟨q', r2, h1, h2, h3⟩)
          · exact .inl h
          · exact .inr ⟨0, r, by omega, by simp, h⟩
          · exact .inr ⟨q' + 1, r2, by omega, by simpa using h2, h3⟩
        · rintro (h | ⟨q', r2, h1, h2, h3⟩)
          · exact .inl (.inl h)
          · cases q' with
            | zero => simp at h2; subst h2; exact .inl (.inr h3)
            | succ q' => exact .inr ⟨q', r2, by omega, by simpa using h2, h3⟩
    · rw [ih2 i, testBit_lor_pow]
      constructor
      · rintro ((h | h) | ⟨q', r2, h2, h3⟩)
        · exact .inl h
        · exact .inr ⟨0, r, by simp, h⟩
        · exact .inr ⟨q' + 1, r2, by simpa using h2, h3⟩
      · rintro (h | ⟨q', r2, h2, h3⟩)
        · exact .inl (.inl h)
        · cases q' with
          | zero => simp at h2; subst h2; exact .inl (.inr h3)
          | succ q' => exact .inr ⟨q', r2, by simpa using h2, h3⟩

theorem Run.factX {R : List Rec} {E X : Nat} {pend : List Pend} {τ : Tr Value} {H : Heap} {E' : Nat} {τ' : Tr Value} {H' : Heap} (h : Run T O call N all ms R E X pend τ H E' τ' H') :
    ∀ q r, R[q]? = some r → ∀ (q' : Nat) (r' : Rec), q' < q → R[q']? = some r' → isW T r'.o = true → Nat.testBit r.X r'.j = true := by
  suffices hs : (∀ q r, R[q]? = some r → (∀ i, Nat.testBit X i = true → Nat.testBit r.X i = true) ∧ ∀ (q' : Nat) (r' : Rec), q' < q → R[q']? = some r' → isW T r'.o = true → Nat.testBit r.X r'.j = true) from fun q r hq => (hs q r hq).2
  induction h with
  | nil => intro q r hq; simp at hq
  | @step r R E X pend pend2 τ τ2 H E' τ' H' hm hE hX hτ hH c1 c2 c3 hres hp next ih =>
    intro q r' hq
    cases q with
    | zero =>
      simp at hq
      subst hq
      exact ⟨fun i hi => by rw [hX]; exact hi, fun q' r' h => by omega⟩
    | succ q =>
      simp at hq
      obtain ⟨h1, h2⟩ := ih q r' hq
      refine ⟨fun i hi => h1 i ?_, fun q' r2 hlt hq' hw => ?_⟩
      · split
        · rw [testBit_lor_pow]; exact .inl hi
        · exact hi
      · cases q' with
        | zero =>
          simp at hq'
          subst hq'
          refine h1 _ ?_
          rw [if_pos hw, testBit_lor_pow]
          exact .inr rfl
        | succ q' => exact h2 q' r2 (by omega) (by simpa using hq') hw

/-- what the step at a place has been asked -/
theorem Run.factC {R : List Rec} {E X : Nat} {pend : List Pend} {τ : Tr Value} {H : Heap} {E' : Nat} {τ' : Tr Value} {H' : Heap} (h : Run T O call N all ms R E X pend τ H E' τ' H') {q : Nat} {r : Rec} (hq : R[q]? = some r) :
    ms.get r.j = some r.m ∧ Nat.testBit r.E r.j = false ∧ (∀ i, Nat.testBit r.m i = true → Nat.testBit r.E i = true) ∧ (∀ i, Nat.testBit r.X i = true → Nat.testBit r.m i = true) ∧
    ((r.wanted = false ∧ Ev.wanted all r.τ r.o = some false ∧ r.res = skipped ∧ r.H2 = r.H) ∨ (r.wanted = true ∧ Ev.wanted all r.τ r.o = some true ∧ evalOp T O call (ev r.τ) r.o r.H = some (r.res, r.H2))) ∧ (∀ d, r.o.dst = some d → d < N) ∧
    (r.wanted = true → isW T r.o = true → r.H.next ≤ r.H2.next) := by
  obtain ⟨p, h⟩ := h.drop q r hq
  have hd : R.drop q = r :: R.drop (q + 1) := by
    have hlt := (List.getElem?_eq_some_iff.1 hq).1
    rw [List.drop_eq_getElem_cons hlt]
    rw [(List.getElem?_eq_some_iff.1 hq).2]
  rw [hd] at h
  cases h with
  | step hm hE hX hτ hH c1 c2 c3 hres hp next =>
    refine ⟨hm, c1, fun i hi => ?_, fun i hi => ?_, ?_, fun d hd => ?_, fun hww hwr => ?_⟩
    · have e : Nat.testBit (r.m &&& r.E) i = true := by
        show Nat.testBit (Nat.land r.m r.E) i = true
        rw [c2]; exact hi
      rw [Nat.testBit_and] at e
      simp at e
      exact e.2
    · have e : Nat.testBit (r.X &&& r.m) i = true := by
        show Nat.testBit (Nat.land r.X r.m) i = true
        rw [c3]; exact hi
      rw [Nat.testBit_and] at e
      simp at e
      exact e.2
    · rcases hres with ⟨h1, h2, h3, h4, _⟩ | ⟨h1, h2, h3, _⟩
      · exact .inl ⟨h1, h2, h3, h4⟩
      · exact .inr ⟨h1, h2, h3⟩
    · rw [hd] at hp
      simp only [putT] at hp
      cases hb : Nat.blt d N with
      | false => simp [hb] at hp
      | true => simpa [Nat.blt_eq] using hb
    · rcases hres with ⟨h1, _⟩ | ⟨_, _, _, hc⟩
      · rw [hww] at h1; cases h1
      · rcases hc with ⟨_, h1, _⟩ | ⟨h1, _⟩ | ⟨h1, _⟩ | ⟨h1, _⟩
        · exact h1.2
        all_goals simp [isW, h1] at hwr

/-- the memory ahead of a place -/
def heapAt (R : List Rec) (H' : Heap) (p : Nat) : Heap :=
  match R[p]? with
  | some r => r.H
  | none => H'

theorem Run.head {R : List Rec} {E X : Nat} {pend : List Pend} {τ : Tr Value} {H : Heap} {E' : Nat} {τ' : Tr Value} {H' : Heap} (h : Run T O call N all ms R E X pend τ H E' τ' H') : heapAt R H' 0 = H := by
  cases h with
  | nil => rfl
  | step hm hE hX hτ hH c1 c2 c3 hres hp next => simp [heapAt, hH]

theorem Run.factH {R : List Rec} {E X : Nat} {pend : List Pend} {τ : Tr Value} {H : Heap} {E' : Nat} {τ' : Tr Value} {H' : Heap} (h : Run T O call N all ms R E X pend τ H E' τ' H') {q : Nat} {r : Rec} (hq : R[q]? = some r) :
    heapAt R H' (q + 1) = r.H2 := by
  obtain ⟨p, h⟩ := h.drop q r hq
  have hd : R.drop q = r :: R.drop (q + 1) := by
    have hlt := (List.getElem?_eq_some_iff.1 hq).1
    rw [List.drop_eq_getElem_cons hlt, (List.getElem?_eq_some_iff.1 hq).2]
  rw [hd] at h
  cases h with
  | step hm hE hX hτ hH c1 c2 c3 hres hp next =>
    have := next.head
    rw [← this]
    simp [heapAt]

theorem veqC_eq {x y : Value} (h : veqC x y = true) : x = y := by
  unfold veqC at h
  split at h
  · simp at h; rw [h]
  · simp at h; rw [h.1, h.2]
  · simp at h
    congr 1
    apply ByteArray.ext
    exact h
  · simp at h; rw [h]
  · simp at h
    obtain ⟨⟨h1, h2⟩, h3⟩ := h
    rw [h1, h2, h3]
  · simp at h; rw [h]
  · simp at h; rw [h]
  · simp at h
    obtain ⟨⟨h1, h2⟩, h3⟩ := h
    rw [h1, h2, h3]
  · rfl
  · rfl
  · cases h

theorem veqL_eq : ∀ {l r : List Value}, veqL l r = true → l = r
  | [], [], _ => rfl
  | [], _ :: _, h => by simp [veqL] at h
  | _ :: _, [], h => by simp [veqL] at h
  | x :: l, y :: r, h => by
    simp only [veqL, Bool.and_eq_true] at h
    rw [veqC_eq h.1, veqL_eq h.2]

theorem veq_eq {x y : Value} (h : veq x y = true) : x = y := by
  unfold veq at h
  split at h
  · rename_i a b; congr 1; exact Array.ext' (veqL_eq h)
  · rename_i a b; congr 1; exact Array.ext' (veqL_eq h)
  · simp only [Bool.and_eq_true, decide_eq_true_eq] at h
    obtain ⟨⟨h1, h2⟩, h3⟩ := h
    rw [h1, Array.ext' (veqL_eq h2), Array.ext' (veqL_eq h3)]
  · exact veqC_eq h

theorem stable_of {m : Nat} {H : Heap} : ∀ {l : List Pend}, stable T O m H l = true → ∀ p ∈ l, Nat.testBit m p.j = false → opL T O H (ev p.τ) p.op = some p.v
  | [], _, p, hp, _ => by simp at hp
  | x :: l, h, p, hp, hb => by
    simp only [stable, Bool.and_eq_true] at h
    rcases List.mem_cons.1 hp with rfl | hp
    · have h1 := h.1
      rw [hb] at h1
      simp only [cond_false] at h1
      split at h1
      · rename_i v hv
        rw [hv, veq_eq h1]
      · cases h1
    · exact stable_of h.2 p hp hb

theorem Run.pending {R : List Rec} {E X : Nat} {pend : List Pend} {τ : Tr Value} {H : Heap} {E' : Nat} {τ' : Tr Value} {H' : Heap} (h : Run T O call N all ms R E X pend τ H E' τ' H') :
    ∀ x ∈ pend, opL T O H (ev x.τ) x.op = some x.v → ∀ p, p ≤ R.length → (∀ (q' : Nat) (r' : Rec), q' < p → R[q']? = some r' → isW T r'.o = true → Nat.testBit r'.m x.j = false) → opL T O (heapAt R H' p) (ev x.τ) x.op = some x.v := by
  induction h with
  | nil => intro x _ hx p hp _; simp [heapAt]; exact hx
  | @step r R E X pend pend2 τ τ2 H E' τ' H' hm hE hX hτ hH c1 c2 c3 hres hp next ih =>
    intro x hx hop p hlen hno
    cases p with
    | zero => simp [heapAt, hH]; exact hop
    | succ p =>
      have e : heapAt (r :: R) H' (p + 1) = heapAt R H' p := by simp [heapAt]
      rw [e]
      have hrest : ∀ (q' : Nat) (r' : Rec), q' < p → R[q']? = some r' → isW T r'.o = true → Nat.testBit r'.m x.j = false := fun q' r' h1 h2 h3 => hno (q' + 1) r' (by omega) (by simpa using h2) h3
      have h0 : isW T r.o = true → Nat.testBit r.m x.j = false := fun hw => hno 0 r (by omega) (by simp) hw
      rcases hres with ⟨_, _, _, hH2, rfl⟩ | ⟨_, _, hev, hc⟩
      · exact ih x hx (by rw [hH2]; exact hop) p (by simpa using hlen) hrest
      · rcases hc with ⟨hcl, hs, rfl⟩ | ⟨hcl, hs, rfl⟩ | ⟨hcl, rfl⟩ | ⟨hcl, rfl⟩
        · have hb := h0 (by simp [isW, hcl])
          refine ih x ?_ (stable_of hs.1 x hx hb) p (by simpa using hlen) hrest
          simp [hx, hb]
        · exact ih x hx (stable_of hs x hx (by simp)) p (by simpa using hlen) hrest
        · have hH2 : r.H2 = H := by
            unfold evalOp at hev
            simp only [hcl] at hev
            split at hev
            · cases hev; rfl
            · cases hev
          exact ih x (by simp [hx]) (by rw [hH2]; exact hop) p (by simpa using hlen) hrest
        · have hH2 : r.H2 = H := by
            unfold evalOp at hev
            simp only [hcl] at hev
            split at hev
            · cases hev; rfl
            · cases hev
          exact ih x hx (by rw [hH2]; exact hop) p (by simpa using hlen) hrest

/-- what looks at memory sees the same till a writer comes that it must be ahead of -/
theorem Run.factL {R : List Rec} {E X : Nat} {pend : List Pend} {τ : Tr Value} {H : Heap} {E' : Nat} {τ' : Tr Value} {H' : Heap} (h : Run T O call N all ms R E X pend τ H E' τ' H') {q : Nat} {r : Rec} (hq : R[q]? = some r)
    (hw : r.wanted = true) (hcl : cls T r.o.op = .l) {p : Nat} (hqp : q < p) (hp : p ≤ R.length) (hno : ∀ (q' : Nat) (r' : Rec), q < q' → q' < p → R[q']? = some r' → isW T r'.o = true → Nat.testBit r'.m r.j = false) :
    opL T O (heapAt R H' p) (ev r.τ) r.o.op = some r.res := by
  obtain ⟨pd, h⟩ := h.drop q r hq
  have hlt := (List.getElem?_eq_some_iff.1 hq).1
  have hd : R.drop q = r :: R.drop (q + 1) := by
    rw [List.drop_eq_getElem_cons hlt, (List.getElem?_eq_some_iff.1 hq).2]
  rw [hd] at h
  cases h with
  | step hm hE hX hτ hH c1 c2 c3 hres hpp next =>
    rcases hres with ⟨h1, _⟩ | ⟨_, _, hev, hc⟩
    · rw [hw] at h1; cases h1
    · rcases hc with ⟨hcl', _⟩ | ⟨hcl', _⟩ | ⟨_, rfl⟩ | ⟨hcl', _⟩
      · rw [hcl] at hcl'; cases hcl'
      · rw [hcl] at hcl'; cases hcl'
      · have hopl : opL T O r.H (ev r.τ) r.o.op = some r.res ∧ r.H2 = r.H := by
          unfold evalOp at hev
          simp only [hcl] at hev
          split at hev
          · rename_i v hv
            simp only [Option.some.injEq, Prod.mk.injEq] at hev
            exact ⟨by rw [hv, hev.1], hev.2.symm⟩
          · cases hev
        have := next.pending ⟨r.j, r.τ, r.o.op, r.res⟩ (by simp) (by rw [hopl.2]; exact hopl.1) (p - (q + 1)) (by simp; omega) (fun q' r' h1 h2 h3 => by
          rw [List.getElem?_drop] at h2
          exact hno (q + 1 + q') r' (by omega) (by omega) h2 h3)
        have e : heapAt (R.drop (q + 1)) H' (p - (q + 1)) = heapAt R H' p := by
          simp only [heapAt, List.getElem?_drop]
          rw [show q + 1 + (p - (q + 1)) = p by omega]
        rw [e] at this
        exact this
      · rw [hcl] at hcl'; cases hcl'

theorem Run.factT {R : List Rec} {E X : Nat} {pend : List Pend} {τ : Tr Value} {H : Heap} {E' : Nat} {τ' : Tr Value} {H' : Heap} (h : Run T O call N all ms R E X pend τ H E' τ' H') :
    (∀ q r, R[q]? = some r → ∀ t, (∀ (q' : Nat) (r' : Rec), q' < q → R[q']? = some r' → r'.o.dst ≠ some t) → r.τ.get t = τ.get t) ∧
    (∀ t, (∀ (q' : Nat) (r' : Rec), R[q']? = some r' → r'.o.dst ≠ some t) → τ'.get t = τ.get t) := by
  induction h with
  | nil => exact ⟨fun q r hq => by simp at hq, fun _ _ => rfl⟩
  | @step r R E X pend pend2 τ τ2 H E' τ' H' hm hE hX hτ hH c1 c2 c3 hres hp next ih =>
    obtain ⟨ih1, ih2⟩ := ih
    have h2 : ∀ t, r.o.dst ≠ some t → τ2.get t = τ.get t := by
      intro t ht
      cases hd : r.o.dst with
      | none => rw [hd] at hp; simp [putT] at hp; rw [hp]
      | some d =>
        rw [hd] at hp ht
        simp only [putT] at hp
        cases hb : Nat.blt d N with
        | false => simp [hb] at hp
        | true =>
          simp [hb] at hp
          subst hp
          exact Tr.get_put_ne _ _ fun e => ht (by rw [e])
    refine ⟨fun q r' hq t hno => ?_, fun t hno => ?_⟩
    · cases q with
      | zero => simp at hq; subst hq; rw [hτ]
      | succ q =>
        simp at hq
        rw [ih1 q r' hq t fun q' r2 h1 h3 => hno (q' + 1) r2 (by omega) (by simpa using h3)]
        exact h2 t (hno 0 r (by omega) (by simp))
    · rw [ih2 t fun q' r2 h3 => hno (q' + 1) r2 (by simpa using h3)]
      exact h2 t (hno 0 r (by simp))

theorem Run.factS {R : List Rec} {E X : Nat} {pend : List Pend} {τ : Tr Value} {H : Heap} {E' : Nat} {τ' : Tr Value} {H' : Heap} (h : Run T O call N all ms R E X pend τ H E' τ' H') {q0 : Nat} {r0 : Rec} (hq0 : R[q0]? = some r0) {t : Nat} (ht : r0.o.dst = some t)
    (huniq : ∀ (q' : Nat) (r' : Rec), R[q']? = some r' → r'.o.dst = some t → q' = q0) :
    (∀ q r, q0 < q → R[q]? = some r → r.τ.get t = some r0.res) ∧ τ'.get t = some r0.res := by
  obtain ⟨pd, h⟩ := h.drop q0 r0 hq0
  have hlt := (List.getElem?_eq_some_iff.1 hq0).1
  have hd : R.drop q0 = r0 :: R.drop (q0 + 1) := by
    rw [List.drop_eq_getElem_cons hlt, (List.getElem?_eq_some_iff.1 hq0).2]
  rw [hd] at h
  cases h with
  | @step _ _ _ _ _ _ _ τ2 _ _ _ _ hm hE hX hτ hH c1 c2 c3 hres hp next =>
    have h2 : τ2.get t = some r0.res := by
      rw [ht] at hp
      simp only [putT] at hp
      cases hb : Nat.blt t N with
      | false => simp [hb] at hp
      | true => simp [hb] at hp; subst hp; exact Tr.get_put_self _ _ _
    obtain ⟨f1, f2⟩ := next.factT
    refine ⟨fun q r hlt2 hq => ?_, ?_⟩
    · rw [f1 (q - (q0 + 1)) r (by rw [List.getElem?_drop, show q0 + 1 + (q - (q0 + 1)) = q by omega]; exact hq) t fun q' r' h1 h3 h4 => ?_]
      · exact h2
      · rw [List.getElem?_drop] at h3
        have := huniq _ _ h3 h4
        omega
    · rw [f2 t fun q' r' h3 h4 => ?_]
      · exact h2
      · rw [List.getElem?_drop] at h3
        have := huniq _ _ h3 h4
        omega
end
end Go.Ev
