/-
  Walks: what code comes to, shown step by step, whatever the input. Temporaries as a list, memory as a list of blocks of which the contents are known.
-/
import Derived.Test.YtmmojhbboomgoaaGreatEvMono
namespace Go.Ev.Wk
set_option linter.unusedSimpArgs false
set_option linter.unusedVariables false

abbrev Env := List (Nat × Value)

def look : Env → Nat → Option Value
  | [], _ => none
  | (i, v) :: l, t => bif Nat.beq i t then some v else look l t

def lk (E : Env) : Operand → Option Value
  | .tmp t => look E t
  | .const v => bif closedC v then some v else none
  | .global _ => none
  | .func f => some (.func (.func f) #[] #[])

def Sub (E : Env) (τ : Tr Value) : Prop := ∀ t v, look E t = some v → τ.get t = some v

/-- the entries of one list as the other one says -/
def SubE : Env → Env → Prop
  | [], _ => True
  | p :: l, E => look E p.1 = some p.2 ∧ SubE l E

theorem SubE.look {E' E : Env} (h : SubE E' E) {t : Nat} {v : Value} (hv : look E' t = some v) : look E t = some v := by
  induction E' with
  | nil => cases hv
  | cons p l ih =>
    simp only [Wk.look] at hv
    cases hb : Nat.beq p.1 t with
    | true =>
      rw [hb, cond_true] at hv
      cases hv
      have := Nat.eq_of_beq_eq_true hb
      rw [← this]; exact h.1
    | false => rw [hb, cond_false] at hv; exact ih h.2 hv

theorem Sub.weak {E' E : Env} {τ : Tr Value} (h : Sub E τ) (hs : SubE E' E) : Sub E' τ := fun t v hv => h t v (hs.look hv)

theorem Sub.defO {E : Env} {τ : Tr Value} (h : Sub E τ) : DefO (lk E) (ev τ) := by
  intro x v hx
  cases x with
  | tmp t => exact h t v hx
  | const c => exact hx
  | global g => exact hx
  | func f => exact hx

def putE (d : Option Nat) (v : Value) (E : Env) : Env :=
  match d with
  | some d => (d, v) :: E
  | none => E

def seeO : Option Nat → Option (Option Nat)
  | none => some none
  | some d => some (some d)

theorem seeO_eq {a b : Option Nat} (h : seeO a = some b) : a = b := by
  cases a <;> cases h <;> rfl

/-- 'putE', written out -/
def putN (d : Option Nat) (v : Value) (E : Env) : Option Env :=
  match d with
  | some d => some ((d, v) :: E)
  | none => some E

theorem putN_eq {d : Option Nat} {v : Value} {E E' : Env} (h : putN d v E = some E') : E' = putE d v E := by
  cases d <;> cases h <;> rfl

def dstOk (N : Nat) : Option Nat → Bool
  | some d => Nat.blt d N
  | none => true

theorem Sub.put {E : Env} {τ : Tr Value} (h : Sub E τ) {N : Nat} {d : Option Nat} (v : Value) (hd : dstOk N d = true) : ∃ τ', putT N τ d v = some τ' ∧ Sub (putE d v E) τ' := by
  cases d with
  | none => exact ⟨τ, rfl, h⟩
  | some d =>
    simp only [dstOk] at hd
    refine ⟨τ.put d v, by simp [putT, hd], fun t w hw => ?_⟩
    simp only [putE, look] at hw
    rw [Tr.get_put]
    cases hb : Nat.beq d t with
    | true =>
      rw [hb, cond_true] at hw
      rw [if_pos (Nat.eq_of_beq_eq_true hb).symm]; exact hw
    | false =>
      rw [hb, cond_false] at hw
      rw [if_neg (fun e => Nat.ne_of_beq_eq_false hb e.symm)]
      exact h t w hw

def wantedE (all : List Oper) (E : Env) (o : Oper) : Option Bool :=
  match o.guard with
  | none => some true
  | some (j, want) => match dstOf all j with
    | none => some false
    | some d => match look E d with
      | some (.bool b) => some (b == want)
      | some _ => some false
      | none => none

theorem wantedE_ok {all : List Oper} {E : Env} {o : Oper} {τ : Tr Value} (h : Sub E τ) {b : Bool} (hw : wantedE all E o = some b) : wanted all τ o = some b := by
  unfold wantedE at hw
  unfold wanted
  split at hw
  · rename_i hg; rw [hg]; exact hw
  · rename_i j want hg
    rw [hg]
    simp only
    split at hw
    · rename_i hd; rw [hd]; exact hw
    · rename_i d hd
      rw [hd]
      simp only
      split at hw
      · rename_i hl; rw [h _ _ hl]; exact hw
      · rename_i v hv hl
        rw [h _ _ hl]
        cases v <;> first | exact hw | exact absurd rfl (hv _)
      · cases hw

/-- What is known of a block. -/
inductive Cont where
  | cells (ver : Nat) (l : List Value) (esz ty : Nat)
  | map (es : List (Value × Value))
  /-- of which the version before, with fewer cells, is still good -/
  | grown (ver pn : Nat) (l : List Value) (esz ty : Nat)

def Has (H : Heap) (b : Nat) : Cont → Prop
  | .cells ver l esz ty => ∃ cs prev, H.blks.get b = some (.cells cs l.length ver prev esz ty) ∧ ∀ i x, l[i]? = some x → cs.get i = some x
  | .map es => H.blks.get b = some (.map es)
  | .grown ver pn l esz ty => ∃ cs, H.blks.get b = some (.cells cs l.length (ver + 1) (some pn) esz ty) ∧ ∀ i x, l[i]? = some x → cs.get i = some x

theorem Has.congr {H H' : Heap} {b : Nat} {c : Cont} (h : Has H b c) (e : H'.blks.get b = H.blks.get b) : Has H' b c := by
  cases c with
  | cells ver l esz ty =>
    obtain ⟨cs, p, h1, h2⟩ := h
    exact ⟨cs, p, e.trans h1, h2⟩
  | map es => exact e.trans h
  | grown ver pn l esz ty =>
    obtain ⟨cs, h1, h2⟩ := h
    exact ⟨cs, e.trans h1, h2⟩

/-- The blocks that were there stay as they were, but some. -/
structure ExtBut (X : List Nat) (H H' : Heap) : Prop where
  next : H.next ≤ H'.next
  same : ∀ b, b < H.next → b ∉ X → H'.blks.get b = H.blks.get b

abbrev Ext (H H' : Heap) : Prop := ExtBut [] H H'

theorem ExtBut.refl (X : List Nat) (H : Heap) : ExtBut X H H := ⟨Nat.le_refl _, fun _ _ _ => rfl⟩
theorem ExtBut.trans {X : List Nat} {H H' H'' : Heap} (h : ExtBut X H H') (h' : ExtBut X H' H'') : ExtBut X H H'' :=
  ⟨Nat.le_trans h.next h'.next, fun b hb hx => (h'.same b (Nat.lt_of_lt_of_le hb h.next) hx).trans (h.same b hb hx)⟩
theorem ExtBut.mono {X Y : List Nat} {H H' : Heap} (h : ExtBut X H H') (hx : ∀ b ∈ X, b ∈ Y) : ExtBut Y H H' :=
  ⟨h.next, fun b hb hy => h.same b hb fun e => hy (hx b e)⟩
theorem Ext.to {X : List Nat} {H H' : Heap} (h : Ext H H') : ExtBut X H H' := h.mono fun _ e => by cases e

/-- Blocks of which the contents are known; an entry without a block says nothing. -/
abbrev Atoms := List (Option Nat × Cont)

/-- The memory at a place of a walk: as it was at the walk's beginning but for the blocks X; blocks that are the walk's own (or of X), of which the contents are known. -/
structure St (X : List Nat) (H0 H : Heap) (L : Atoms) : Prop where
  ext : ExtBut X H0 H
  has : ∀ b c, (some b, c) ∈ L → Has H b c
  own : ∀ b c, (some b, c) ∈ L → (H0.next ≤ b ∨ b ∈ X) ∧ b < H.next
  nodup : L.Pairwise fun p q => ∀ b, p.1 = some b → q.1 ≠ some b

theorem St.start (H : Heap) : St [] H H [] := ⟨ExtBut.refl _ _, fun _ _ h => (by cases h), fun _ _ h => (by cases h), .nil⟩

theorem St.get {X : List Nat} {H0 H : Heap} {L : Atoms} (h : St X H0 H L) {i : Nat} {b : Nat} {c : Cont} (hi : L[i]? = some (some b, c)) : Has H b c := h.has _ _ (List.mem_of_getElem? hi)

theorem St.extend {X : List Nat} {H0 H H' : Heap} {L : Atoms} (h : St X H0 H L) (e : Ext H H') : St X H0 H' L where
  ext := h.ext.trans e.to
  has := fun b c hp => (h.has b c hp).congr (e.same _ (h.own b c hp).2 (by simp))
  own := fun b c hp => ⟨(h.own b c hp).1, Nat.lt_of_lt_of_le (h.own b c hp).2 e.next⟩
  nodup := h.nodup

theorem St.sublist {X : List Nat} {H0 H : Heap} {L L' : Atoms} (h : St X H0 H L) (s : L'.Sublist L) : St X H0 H L' where
  ext := h.ext
  has := fun b c hp => h.has b c (s.subset hp)
  own := fun b c hp => h.own b c (s.subset hp)
  nodup := h.nodup.sublist s

/-- memory of the walk's own -/
theorem St.add {X : List Nat} {H0 H H' : Heap} {L : Atoms} (h : St X H0 H L) (e : Ext H H') {b : Nat} {c : Cont} (hb : H.next ≤ b) (hb' : b < H'.next) (hc : Has H' b c) : St X H0 H' ((some b, c) :: L) where
  ext := h.ext.trans e.to
  has := fun x y hp => by
    rcases List.mem_cons.1 hp with e1 | hp
    · cases e1; exact hc
    · exact (h.extend e).has x y hp
  own := fun x y hp => by
    rcases List.mem_cons.1 hp with e1 | hp
    · cases e1; exact ⟨.inl (Nat.le_trans h.ext.next hb), hb'⟩
    · exact (h.extend e).own x y hp
  nodup := by
    refine .cons (fun q hq x hx hqx => ?_) h.nodup
    cases hx
    obtain ⟨q1, q2⟩ := q
    simp only at hqx
    subst hqx
    have := (h.own _ _ hq).2
    omega

/-- an entry that says nothing -/
theorem St.ghost {X : List Nat} {H0 H : Heap} {L : Atoms} (h : St X H0 H L) (c : Cont) : St X H0 H ((none, c) :: L) where
  ext := h.ext
  has := fun x y hp => by
    rcases List.mem_cons.1 hp with e1 | hp
    · cases e1
    · exact h.has x y hp
  own := fun x y hp => by
    rcases List.mem_cons.1 hp with e1 | hp
    · cases e1
    · exact h.own x y hp
  nodup := .cons (fun q hq x hx => (by cases hx)) h.nodup

theorem nodup_inj {L : Atoms} (h : L.Pairwise fun p q => ∀ b, p.1 = some b → q.1 ≠ some b) {i j : Nat} {b : Nat} {c c' : Cont} (hi : L[i]? = some (some b, c)) (hj : L[j]? = some (some b, c')) : i = j := by
  rw [List.pairwise_iff_getElem] at h
  obtain ⟨hi1, hi2⟩ := List.getElem?_eq_some_iff.1 hi
  obtain ⟨hj1, hj2⟩ := List.getElem?_eq_some_iff.1 hj
  rcases Nat.lt_trichotomy i j with hlt | he | hlt
  · exact absurd (by rw [hj2]) (h i j hi1 hj1 hlt b (by rw [hi2]))
  · exact he
  · exact absurd (by rw [hi2]) (h j i hj1 hi1 hlt b (by rw [hj2]))

theorem pairwise_of_inj {L : Atoms} (h : ∀ (i j b : Nat) (c c' : Cont), L[i]? = some (some b, c) → L[j]? = some (some b, c') → i = j) : L.Pairwise fun p q => ∀ b, p.1 = some b → q.1 ≠ some b := by
  rw [List.pairwise_iff_getElem]
  intro i j hi hj hij b hb hc
  have e1 : L[i]? = some (some b, (L[i]).2) := by rw [List.getElem?_eq_getElem hi, ← hb]
  have e2 : L[j]? = some (some b, (L[j]).2) := by rw [List.getElem?_eq_getElem hj, ← hc]
  have := h i j b _ _ e1 e2
  omega

/-- one of the blocks is another one behind; or an entry that said nothing is of new memory -/
theorem St.put {X : List Nat} {H0 H H' : Heap} {L : Atoms} (h : St X H0 H L) {i : Nat} {p : Option Nat × Cont} {b : Nat} {c' : Cont} (hi : L[i]? = some p) (hb : p.1 = some b ∨ p.1 = none ∧ H.next ≤ b) (hb' : b < H'.next) (e : ExtBut [b] H H') (hc : Has H' b c') : St X H0 H' (L.set i (some b, c')) := by
  have other : ∀ j x y, j ≠ i → L[j]? = some (some x, y) → x ≠ b := by
    intro j x y hji hj exb
    subst exb
    rcases hb with hb | ⟨_, hb⟩
    · obtain ⟨p1, p2⟩ := p
      simp only at hb
      subst hb
      exact hji (nodup_inj h.nodup hj hi)
    · have := (h.own _ _ (List.mem_of_getElem? hj)).2
      omega
  have get : ∀ j q, (L.set i (some b, c'))[j]? = some q → (j = i ∧ q = (some b, c')) ∨ (j ≠ i ∧ L[j]? = some q) := by
    intro j q hj
    rw [List.getElem?_set] at hj
    by_cases hij : i = j
    · rw [if_pos hij] at hj
      split at hj
      · cases hj; exact .inl ⟨hij.symm, rfl⟩
      · cases hj
    · rw [if_neg hij] at hj
      exact .inr ⟨fun e => hij e.symm, hj⟩
  refine ⟨⟨Nat.le_trans h.ext.next e.next, fun x hx hX => ?_⟩, fun x y hp => ?_, fun x y hp => ?_, pairwise_of_inj ?_⟩
  · have : x ≠ b := by
      rintro rfl
      rcases hb with hb | ⟨_, hb⟩
      · obtain ⟨p1, p2⟩ := p
        simp only at hb
        subst hb
        rcases (h.own _ _ (List.mem_of_getElem? hi)).1 with h1 | h1
        · omega
        · exact hX h1
      · have := h.ext.next; omega
    rw [e.same x (Nat.lt_of_lt_of_le hx h.ext.next) (by simpa using this)]
    exact h.ext.same x hx hX
  · obtain ⟨j, hj⟩ := List.getElem?_of_mem hp
    rcases get j _ hj with ⟨_, e1⟩ | ⟨hji, hj⟩
    · cases e1; exact hc
    · have hm := List.mem_of_getElem? hj
      exact (h.has x y hm).congr (e.same _ (h.own x y hm).2 (by simpa using other j x y hji hj))
  · obtain ⟨j, hj⟩ := List.getElem?_of_mem hp
    rcases get j _ hj with ⟨_, e1⟩ | ⟨hji, hj⟩
    · cases e1
      refine ⟨?_, hb'⟩
      rcases hb with hb | ⟨_, hb⟩
      · obtain ⟨p1, p2⟩ := p
        simp only at hb
        subst hb
        exact (h.own _ _ (List.mem_of_getElem? hi)).1
      · exact .inl (Nat.le_trans h.ext.next hb)
    · have := h.own x y (List.mem_of_getElem? hj)
      exact ⟨this.1, Nat.lt_of_lt_of_le this.2 e.next⟩
  · intro j k x c1 c2 hj hk
    rcases get j _ hj with ⟨e1, e2⟩ | ⟨e1, hj⟩ <;> rcases get k _ hk with ⟨e3, e4⟩ | ⟨e3, hk⟩
    · omega
    · cases e2; exact absurd rfl (other k _ _ e3 hk)
    · cases e4; exact absurd rfl (other j _ _ e1 hj)
    · exact nodup_inj h.nodup hj hk

theorem St.change {X : List Nat} {H0 H H' : Heap} {L : Atoms} (h : St X H0 H L) {i b : Nat} {c c' : Cont} (hi : L[i]? = some (some b, c)) (e : ExtBut [b] H H') (hc : Has H' b c') : St X H0 H' (L.set i (some b, c')) :=
  h.put hi (.inl rfl) (Nat.lt_of_lt_of_le (h.own _ _ (List.mem_of_getElem? hi)).2 e.next) e hc

section
variable (T : Tab) (O : Old)

/-- A call comes to an end, and then this holds. -/
def CallC (f : Nat) (l : List Value) (H : Heap) (Q : Value → Heap → Prop) : Prop :=
  ∃ lf k v H', evalCall T O lf k f l H = some (v, H') ∧ H.next ≤ H'.next ∧ Q v H'

variable (X : List Nat) (H0 : Heap) (N : Nat)

structure OpsS (all ops : List Oper) (E : Env) (L : Atoms) (Q : Env → Atoms → Prop) : Prop where
  run : ∀ H, St X H0 H L → ∀ τ, Sub E τ → ∃ lf k τ' H' E' L', evalOps T O (evalCall T O lf k) N all ops τ H = some (τ', H') ∧ Sub E' τ' ∧ St X H0 H' L' ∧ H.next ≤ H'.next ∧ Q E' L'

structure ExecS (c : Code) (E : Env) (L : Atoms) (Q : Ex → Env → Atoms → Prop) : Prop where
  run : ∀ H, St X H0 H L → ∀ τ, Sub E τ → ∃ lf k ex τ' H' E' L', evalC T O (evalCall T O lf k) N lf c τ H = some (ex, τ', H') ∧ Sub E' τ' ∧ St X H0 H' L' ∧ H.next ≤ H'.next ∧ Q ex E' L'

/-- a look that may come later, too -/
structure PendE where
  j : Nat
  E : Env
  op : Op
  v : Value

abbrev PSub (p : List PendE) (q : List Pend) : Prop := All2 (fun (x : PendE) (y : Pend) => y.j = x.j ∧ Sub x.E y.τ ∧ y.op = x.op ∧ y.v = x.v) p q

/-- May the operations be taken in this order, with these ones surely before each? -/
noncomputable def schedOk (T : Tab) (all : List Oper) (ms : Tr Nat) (full : Nat) : List (Nat × Nat) → Nat → Nat → Bool
  | [], Em, _ => Nat.beq Em full
  | (j, m) :: l, Em, Xm => match all[j]? with
    | none => false
    | some o => match ms.get j with
      | none => false
      | some m' => Nat.beq m' m && !(Nat.testBit Em j || !(Nat.beq (Nat.land m Em) m) || !(Nat.beq (Nat.land Xm m) Xm)) && schedOk T all ms full l (Nat.lor Em (2 ^ j)) (bif isW T o then Nat.lor Xm (2 ^ j) else Xm)

structure DrawS (all : List Oper) (ms : Tr Nat) (full : Nat) (lst : List (Nat × Nat)) (pend : List PendE) (E : Env) (L : Atoms) (Q : Env → Atoms → Prop) : Prop where
  run : ∀ Em Xm, schedOk T all ms full lst Em Xm = true → ∀ H, St X H0 H L → ∀ τ pd, Sub E τ → PSub pend pd → ∃ lf k τ' H' E' L', drawRun T O (evalCall T O lf k) N all ms ((lst.map (·.1)).filterMap fun j => (all[j]?).map fun o => (j, o)) Em Xm pd τ H = some (full, τ', H') ∧ Sub E' τ' ∧ St X H0 H' L' ∧ H.next ≤ H'.next ∧ Q E' L'
end

section
variable {T : Tab} {O : Old} {X : List Nat} {H0 : Heap} {N : Nat}

theorem CallC.mono {f : Nat} {l : List Value} {H : Heap} {Q Q' : Value → Heap → Prop} (h : CallC T O f l H Q) (hq : ∀ v H', Q v H' → Q' v H') : CallC T O f l H Q' := by
  obtain ⟨lf, k, v, H', h1, hn, h2⟩ := h
  exact ⟨lf, k, v, H', h1, hn, hq _ _ h2⟩

theorem OpsS.mono {all ops : List Oper} {E : Env} {L : Atoms} {Q Q' : Env → Atoms → Prop} (h : OpsS T O X H0 N all ops E L Q) (hq : ∀ E' L', Q E' L' → Q' E' L') : OpsS T O X H0 N all ops E L Q' := .mk fun H hs τ ht => by
  obtain ⟨lf, k, τ', H', E', L', h1, h2, h3, hn, h4⟩ := h.run H hs τ ht
  exact ⟨lf, k, τ', H', E', L', h1, h2, h3, hn, hq _ _ h4⟩

theorem ExecS.mono {c : Code} {E : Env} {L : Atoms} {Q Q' : Ex → Env → Atoms → Prop} (h : ExecS T O X H0 N c E L Q) (hq : ∀ ex E' L', Q ex E' L' → Q' ex E' L') : ExecS T O X H0 N c E L Q' := .mk fun H hs τ ht => by
  obtain ⟨lf, k, ex, τ', H', E', L', h1, h2, h3, hn, h4⟩ := h.run H hs τ ht
  exact ⟨lf, k, ex, τ', H', E', L', h1, h2, h3, hn, hq _ _ _ h4⟩

theorem ExecS.weak {c : Code} {E E' : Env} {L L' : Atoms} {Q : Ex → Env → Atoms → Prop} (he : SubE E' E) (hl : L'.Sublist L) (h : ExecS T O X H0 N c E' L' Q) : ExecS T O X H0 N c E L Q :=
  .mk fun H hs τ ht => h.run H (hs.sublist hl) τ (ht.weak he)

theorem OpsS.weak {all ops : List Oper} {E E' : Env} {L L' : Atoms} {Q : Env → Atoms → Prop} (he : SubE E' E) (hl : L'.Sublist L) (h : OpsS T O X H0 N all ops E' L' Q) : OpsS T O X H0 N all ops E L Q :=
  .mk fun H hs τ ht => h.run H (hs.sublist hl) τ (ht.weak he)

/-! Code. -/

theorem exec_skip {E : Env} {L : Atoms} {Q : Ex → Env → Atoms → Prop} (h : Q .normal E L) : ExecS T O X H0 N .skip E L Q :=
  .mk fun H hs τ ht => ⟨0, 0, .normal, τ, H, E, L, rfl, ht, hs, Nat.le_refl _, h⟩

theorem exec_ret {E : Env} {L : Atoms} {Q : Ex → Env → Atoms → Prop} (h : Q .ret E L) : ExecS T O X H0 N .ret E L Q :=
  .mk fun H hs τ ht => ⟨0, 0, .ret, τ, H, E, L, rfl, ht, hs, Nat.le_refl _, h⟩

theorem exec_exit {id : Nat} {E : Env} {L : Atoms} {Q : Ex → Env → Atoms → Prop} (h : Q (.exit id) E L) : ExecS T O X H0 N (.exit id) E L Q :=
  .mk fun H hs τ ht => ⟨0, 0, .exit id, τ, H, E, L, rfl, ht, hs, Nat.le_refl _, h⟩

/-- behind a part: what comes next, if it comes to its end -/
def thenS (T : Tab) (O : Old) (X : List Nat) (H0 : Heap) (N : Nat) (b : Code) (Q : Ex → Env → Atoms → Prop) (ex : Ex) (E : Env) (L : Atoms) : Prop :=
  match ex with
  | .normal => ExecS T O X H0 N b E L Q
  | ex => Q ex E L

theorem exec_seq {a b : Code} {E : Env} {L : Atoms} {Q : Ex → Env → Atoms → Prop} (h : ExecS T O X H0 N a E L (thenS T O X H0 N b Q)) : ExecS T O X H0 N (.seq a b) E L Q := by
  constructor
  intro H hs τ ht
  obtain ⟨lf, k, ex, τ', H', E', L', h1, h2, h3, hn, h4⟩ := h.run H hs τ ht
  cases ex with
  | normal =>
    obtain ⟨lf2, k2, ex2, τ2, H2, E2, L2, g1, g2, g3, gn, g4⟩ := (show ExecS T O X H0 N b E' L' Q from h4).run H' h3 τ' h2
    refine ⟨max lf lf2, max k k2, ex2, τ2, H2, E2, L2, ?_, g2, g3, Nat.le_trans hn gn, g4⟩
    simp only [evalC]
    rw [evalC_mono (evalCall_mono (Nat.le_max_left lf lf2) (Nat.le_max_left k k2)) (Nat.le_max_left lf lf2) h1]
    exact evalC_mono (evalCall_mono (Nat.le_max_right lf lf2) (Nat.le_max_right k k2)) (Nat.le_max_right lf lf2) g1
  | exit i =>
    refine ⟨lf, k, .exit i, τ', H', E', L', ?_, h2, h3, hn, h4⟩
    simp only [evalC]; rw [h1]
  | ret =>
    refine ⟨lf, k, .ret, τ', H', E', L', ?_, h2, h3, hn, h4⟩
    simp only [evalC]; rw [h1]

/-- a part comes to its end, and then something holds from which the rest goes on -/
def midS (R : Env → Atoms → Prop) (ex : Ex) (E : Env) (L : Atoms) : Prop :=
  match ex with
  | .normal => R E L
  | _ => False

theorem exec_mid {a b : Code} {E : Env} {L : Atoms} {Q : Ex → Env → Atoms → Prop} (R : Env → Atoms → Prop) (h1 : ExecS T O X H0 N a E L (midS R)) (h2 : ∀ E' L', R E' L' → ExecS T O X H0 N b E' L' Q) : ExecS T O X H0 N a E L (thenS T O X H0 N b Q) :=
  h1.mono fun ex E' L' h => match ex, h with
    | .normal, h => h2 E' L' h
    | .exit _, h => h.elim
    | .ret, h => h.elim

/-- the same, where it may also end otherwise -/
def midQ (R : Env → Atoms → Prop) (Q : Ex → Env → Atoms → Prop) (ex : Ex) (E : Env) (L : Atoms) : Prop :=
  match ex with
  | .normal => R E L
  | ex => Q ex E L

theorem exec_midQ {a b : Code} {E : Env} {L : Atoms} {Q : Ex → Env → Atoms → Prop} (R : Env → Atoms → Prop) (h1 : ExecS T O X H0 N a E L (midQ R Q)) (h2 : ∀ E' L', R E' L' → ExecS T O X H0 N b E' L' Q) : ExecS T O X H0 N a E L (thenS T O X H0 N b Q) :=
  h1.mono fun ex E' L' h => match ex, h with
    | .normal, h => h2 E' L' h
    | .exit _, h => h
    | .ret, h => h

theorem exec_true {c : Operand} {x y : Code} {E : Env} {L : Atoms} {Q : Ex → Env → Atoms → Prop} (hc : lk E c = some (.bool true)) (h : ExecS T O X H0 N x E L Q) : ExecS T O X H0 N (.cond c x y) E L Q := by
  constructor
  intro H hs τ ht
  obtain ⟨lf, k, ex, τ', H', E', L', h1, h2⟩ := h.run H hs τ ht
  refine ⟨lf, k, ex, τ', H', E', L', ?_, h2⟩
  simp only [evalC, ht.defO _ _ hc]; exact h1

theorem exec_false {c : Operand} {x y : Code} {E : Env} {L : Atoms} {Q : Ex → Env → Atoms → Prop} (hc : lk E c = some (.bool false)) (h : ExecS T O X H0 N y E L Q) : ExecS T O X H0 N (.cond c x y) E L Q := by
  constructor
  intro H hs τ ht
  obtain ⟨lf, k, ex, τ', H', E', L', h1, h2⟩ := h.run H hs τ ht
  refine ⟨lf, k, ex, τ', H', E', L', ?_, h2⟩
  simp only [evalC, ht.defO _ _ hc]; exact h1

/-- a branch, whichever way -/
theorem exec_cond {c : Operand} {x y : Code} {b : Bool} {E : Env} {L : Atoms} {Q : Ex → Env → Atoms → Prop} (hc : lk E c = some (.bool b)) (h1 : b = true → ExecS T O X H0 N x E L Q) (h2 : b = false → ExecS T O X H0 N y E L Q) : ExecS T O X H0 N (.cond c x y) E L Q := by
  cases b with
  | true => exact exec_true hc (h1 rfl)
  | false => exact exec_false hc (h2 rfl)

/-- behind a block -/
def outS (id : Nat) (Q : Ex → Env → Atoms → Prop) (ex : Ex) (E : Env) (L : Atoms) : Prop :=
  match ex with
  | .exit i => bif Nat.beq i id then Q .normal E L else Q (.exit i) E L
  | ex => Q ex E L

theorem exec_block {id : Nat} {c : Code} {E : Env} {L : Atoms} {Q : Ex → Env → Atoms → Prop} (h : ExecS T O X H0 N c E L (outS id Q)) : ExecS T O X H0 N (.block id c) E L Q := by
  constructor
  intro H hs τ ht
  obtain ⟨lf, k, ex, τ', H', E', L', h1, h2, h3, hn, h4⟩ := h.run H hs τ ht
  cases ex with
  | normal => exact ⟨lf, k, .normal, τ', H', E', L', by simp only [evalC]; rw [h1], h2, h3, hn, h4⟩
  | ret => exact ⟨lf, k, .ret, τ', H', E', L', by simp only [evalC]; rw [h1], h2, h3, hn, h4⟩
  | exit i =>
    simp only [outS] at h4
    cases hb : Nat.beq i id with
    | true =>
      rw [hb] at h4
      exact ⟨lf, k, .normal, τ', H', E', L', by simp only [evalC]; rw [h1]; simp only [hb, cond_true], h2, h3, hn, h4⟩
    | false =>
      rw [hb] at h4
      exact ⟨lf, k, .exit i, τ', H', E', L', by simp only [evalC]; rw [h1]; simp only [hb, cond_false], h2, h3, hn, h4⟩

/-- behind a loop's body -/
def againS (Inv : Nat → Env → Atoms → Prop) (n : Nat) (Q : Ex → Env → Atoms → Prop) (ex : Ex) (E : Env) (L : Atoms) : Prop :=
  match ex with
  | .normal => ∃ m, m < n ∧ ∃ E' L', SubE E' E ∧ List.Sublist L' L ∧ Inv m E' L'
  | ex => Q ex E L

theorem exec_loop {c : Code} {Q : Ex → Env → Atoms → Prop} (Inv : Nat → Env → Atoms → Prop) (step : ∀ n E L, Inv n E L → ExecS T O X H0 N c E L (againS Inv n Q)) :
    ∀ (n : Nat) (E : Env) (L : Atoms), Inv n E L → ExecS T O X H0 N (.loop c) E L Q := by
  intro n
  induction n using Nat.strongRecOn with
  | _ n ih =>
    intro E L hi
    constructor
    intro H hs τ ht
    obtain ⟨lf, k, ex, τ', H', E', L', h1, h2, h3, hn, h4⟩ := (step n E L hi).run H hs τ ht
    cases ex with
    | normal =>
      obtain ⟨m, hm, E2, L2, hE, hL, hi2⟩ := h4
      obtain ⟨lf2, k2, ex2, τ2, H2, E3, L3, g1, g2, g3, gn, g4⟩ := (ih m hm E2 L2 hi2).run H' (h3.sublist hL) τ' (h2.weak hE)
      refine ⟨max lf lf2 + 1, max k k2, ex2, τ2, H2, E3, L3, ?_, g2, g3, Nat.le_trans hn gn, g4⟩
      simp only [evalC] at g1 ⊢
      simp only [iter]
      rw [evalC_mono (evalCall_mono (by omega) (Nat.le_max_left k k2)) (by omega) h1]
      exact iter_mono (fun τ H r h => evalC_mono (evalCall_mono (by omega) (Nat.le_max_right k k2)) (by omega) h) (by omega) g1
    | exit i =>
      refine ⟨lf + 1, k, .exit i, τ', H', E', L', ?_, h2, h3, hn, h4⟩
      simp only [evalC, iter]
      rw [evalC_mono (evalCall_mono (by omega) (Nat.le_refl k)) (by omega) h1]
    | ret =>
      refine ⟨lf + 1, k, .ret, τ', H', E', L', ?_, h2, h3, hn, h4⟩
      simp only [evalC, iter]
      rw [evalC_mono (evalCall_mono (by omega) (Nat.le_refl k)) (by omega) h1]

/-- one step of a loop whose number of rounds is known -/
theorem exec_loop_step {c : Code} {E : Env} {L : Atoms} {Q : Ex → Env → Atoms → Prop} (h : ExecS T O X H0 N c E L (thenS T O X H0 N (.loop c) Q)) : ExecS T O X H0 N (.loop c) E L Q := by
  constructor
  intro H hs τ ht
  obtain ⟨lf, k, ex, τ', H', E', L', h1, h2, h3, hn, h4⟩ := h.run H hs τ ht
  cases ex with
  | normal =>
    obtain ⟨lf2, k2, ex2, τ2, H2, E3, L3, g1, g2, g3, gn, g4⟩ := (show ExecS T O X H0 N (.loop c) E' L' Q from h4).run H' h3 τ' h2
    refine ⟨max lf lf2 + 1, max k k2, ex2, τ2, H2, E3, L3, ?_, g2, g3, Nat.le_trans hn gn, g4⟩
    simp only [evalC] at g1 ⊢
    simp only [iter]
    rw [evalC_mono (evalCall_mono (by omega) (Nat.le_max_left k k2)) (by omega) h1]
    exact iter_mono (fun τ H r h => evalC_mono (evalCall_mono (by omega) (Nat.le_max_right k k2)) (by omega) h) (by omega) g1
  | exit i =>
    refine ⟨lf + 1, k, .exit i, τ', H', E', L', ?_, h2, h3, hn, h4⟩
    simp only [evalC, iter]
    rw [evalC_mono (evalCall_mono (by omega) (Nat.le_refl k)) (by omega) h1]
  | ret =>
    refine ⟨lf + 1, k, .ret, τ', H', E', L', ?_, h2, h3, hn, h4⟩
    simp only [evalC, iter]
    rw [evalC_mono (evalCall_mono (by omega) (Nat.le_refl k)) (by omega) h1]

theorem exec_region {id : Nat} {ops : Array Oper} {E : Env} {L : Atoms} {Q : Ex → Env → Atoms → Prop} (h : OpsS T O X H0 N ops.toList ops.toList E L (Q .normal)) : ExecS T O X H0 N (.region id ops false) E L Q := by
  constructor
  intro H hs τ ht
  obtain ⟨lf, k, τ', H', E', L', h1, h2, h3, hn, h4⟩ := h.run H hs τ ht
  refine ⟨lf, k, .normal, τ', H', E', L', ?_, h2, h3, hn, h4⟩
  simp only [evalC, cond_false]; rw [h1]

/-- the order in which an open region is taken -/
noncomputable def orderOf (T : Tab) (ops : List Oper) : List Nat := (order T ops (masks ops 0 .lf) (bitsOf (wsOf T ops 0)) (wsOf T ops 0) 0).map (·.1)

noncomputable def drawOk (ops : List Oper) : Bool :=
  match writers ops 0 .lf with
  | some W => looksOk ops (masks ops 0 .lf) W ops 0
  | none => false

theorem filterMap_order {ops : List Oper} : ∀ {l : List (Nat × Oper)}, (∀ p ∈ l, ops[p.1]? = some p.2) → ((l.map (·.1)).filterMap fun j => (ops[j]?).map fun o => (j, o)) = l
  | [], _ => rfl
  | p :: l, h => by
    rw [List.map_cons, List.filterMap_cons, h p (by simp)]
    simp only [Option.map_some]
    rw [filterMap_order fun q hq => h q (by simp [hq])]

theorem exec_draw {id : Nat} {ops : Array Oper} {lst : List (Nat × Nat)} {full : Nat} {E : Env} {L : Atoms} {Q : Ex → Env → Atoms → Prop} (hk : drawOk ops.toList = true) (ho : orderOf T ops.toList = lst.map (·.1)) (hf : full = 2 ^ ops.toList.length - 1)
    (hsc : schedOk T ops.toList (masks ops.toList 0 .lf) full lst 0 0 = true) (h : DrawS T O X H0 N ops.toList (masks ops.toList 0 .lf) full lst [] E L (Q .normal)) : ExecS T O X H0 N (.region id ops true) E L Q := by
  constructor
  intro H hs τ ht
  obtain ⟨lf, k, τ', H', E', L', h1, h2, h3, hn, h4⟩ := h.run 0 0 hsc H hs τ [] ht .nil
  refine ⟨lf, k, .normal, τ', H', E', L', ?_, h2, h3, hn, h4⟩
  simp only [evalC, cond_true]
  unfold drawRegion
  unfold drawOk at hk
  cases hw : writers ops.toList 0 .lf with
  | none => rw [hw] at hk; cases hk
  | some W =>
    rw [hw] at hk
    simp only at hk ⊢
    rw [hk, cond_true]
    rw [← ho, orderOf, filterMap_order fun p hp => order_spec hp] at h1
    rw [h1]
    subst hf
    simp

theorem look_enum : ∀ {l : List Value} {i t : Nat} {v : Value}, look (l.zipIdx i |>.map fun p => (p.2, p.1)) t = some v → i ≤ t ∧ l[t - i]? = some v
  | [], _, _, _, h => by cases h
  | x :: l, i, t, v, h => by
    simp only [List.zipIdx_cons, List.map_cons, look] at h
    cases hb : Nat.beq i t with
    | true =>
      rw [hb, cond_true] at h
      obtain rfl := Nat.eq_of_beq_eq_true hb
      cases h
      simp
    | false =>
      rw [hb, cond_false] at h
      have hne := Nat.ne_of_beq_eq_false hb
      obtain ⟨h1, h2⟩ := look_enum h
      refine ⟨by omega, ?_⟩
      have : t - i = (t - (i + 1)) + 1 := by omega
      rw [this]; simpa using h2

/-- the temporaries at a call's beginning -/
def enumE : List Value → Nat → Env
  | [], _ => []
  | v :: l, i => (i, v) :: enumE l (i + 1)

/-- the same, written out -/
def enumN : List Value → Nat → Option Env
  | [], _ => some []
  | v :: l, i => match enumN l (i + 1) with
    | some r => some ((i, v) :: r)
    | none => none

theorem enumN_eq : ∀ {l : List Value} {i : Nat} {E : Env}, enumN l i = some E → E = enumE l i
  | [], _, _, h => by cases h; rfl
  | v :: l, i, E, h => by
    simp only [enumN] at h
    cases hr : enumN l (i + 1) with
    | none => rw [hr] at h; cases h
    | some r => rw [hr] at h; cases h; rw [enumN_eq hr]; rfl

theorem enumE_look : ∀ {l : List Value} {i t : Nat} {v : Value}, look (enumE l i) t = some v → i ≤ t ∧ l[t - i]? = some v
  | [], _, _, _, h => by cases h
  | x :: l, i, t, v, h => by
    simp only [enumE, look] at h
    cases hb : Nat.beq i t with
    | true =>
      rw [hb, cond_true] at h
      obtain rfl := Nat.eq_of_beq_eq_true hb
      cases h
      simp
    | false =>
      rw [hb, cond_false] at h
      have hne := Nat.ne_of_beq_eq_false hb
      obtain ⟨h1, h2⟩ := enumE_look h
      refine ⟨by omega, ?_⟩
      have : t - i = (t - (i + 1)) + 1 := by omega
      rw [this]; simpa using h2

theorem enumE_sub (l : List Value) : Sub (enumE l 0) (Tr.fill l 0 .lf) := by
  intro t v h
  obtain ⟨_, h2⟩ := enumE_look h
  rw [get_fillAny]; simpa using h2

def resE (E : Env) : List ResultVar → Option (List Value)
  | [] => some []
  | .tmp t :: l => match look E t, resE E l with
    | some v, some r => some (v :: r)
    | _, _ => none
  | .cell _ _ :: _ => none

theorem resE_ok {E : Env} {τ : Tr Value} {H : Heap} (h : Sub E τ) : ∀ {l : List ResultVar} {r : List Value}, resE E l = some r → resV T O τ H l = some r
  | [], _, e => e
  | .cell _ _ :: _, _, e => by cases e
  | .tmp t :: l, r, e => by
    simp only [resE] at e
    simp only [resV]
    cases ht : look E t with
    | none => simp [ht] at e
    | some v =>
      cases hl : resE E l with
      | none => simp [ht, hl] at e
      | some r' => rw [h t v ht, resE_ok h hl]; simpa [ht, hl] using e

/-- at a call's end -/
def endS (res : List ResultVar) (Q : Value → Atoms → Prop) (ex : Ex) (E : Env) (L : Atoms) : Prop :=
  (match ex with | .exit _ => False | _ => True) ∧ ∃ vs, resE E res = some vs ∧ Q (oneOf vs) L

theorem call_intro {f : Nat} {fn : Func} {c : Code} {l : List Value} {H : Heap} {L : Atoms} {Q : Value → Atoms → Prop} (hp : T.prim f = none) (hf : T.fn f = some fn) (hb : fn.body = some c) (hn : Nat.ble l.length fn.ntmps = true)
    (hst : St X H0 H L) {E0 : Env} (he : enumN l 0 = some E0) (h : ExecS T O X H0 fn.ntmps c E0 L (endS fn.results.toList Q)) : CallC T O f l H fun v H' => ∃ L', St X H0 H' L' ∧ Q v L' := by
  obtain rfl := enumN_eq he
  obtain ⟨lf, k, ex, τ', H', E', L', h1, h2, h3, hnx, h4, vs, h5, h6⟩ := h.run H hst _ (enumE_sub l)
  refine ⟨lf, k + 1, oneOf vs, H', ?_, hnx, L', h3, h6⟩
  simp only [evalCall, hp, hf, hb, hn, cond_true, h1]
  cases ex with
  | normal => simp only [resE_ok h2 h5]
  | ret => simp only [resE_ok h2 h5]
  | exit i => exact h4.elim

/-- a call that leaves the memory that was there as it was, and makes none that is told -/
theorem call_pure {f : Nat} {fn : Func} {c : Code} {l : List Value} {E0 : Env} {H : Heap} {V : Value} (hp : T.prim f = none) (hf : T.fn f = some fn) (hb : fn.body = some c) (hn : Nat.ble l.length fn.ntmps = true)
    (he : enumN l 0 = some E0) (h : ExecS T O [] H fn.ntmps c E0 [] (endS fn.results.toList fun v _ => v = V)) : CallC T O f l H fun v H' => v = V ∧ Ext H H' :=
  (call_intro hp hf hb hn (St.start H) he h).mono fun v H' ⟨L', h1, h2⟩ => ⟨h2, h1.ext⟩

theorem call_true {f : Nat} {l : List Value} {H : Heap} (h : CallC T O f l H fun v _ => v = .bool true) : ∃ lf k, isTrue (evalCall T O lf k f l H) = true := by
  obtain ⟨lf, k, v, H', h1, _, rfl⟩ := h
  exact ⟨lf, k, by rw [h1]; rfl⟩

/-! Operations in order. -/

theorem ops_nil {all : List Oper} {E : Env} {L : Atoms} {Q : Env → Atoms → Prop} (h : Q E L) : OpsS T O X H0 N all [] E L Q :=
  .mk fun H hs τ ht => ⟨0, 0, τ, H, E, L, rfl, ht, hs, Nat.le_refl _, h⟩

theorem ops_one {all l : List Oper} {o : Oper} {E : Env} {L : Atoms} {Q : Env → Atoms → Prop} (hw : wantedE all E o = some true) {d : Option Nat} (hdd : seeO o.dst = some d) (hd : dstOk N d = true)
    (h : ∀ H, St X H0 H L → ∀ τ, Sub E τ → ∃ lf k v H' L', evalOp T O (evalCall T O lf k) (ev τ) o H = some (v, H') ∧ St X H0 H' L' ∧ H.next ≤ H'.next ∧ OpsS T O X H0 N all l (putE d v E) L' Q) :
    OpsS T O X H0 N all (o :: l) E L Q := by
  obtain rfl := seeO_eq hdd
  constructor
  intro H hs τ ht
  obtain ⟨lf, k, v, H', L', h1, h2, hn, h3⟩ := h H hs τ ht
  obtain ⟨τ', hp, hτ⟩ := ht.put v hd
  obtain ⟨lf2, k2, τ2, H2, E2, L2, g1, g2, g3, gn, g4⟩ := h3.run H' h2 τ' hτ
  refine ⟨max lf lf2, max k k2, τ2, H2, E2, L2, ?_, g2, g3, Nat.le_trans hn gn, g4⟩
  simp only [evalOps, evalOne, wantedE_ok ht hw]
  rw [evalOp_mono (fun _ _ h => h) (evalCall_mono (Nat.le_max_left lf lf2) (Nat.le_max_left k k2)) h1]
  simp only [hp]
  exact evalOps_mono (evalCall_mono (Nat.le_max_right lf lf2) (Nat.le_max_right k k2)) g1

theorem ops_skip {all l : List Oper} {o : Oper} {E : Env} {L : Atoms} {Q : Env → Atoms → Prop} (hw : wantedE all E o = some false) {d : Option Nat} (hdd : seeO o.dst = some d) (hd : dstOk N d = true) (h : OpsS T O X H0 N all l (putE d skipped E) L Q) : OpsS T O X H0 N all (o :: l) E L Q := by
  obtain rfl := seeO_eq hdd
  constructor
  intro H hs τ ht
  obtain ⟨τ', hp, hτ⟩ := ht.put skipped hd
  obtain ⟨lf2, k2, τ2, H2, E2, L2, g1, g2, g3, gn, g4⟩ := h.run H hs τ' hτ
  refine ⟨lf2, k2, τ2, H2, E2, L2, ?_, g2, g3, gn, g4⟩
  simp only [evalOps, evalOne, wantedE_ok ht hw, hp]
  exact g1

theorem evalOp_p {call : Ev.Call} {E : Env} {τ : Tr Value} {o : Oper} {H : Heap} {v : Value} (ht : Sub E τ) (hc : cls T o.op = .p) (hv : opP T (lk E) o.op = some v) : evalOp T O call (ev τ) o H = some (v, H) := by
  unfold evalOp; rw [hc]; simp only [opP_mono ht.defO hv]

theorem evalOp_l {call : Ev.Call} {E : Env} {τ : Tr Value} {o : Oper} {H : Heap} {v : Value} (ht : Sub E τ) (hc : cls T o.op = .l) (hv : opL T O H (lk E) o.op = some v) : evalOp T O call (ev τ) o H = some (v, H) := by
  unfold evalOp; rw [hc]; simp only [opL_mono ht.defO hv]

theorem evalOp_a {call : Ev.Call} {E : Env} {τ : Tr Value} {o : Oper} {H : Heap} {r : Value × Heap} (ht : Sub E τ) (hc : cls T o.op = .a) (hv : opA T H (lk E) o.op = some r) : evalOp T O call (ev τ) o H = some r := by
  unfold evalOp; rw [hc]; exact opA_mono ht.defO hv

theorem evalOp_w {call : Ev.Call} {E : Env} {τ : Tr Value} {o : Oper} {H : Heap} {r : Value × Heap} (ht : Sub E τ) (hc : cls T o.op = .w) (hv : opW T O call H (lk E) o.op = some r) : evalOp T O call (ev τ) o H = some r := by
  unfold evalOp; rw [hc]; exact opW_mono ht.defO (CallLe.refl _) hv

def noCall : Ev.Call := fun _ _ _ => none

theorem noCall_le (c : Ev.Call) : CallLe noCall c := fun _ _ _ _ h => by cases h

/-- What an operation does to the walk's state: of what looks at no memory, of what looks, of what makes, of what writes. -/
structure StepS (T : Tab) (O : Old) (X : List Nat) (H0 : Heap) (E : Env) (L : Atoms) (o : Oper) (k : Value → Atoms → Prop) : Prop where
  run : ∀ H, St X H0 H L → ∀ τ, Sub E τ → ∃ lf n v H' L', evalOp T O (evalCall T O lf n) (ev τ) o H = some (v, H') ∧ St X H0 H' L' ∧ H.next ≤ H'.next ∧ k v L'

theorem ops_step {all l : List Oper} {o : Oper} {E : Env} {L : Atoms} {Q : Env → Atoms → Prop} (hw : wantedE all E o = some true) {d : Option Nat} (hdd : seeO o.dst = some d) (hd : dstOk N d = true)
    (h : StepS T O X H0 E L o fun v L' => OpsS T O X H0 N all l (putE d v E) L' Q) : OpsS T O X H0 N all (o :: l) E L Q :=
  ops_one hw hdd hd h.run

theorem step_p {o : Oper} {E : Env} {L : Atoms} {v : Value} {k : Value → Atoms → Prop} (hc : cls T o.op = .p) (hv : opP T (lk E) o.op = some v) (h : k v L) : StepS T O X H0 E L o k :=
  .mk fun H hs τ ht => ⟨0, 0, v, H, L, evalOp_p ht hc hv, hs, Nat.le_refl _, h⟩

theorem step_l {o : Oper} {E : Env} {L : Atoms} {v : Value} {k : Value → Atoms → Prop} (hc : cls T o.op = .l) (hv : ∀ H, St X H0 H L → opL T O H (lk E) o.op = some v) (h : k v L) : StepS T O X H0 E L o k :=
  .mk fun H hs τ ht => ⟨0, 0, v, H, L, evalOp_l ht hc (hv H hs), hs, Nat.le_refl _, h⟩

theorem ext_new (H : Heap) (k : Blk) : Ext H (H.new k) :=
  ⟨Nat.le_succ _, fun b hb _ => Tr.get_put_ne _ _ (by omega)⟩

theorem has_newCells (H : Heap) (l : List Value) (esz ty : Nat) : Has (H.newCells l esz ty) H.next (.cells 0 l esz ty) :=
  ⟨_, _, Tr.get_put_self _ _ _, fun i x h => by rw [get_fillAny]; exact h⟩

theorem step_a {o : Oper} {E : Env} {L : Atoms} {f : Nat → Value} {c : List Value} {esz ty : Nat} {k : Value → Atoms → Prop} (hc : cls T o.op = .a) (hv : ∀ H, opA T H (lk E) o.op = some (f H.next, H.newCells c esz ty))
    (h : ∀ b, k (f b) ((some b, .cells 0 c esz ty) :: L)) : StepS T O X H0 E L o k :=
  .mk fun H hs τ ht => ⟨0, 0, f H.next, _, _, evalOp_a ht hc (hv H), hs.add (ext_new _ _) (Nat.le_refl _) (Nat.lt_succ_self _) (has_newCells _ _ _ _), Nat.le_succ _, h H.next⟩

theorem step_map {o : Oper} {E : Env} {L : Atoms} {t : Nat} {k : Value → Atoms → Prop} (ho : o.op = .makeMap t none)
    (h : ∀ b, k (.map (some b)) ((some b, .map []) :: L)) : StepS T O X H0 E L o k :=
  .mk fun H hs τ ht => ⟨0, 0, .map (some H.next), _, _, evalOp_a ht (by rw [ho]; rfl) (by rw [ho]; rfl), hs.add (ext_new _ _) (Nat.le_refl _) (Nat.lt_succ_self _) (show Has _ _ (.map []) from Tr.get_put_self _ _ _), Nat.le_succ _, h H.next⟩

/-- what writes, without calling -/
theorem step_w {o : Oper} {E : Env} {L : Atoms} {k : Value → Atoms → Prop} (hc : cls T o.op = .w) (h : ∀ H, St X H0 H L → ∃ v H' L', opW T O noCall H (lk E) o.op = some (v, H') ∧ St X H0 H' L' ∧ H.next ≤ H'.next ∧ k v L') : StepS T O X H0 E L o k :=
  .mk fun H hs τ ht => by
    obtain ⟨v, H', L', h1, h2, h3, h4⟩ := h H hs
    exact ⟨0, 0, v, H', L', evalOp_w ht hc (opW_mono (fun _ _ h => h) (noCall_le _) h1), h2, h3, h4⟩

theorem step_call {o : Oper} {f : Operand} {xa : Array Operand} {ts : Array TypeId} {g : Nat} {a b : Array Value} {l : List Value} {E : Env} {L : Atoms} {k : Value → Atoms → Prop} (ho : o.op = .call { callee := .value f, args := xa, argTypes := ts })
    (hf : lk E f = some (.func (.func g) a b)) (hx : args (lk E) xa.toList = some l)
    (h : ∀ H, St X H0 H L → CallC T O g (a.toList ++ l ++ b.toList) H fun v H' => ∃ L', St X H0 H' L' ∧ k v L') : StepS T O X H0 E L o k :=
  .mk fun H hs τ ht => by
    obtain ⟨lf, n, v, H', h1, h3, L', h2, h4⟩ := h H hs
    refine ⟨lf, n, v, H', L', evalOp_w ht (by rw [ho]; rfl) ?_, h2, h3, h4⟩
    rw [ho]
    simp only [opW, hf, hx]
    exact h1

theorem step_call_pure {o : Oper} {f : Operand} {xa : Array Operand} {ts : Array TypeId} {g : Nat} {a b : Array Value} {l : List Value} {V : Value} {E : Env} {L : Atoms} {k : Value → Atoms → Prop} (ho : o.op = .call { callee := .value f, args := xa, argTypes := ts })
    (hf : lk E f = some (.func (.func g) a b)) (hx : args (lk E) xa.toList = some l)
    (h : ∀ H, St X H0 H L → CallC T O g (a.toList ++ l ++ b.toList) H fun v H' => v = V ∧ Ext H H') (hk : k V L) : StepS T O X H0 E L o k :=
  step_call ho hf hx fun H hs => (h H hs).mono fun v H' ⟨e, hE⟩ => ⟨L, hs.extend hE, e ▸ hk⟩

/-! Regions whose order is open. -/

/-- The looks that may come later say the same in the memory that is then. -/
def StabS (T : Tab) (O : Old) (X : List Nat) (H0 : Heap) (m : Nat) (L : Atoms) : List PendE → Prop
  | [] => True
  | ⟨j, E, op, v⟩ :: l => (Nat.testBit m j = true ∨ (veq v v = true ∧ ∀ H, St X H0 H L → opL T O H (lk E) op = some v)) ∧ StabS T O X H0 m L l

theorem StabS.ok {m : Nat} {L : Atoms} {H : Heap} (hs : St X H0 H L) : ∀ {pend : List PendE} {pd : List Pend}, PSub pend pd → StabS T O X H0 m L pend → stable T O m H pd = true
  | _, _, .nil, _ => rfl
  | _, _, .cons h t, hst => by
    obtain ⟨h1, h2, h3, h4⟩ := h
    simp only [stable, Bool.and_eq_true]
    refine ⟨?_, StabS.ok hs t hst.2⟩
    rw [h1]
    rcases hst.1 with hb | ⟨hv, hb⟩
    · rw [hb]; rfl
    · cases hbt : Nat.testBit m _ with
      | true => rfl
      | false => simp only [cond_false]; rw [h3, h4, opL_mono h2.defO (hb H hs)]; exact hv

theorem draw_nil {all : List Oper} {ms : Tr Nat} {full : Nat} {pend : List PendE} {E : Env} {L : Atoms} {Q : Env → Atoms → Prop} (h : Q E L) : DrawS T O X H0 N all ms full [] pend E L Q :=
  .mk fun Em Xm hsc H hs τ pd ht hp => ⟨0, 0, τ, H, E, L, by
    simp only [schedOk] at hsc
    rw [Nat.eq_of_beq_eq_true hsc]; rfl, ht, hs, Nat.le_refl _, h⟩

def keepP (m : Nat) : List PendE → List PendE
  | [] => []
  | p :: l => bif Nat.testBit m p.j then keepP m l else p :: keepP m l

/-- the same, written out -/
def keepN (m : Nat) : List PendE → Option (List PendE)
  | [] => some []
  | ⟨j, E, op, v⟩ :: l => match keepN m l with
    | some r => match Nat.testBit m j with
      | true => some r
      | false => some (⟨j, E, op, v⟩ :: r)
    | none => none

theorem keepN_eq {m : Nat} : ∀ {l r : List PendE}, keepN m l = some r → keepP m l = r
  | [], _, h => by cases h; rfl
  | p :: l, r, h => by
    simp only [keepN] at h
    simp only [keepP]
    cases hl : keepN m l with
    | none => rw [hl] at h; cases h
    | some r' =>
      rw [hl] at h
      simp only at h
      rw [keepN_eq hl]
      cases hb : Nat.testBit m p.j with
      | true => rw [hb] at h; cases h; rfl
      | false => rw [hb] at h; cases h; rfl

theorem PSub.keep (m : Nat) : ∀ {p : List PendE} {q : List Pend}, PSub p q → PSub (keepP m p) (q.filter fun p => !(Nat.testBit m p.j))
  | _, _, .nil => .nil
  | _, _, .cons (x := x) (y := y) h t => by
    simp only [List.filter_cons, keepP]
    rw [h.1]
    cases hb : Nat.testBit m x.j with
    | true => simp only [cond_true, Bool.not_true, Bool.false_eq_true, if_false]; exact PSub.keep m t
    | false => simp only [cond_false, Bool.not_false, if_true]; exact .cons h (PSub.keep m t)

/-- what is open behind an operation -/
def pendOf (T : Tab) (j m : Nat) (E : Env) (o : Oper) (v : Value) (pend : List PendE) : List PendE :=
  match cls T o.op with
  | .l => ⟨j, E, o.op, v⟩ :: pend
  | .w => keepP m pend
  | _ => pend

theorem isW_of {T : Tab} {o : Oper} : isW T o = match cls T o.op with | .w => true | _ => false := rfl

theorem draw_one {all : List Oper} {ms : Tr Nat} {full j m : Nat} {lst : List (Nat × Nat)} {o : Oper} {pend : List PendE} {E : Env} {L : Atoms} {Q : Env → Atoms → Prop}
    (hj : all[j]? = some o) (hw : wantedE all E o = some true) {d : Option Nat} (hdd : seeO o.dst = some d) (hd : dstOk N d = true)
    (h : StepS T O X H0 E L o fun v L' => ((cls T o.op = .a → StabS T O X H0 0 L' pend) ∧ (cls T o.op = .w → StabS T O X H0 m L' pend)) ∧
      DrawS T O X H0 N all ms full lst (pendOf T j m E o v pend) (putE d v E) L' Q) :
    DrawS T O X H0 N all ms full ((j, m) :: lst) pend E L Q := by
  obtain rfl := seeO_eq hdd
  constructor
  intro Em Xm hsc H hs τ pd hτ hpd
  obtain ⟨lf, n, v, H', L', h1, h2, hnx, ⟨hstA, hstW⟩, h3⟩ := h.run H hs τ hτ
  obtain ⟨τ', hput, hτ'⟩ := hτ.put v hd
  simp only [schedOk, hj] at hsc
  cases hm : ms.get j with
  | none => rw [hm] at hsc; cases hsc
  | some m' =>
    rw [hm] at hsc
    simp only [Bool.and_eq_true, Bool.not_eq_true'] at hsc
    obtain ⟨⟨hmm, ht⟩, hsc⟩ := hsc
    obtain rfl := Nat.eq_of_beq_eq_true hmm
    have key : ∀ pd', PSub (pendOf T j m' E o v pend) pd' → ∃ lf2 k2 τ2 H2 E2 L2, drawRun T O (evalCall T O lf2 k2) N all ms ((lst.map (·.1)).filterMap fun j => (all[j]?).map fun o => (j, o)) (Nat.lor Em (2 ^ j)) (bif isW T o then Nat.lor Xm (2 ^ j) else Xm) pd' τ' H' = some (full, τ2, H2) ∧ Sub E2 τ2 ∧ St X H0 H2 L2 ∧ H'.next ≤ H2.next ∧ Q E2 L2 :=
      fun pd' hpd' => h3.run _ _ hsc H' h2 τ' pd' hτ' hpd'
    have fin : ∀ (pd' : List Pend) (s : Bool), PSub (pendOf T j m' E o v pend) pd' → s = true →
        (∀ call : Ev.Call, CallLe (evalCall T O lf n) call → drawRun T O call N all ms ((j, o) :: (lst.map (·.1)).filterMap fun j => (all[j]?).map fun o => (j, o)) Em Xm pd τ H = bif s then drawRun T O call N all ms ((lst.map (·.1)).filterMap fun j => (all[j]?).map fun o => (j, o)) (Nat.lor Em (2 ^ j)) (bif isW T o then Nat.lor Xm (2 ^ j) else Xm) pd' τ' H' else none) →
        ∃ lf k τ' H' E' L', drawRun T O (evalCall T O lf k) N all ms ((((j, m') :: lst).map (·.1)).filterMap fun j => (all[j]?).map fun o => (j, o)) Em Xm pd τ H = some (full, τ', H') ∧ Sub E' τ' ∧ St X H0 H' L' ∧ H.next ≤ H'.next ∧ Q E' L' := by
      intro pd' s hpd' hs' heq
      obtain ⟨lf2, k2, τ2, H2, E2, L2, g1, g2, g3, g4, g5⟩ := key pd' hpd'
      refine ⟨max lf lf2, max n k2, τ2, H2, E2, L2, ?_, g2, g3, Nat.le_trans hnx g4, g5⟩
      rw [List.map_cons, List.filterMap_cons, hj]
      simp only [Option.map_some]
      rw [heq _ (evalCall_mono (Nat.le_max_left lf lf2) (Nat.le_max_left n k2)), hs', cond_true]
      exact drawRun_mono (evalCall_mono (Nat.le_max_right lf lf2) (Nat.le_max_right n k2)) g1
    have unf : ∀ call : Ev.Call, CallLe (evalCall T O lf n) call → drawRun T O call N all ms ((j, o) :: (lst.map (·.1)).filterMap fun j => (all[j]?).map fun o => (j, o)) Em Xm pd τ H =
        (match cls T o.op with
              | .w => bif stable T O m' H' pd && Nat.ble H.next H'.next then drawRun T O call N all ms ((lst.map (·.1)).filterMap fun j => (all[j]?).map fun o => (j, o)) (Nat.lor Em (2 ^ j)) (Nat.lor Xm (2 ^ j)) (pd.filter fun p => !(Nat.testBit m' p.j)) τ' H' else none
              | .l => drawRun T O call N all ms ((lst.map (·.1)).filterMap fun j => (all[j]?).map fun o => (j, o)) (Nat.lor Em (2 ^ j)) Xm (⟨j, τ, o.op, v⟩ :: pd) τ' H'
              | .a => bif stable T O 0 H' pd then drawRun T O call N all ms ((lst.map (·.1)).filterMap fun j => (all[j]?).map fun o => (j, o)) (Nat.lor Em (2 ^ j)) Xm pd τ' H' else none
              | .p => drawRun T O call N all ms ((lst.map (·.1)).filterMap fun j => (all[j]?).map fun o => (j, o)) (Nat.lor Em (2 ^ j)) Xm pd τ' H') := by
      intro call hle
      have e := evalOp_mono (fun _ _ h => h) hle h1
      conv => lhs; unfold drawRun
      simp only [hm, ht, cond_false, wantedE_ok hτ hw, e, hput]
      cases cls T o.op <;> rfl
    have hW := @isW_of T o
    cases hcl : cls T o.op with
    | p =>
      rw [hcl] at hW
      refine fin pd true ?_ rfl fun call hle => ?_
      · simp only [pendOf, hcl]; exact hpd
      · rw [unf call hle, hcl, hW]; rfl
    | l =>
      rw [hcl] at hW
      refine fin (⟨j, τ, o.op, v⟩ :: pd) true ?_ rfl fun call hle => ?_
      · simp only [pendOf, hcl]; exact .cons ⟨rfl, hτ, rfl, rfl⟩ hpd
      · rw [unf call hle, hcl, hW]; rfl
    | a =>
      rw [hcl] at hW
      refine fin pd (stable T O 0 H' pd) ?_ ((hstA hcl).ok h2 hpd) fun call hle => ?_
      · simp only [pendOf, hcl]; exact hpd
      · rw [unf call hle, hcl, hW]; rfl
    | w =>
      rw [hcl] at hW
      refine fin (pd.filter fun p => !(Nat.testBit m' p.j)) (stable T O m' H' pd && Nat.ble H.next H'.next) ?_ ?_ fun call hle => ?_
      · simp only [pendOf, hcl]; exact PSub.keep m' hpd
      · rw [(hstW hcl).ok h2 hpd, Nat.ble_eq_true_of_le hnx]; rfl
      · rw [unf call hle, hcl, hW]; rfl

theorem draw_a {all : List Oper} {ms : Tr Nat} {full j m : Nat} {lst : List (Nat × Nat)} {o : Oper} {pend : List PendE} {E : Env} {L : Atoms} {Q : Env → Atoms → Prop}
    (hj : all[j]? = some o) (hw : wantedE all E o = some true) {d : Option Nat} (hdd : seeO o.dst = some d) (hd : dstOk N d = true) (hc : cls T o.op = .a)
    (h : StepS T O X H0 E L o fun v L' => StabS T O X H0 0 L' pend ∧ DrawS T O X H0 N all ms full lst pend (putE d v E) L' Q) : DrawS T O X H0 N all ms full ((j, m) :: lst) pend E L Q := by
  refine draw_one hj hw hdd hd (.mk fun H hs τ hτ => ?_)
  obtain ⟨lf, n, v, H', L', h1, h2, h3, h4, h5⟩ := h.run H hs τ hτ
  exact ⟨lf, n, v, H', L', h1, h2, h3, ⟨fun _ => h4, fun e => (nomatch (hc.symm.trans e))⟩, by simp only [pendOf, hc]; exact h5⟩

theorem draw_w {all : List Oper} {ms : Tr Nat} {full j m : Nat} {lst : List (Nat × Nat)} {o : Oper} {pend pend' : List PendE} {E : Env} {L : Atoms} {Q : Env → Atoms → Prop}
    (hj : all[j]? = some o) (hw : wantedE all E o = some true) {d : Option Nat} (hdd : seeO o.dst = some d) (hd : dstOk N d = true) (hc : cls T o.op = .w) (hp : keepN m pend = some pend')
    (h : StepS T O X H0 E L o fun v L' => StabS T O X H0 m L' pend ∧ DrawS T O X H0 N all ms full lst pend' (putE d v E) L' Q) : DrawS T O X H0 N all ms full ((j, m) :: lst) pend E L Q := by
  obtain rfl := keepN_eq hp
  refine draw_one hj hw hdd hd (.mk fun H hs τ hτ => ?_)
  obtain ⟨lf, n, v, H', L', h1, h2, h3, h4, h5⟩ := h.run H hs τ hτ
  exact ⟨lf, n, v, H', L', h1, h2, h3, ⟨fun e => (nomatch (hc.symm.trans e)), fun _ => h4⟩, by simp only [pendOf, hc]; exact h5⟩

theorem draw_skip {all : List Oper} {ms : Tr Nat} {full j m : Nat} {lst : List (Nat × Nat)} {o : Oper} {pend : List PendE} {E : Env} {L : Atoms} {Q : Env → Atoms → Prop}
    (hj : all[j]? = some o) (hw : wantedE all E o = some false) {d : Option Nat} (hdd : seeO o.dst = some d) (hd : dstOk N d = true)
    (h : DrawS T O X H0 N all ms full lst pend (putE d skipped E) L Q) : DrawS T O X H0 N all ms full ((j, m) :: lst) pend E L Q := by
  obtain rfl := seeO_eq hdd
  constructor
  intro Em Xm hsc H hs τ pd hτ hpd
  obtain ⟨τ', hput, hτ'⟩ := hτ.put skipped hd
  simp only [schedOk, hj] at hsc
  cases hm : ms.get j with
  | none => rw [hm] at hsc; cases hsc
  | some m' =>
    rw [hm] at hsc
    simp only [Bool.and_eq_true, Bool.not_eq_true'] at hsc
    obtain ⟨⟨hmm, ht⟩, hsc⟩ := hsc
    obtain rfl := Nat.eq_of_beq_eq_true hmm
    obtain ⟨lf2, k2, τ2, H2, E2, L2, g1, g2⟩ := h.run _ _ hsc H hs τ' pd hτ' hpd
    refine ⟨lf2, k2, τ2, H2, E2, L2, ?_, g2⟩
    rw [List.map_cons, List.filterMap_cons, hj]
    simp only [Option.map_some]
    unfold drawRun
    simp only [hm, ht, cond_false, wantedE_ok hτ hw, hput]
    exact g1
end
end Go.Ev.Wk
