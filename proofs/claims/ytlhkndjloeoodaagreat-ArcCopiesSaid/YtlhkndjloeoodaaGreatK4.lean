/-
  Lemmas for the laws of this seat.
-/
import Derived.Test.YtlhkndjloeoodaaGreatK3
import Derived.SliceStrings
import Derived.Carry
set_option linter.unusedVariables false
set_option linter.unusedSimpArgs false
namespace Go.Ev.Wk
abbrev Env := List (Nat × Value)
def look : Env → Nat → Option Value
  | [], _ => none
  | (i, v) :: l, t => bif Nat.beq i t then some v else look l t
def lk (E : Env) : Operand → Option Value
  | .tmp t => look E t
  | .const v => bif closedC v then some v else none
  | .global _ => none
  | .func f => some (.func (.func f) #[] #[])
def Sub (E : Env) (τ : Tr Value) : Prop := ∀ t v, look E t = some v → τ.get t = some v
def SubE : Env → Env → Prop
  | [], _ => True
  | p :: l, E => look E p.1 = some p.2 ∧ SubE l E
theorem SubE.look {E' E : Env} (h : SubE E' E) {t : Nat} {v : Value} (hv : look E' t = some v) : look E t = some v := by
  induction E' with
  | nil => cases hv
  | cons p l ih =>
    simp only [Wk.look] at hv
    cases hb : Nat.beq p.1 t with
    | true =>
      rw [hb, cond_true] at hv
      cases hv
      have := Nat.eq_of_beq_eq_true hb
      rw [← this]; exact h.1
    | false => rw [hb, cond_false] at hv; exact ih h.2 hv
theorem Sub.weak {E' E : Env} {τ : Tr Value} (h : Sub E τ) (hs : SubE E' E) : Sub E' τ := fun t v hv => h t v (hs.look hv)
theorem Sub.defO {E : Env} {τ : Tr Value} (h : Sub E τ) : DefO (lk E) (ev τ) := by
  intro x v hx
  cases x with
  | tmp t => exact h t v hx
  | const c => exact hx
  | global g => exact hx
  | func f => exact hx
def putE (d : Option Nat) (v : Value) (E : Env) : Env :=
  match d with
  | some d => (d, v) :: E
  | none => E
def seeO : Option Nat → Option (Option Nat)
  | none => some none
  | some d => some (some d)
theorem seeO_eq {a b : Option Nat} (h : seeO a = some b) : a = b := by
  cases a <;> cases h <;> rfl
def putN (d : Option Nat) (v : Value) (E : Env) : Option Env :=
  match d with
  | some d => some ((d, v) :: E)
  | none => some E
theorem putN_eq {d : Option Nat} {v : Value} {E E' : Env} (h : putN d v E = some E') : E' = putE d v E := by
  cases d <;> cases h <;> rfl
def dstOk (N : Nat) : Option Nat → Bool
  | some d => Nat.blt d N
  | none => true
theorem Sub.put {E : Env} {τ : Tr Value} (h : Sub E τ) {N : Nat} {d : Option Nat} (v : Value) (hd : dstOk N d = true) : ∃ τ', putT N τ d v = some τ' ∧ Sub (putE d v E) τ' := by
  cases d with
  | none => exact ⟨τ, rfl, h⟩
  | some d =>
    simp only [dstOk] at hd
    refine ⟨τ.put d v, by simp [putT, hd], fun t w hw => ?_⟩
    simp only [putE, look] at hw
    rw [Tr.get_put]
    cases hb : Nat.beq d t with
    | true =>
      rw [hb, cond_true] at hw
      rw [if_pos (Nat.eq_of_beq_eq_true hb).symm]; exact hw
    | false =>
      rw [hb, cond_false] at hw
      rw [if_neg (fun e => Nat.ne_of_beq_eq_false hb e.symm)]
      exact h t w hw
def wantedE (all : List Oper) (E : Env) (o : Oper) : Option Bool :=
  match o.guard with
  | none => some true
  | some (j, want) => match dstOf all j with
    | none => some false
    | some d => match look E d with
      | some (.bool b) => some (b == want)
      | some _ => some false
      | none => none
theorem wantedE_ok {all : List Oper} {E : Env} {o : Oper} {τ : Tr Value} (h : Sub E τ) {b : Bool} (hw : wantedE all E o = some b) : wanted all τ o = some b := by
  unfold wantedE at hw
  unfold wanted
  split at hw
  · rename_i hg; rw [hg]; exact hw
  · rename_i j want hg
    rw [hg]
    simp only
    split at hw
    · rename_i hd; rw [hd]; exact hw
    · rename_i d hd
      rw [hd]
      simp only
      split at hw
      · rename_i hl; rw [h _ _ hl]; exact hw
      · rename_i v hv hl
        rw [h _ _ hl]
        cases v <;> first | exact hw | exact absurd rfl (hv _)
      · cases hw
inductive Cont where
  | cells (ver : Nat) (l : List Value) (esz ty : Nat)
  | map (es : List (Value × Value))
  | grown (ver pn : Nat) (l : List Value) (esz ty : Nat)
def Has (H : Heap) (b : Nat) : Cont → Prop
  | .cells ver l esz ty => ∃ cs prev, H.blks.get b = some (.cells cs l.length ver prev esz ty) ∧ ∀ i x, l[i]? = some x → cs.get i = some x
  | .map es => H.blks.get b = some (.map es)
  | .grown ver pn l esz ty => ∃ cs, H.blks.get b = some (.cells cs l.length (ver + 1) (some pn) esz ty) ∧ ∀ i x, l[i]? = some x → cs.get i = some x
theorem Has.congr {H H' : Heap} {b : Nat} {c : Cont} (h : Has H b c) (e : H'.blks.get b = H.blks.get b) : Has H' b c := by
  cases c with
  | cells ver l esz ty =>
    obtain ⟨cs, p, h1, h2⟩ := h
    exact ⟨cs, p, e.trans h1, h2⟩
  | map es => exact e.trans h
  | grown ver pn l esz ty =>
    obtain ⟨cs, h1, h2⟩ := h
    exact ⟨cs, e.trans h1, h2⟩
structure ExtBut (X : List Nat) (H H' : Heap) : Prop where
  next : H.next ≤ H'.next
  same : ∀ b, b < H.next → b ∉ X → H'.blks.get b = H.blks.get b
abbrev Ext (H H' : Heap) : Prop := ExtBut [] H H'
theorem ExtBut.refl (X : List Nat) (H : Heap) : ExtBut X H H := ⟨Nat.le_refl _, fun _ _ _ => rfl⟩
theorem ExtBut.trans {X : List Nat} {H H' H'' : Heap} (h : ExtBut X H H') (h' : ExtBut X H' H'') : ExtBut X H H'' :=
  ⟨Nat.le_trans h.next h'.next, fun b hb hx => (h'.same b (Nat.lt_of_lt_of_le hb h.next) hx).trans (h.same b hb hx)⟩
theorem ExtBut.mono {X Y : List Nat} {H H' : Heap} (h : ExtBut X H H') (hx : ∀ b ∈ X, b ∈ Y) : ExtBut Y H H' :=
  ⟨h.next, fun b hb hy => h.same b hb fun e => hy (hx b e)⟩
theorem Ext.to {X : List Nat} {H H' : Heap} (h : Ext H H') : ExtBut X H H' := h.mono fun _ e => by cases e
abbrev Atoms := List (Option Nat × Cont)
structure St (X : List Nat) (H0 H : Heap) (L : Atoms) : Prop where
  ext : ExtBut X H0 H
  has : ∀ b c, (some b, c) ∈ L → Has H b c
  own : ∀ b c, (some b, c) ∈ L → (H0.next ≤ b ∨ b ∈ X) ∧ b < H.next
  nodup : L.Pairwise fun p q => ∀ b, p.1 = some b → q.1 ≠ some b
theorem St.start (H : Heap) : St [] H H [] := ⟨ExtBut.refl _ _, fun _ _ h => (by cases h), fun _ _ h => (by cases h), .nil⟩
theorem St.get {X : List Nat} {H0 H : Heap} {L : Atoms} (h : St X H0 H L) {i : Nat} {b : Nat} {c : Cont} (hi : L[i]? = some (some b, c)) : Has H b c := h.has _ _ (List.mem_of_getElem? hi)
theorem St.extend {X : List Nat} {H0 H H' : Heap} {L : Atoms} (h : St X H0 H L) (e : Ext H H') : St X H0 H' L where
  ext := h.ext.trans e.to
  has := fun b c hp => (h.has b c hp).congr (e.same _ (h.own b c hp).2 (by simp))
  own := fun b c hp => ⟨(h.own b c hp).1, Nat.lt_of_lt_of_le (h.own b c hp).2 e.next⟩
  nodup := h.nodup
theorem St.sublist {X : List Nat} {H0 H : Heap} {L L' : Atoms} (h : St X H0 H L) (s : L'.Sublist L) : St X H0 H L' where
  ext := h.ext
  has := fun b c hp => h.has b c (s.subset hp)
  own := fun b c hp => h.own b c (s.subset hp)
  nodup := h.nodup.sublist s
theorem St.add {X : List Nat} {H0 H H' : Heap} {L : Atoms} (h : St X H0 H L) (e : Ext H H') {b : Nat} {c : Cont} (hb : H.next ≤ b) (hb' : b < H'.next) (hc : Has H' b c) : St X H0 H' ((some b, c) :: L) where
  ext := h.ext.trans e.to
  has := fun x y hp => by
    rcases List.mem_cons.1 hp with e1 | hp
    · cases e1; exact hc
    · exact (h.extend e).has x y hp
  own := fun x y hp => by
    rcases List.mem_cons.1 hp with e1 | hp
    · cases e1; exact ⟨.inl (Nat.le_trans h.ext.next hb), hb'⟩
    · exact (h.extend e).own x y hp
  nodup := by
    refine .cons (fun q hq x hx hqx => ?_) h.nodup
    cases hx
    obtain ⟨q1, q2⟩ := q
    simp only at hqx
    subst hqx
    have := (h.own _ _ hq).2
    omega
theorem St.ghost {X : List Nat} {H0 H : Heap} {L : Atoms} (h : St X H0 H L) (c : Cont) : St X H0 H ((none, c) :: L) where
  ext := h.ext
  has := fun x y hp => by
    rcases List.mem_cons.1 hp with e1 | hp
    · cases e1
    · exact h.has x y hp
  own := fun x y hp => by
    rcases List.mem_cons.1 hp with e1 | hp
    · cases e1
    · exact h.own x y hp
  nodup := .cons (fun q hq x hx => (by cases hx)) h.nodup
theorem nodup_inj {L : Atoms} (h : L.Pairwise fun p q => ∀ b, p.1 = some b → q.1 ≠ some b) {i j : Nat} {b : Nat} {c c' : Cont} (hi : L[i]? = some (some b, c)) (hj : L[j]? = some (some b, c')) : i = j := by
  rw [List.pairwise_iff_getElem] at h
  obtain ⟨hi1, hi2⟩ := List.getElem?_eq_some_iff.1 hi
  obtain ⟨hj1, hj2⟩ := List.getElem?_eq_some_iff.1 hj
  rcases Nat.lt_trichotomy i j with hlt | he | hlt
  · exact absurd (by rw [hj2]) (h i j hi1 hj1 hlt b (by rw [hi2]))
  · exact he
  · exact absurd (by rw [hi2]) (h j i hj1 hi1 hlt b (by rw [hj2]))
theorem pairwise_of_inj {L : Atoms} (h : ∀ (i j b : Nat) (c c' : Cont), L[i]? = some (some b, c) → L[j]? = some (some b, c') → i = j) : L.Pairwise fun p q => ∀ b, p.1 = some b → q.1 ≠ some b := by
  rw [List.pairwise_iff_getElem]
  intro i j hi hj hij b hb hc
  have e1 : L[i]? = some (some b, (L[i]).2) := by rw [List.getElem?_eq_getElem hi, ← hb]
  have e2 : L[j]? = some (some b, (L[j]).2) := by rw [List.getElem?_eq_getElem hj, ← hc]
  have := h i j b _ _ e1 e2
  omega
theorem St.put {X : List Nat} {H0 H H' : Heap} {L : Atoms} (h : St X H0 H L) {i : Nat} {p : Option Nat × Cont} {b : Nat} {c' : Cont} (hi : L[i]? = some p) (hb : p.1 = some b ∨ p.1 = none ∧ H.next ≤ b) (hb' : b < H'.next) (e : ExtBut [b] H H') (hc : Has H' b c') : St X H0 H' (L.set i (some b, c')) := by
  have other : ∀ j x y, j ≠ i → L[j]? = some (some x, y) → x ≠ b := by
    intro j x y hji hj exb
    subst exb
    rcases hb with hb | ⟨_, hb⟩
    · obtain ⟨p1, p2⟩ := p
      simp only at hb
      subst hb
      exact hji (nodup_inj h.nodup hj hi)
    · have := (h.own _ _ (List.mem_of_getElem? hj)).2
      omega
  have get : ∀ j q, (L.set i (some b, c'))[j]? = some q → (j = i ∧ q = (some b, c')) ∨ (j ≠ i ∧ L[j]? = some q) := by
    intro j q hj
    rw [List.getElem?_set] at hj
    by_cases hij : i = j
    · rw [if_pos hij] at hj
      split at hj
      · cases hj; exact .inl ⟨hij.symm, rfl⟩
      · cases hj
    · rw [if_neg hij] at hj
      exact .inr ⟨fun e => hij e.symm, hj⟩
  refine ⟨⟨Nat.le_trans h.ext.next e.next, fun x hx hX => ?_⟩, fun x y hp => ?_, fun x y hp => ?_, pairwise_of_inj ?_⟩
  · have : x ≠ b := by
      rintro rfl
      rcases hb with hb | ⟨_, hb⟩
      · obtain ⟨p1, p2⟩ := p
        simp only at hb
        subst hb
        rcases (h.own _ _ (List.mem_of_getElem? hi)).1 with h1 | h1
        · omega
        · exact hX h1
      · have := h.ext.next; omega
    rw [e.same x (Nat.lt_of_lt_of_le hx h.ext.next) (by simpa using this)]
    exact h.ext.same x hx hX
  · obtain ⟨j, hj⟩ := List.getElem?_of_mem hp
    rcases get j _ hj with ⟨_, e1⟩ | ⟨hji, hj⟩
    · cases e1; exact hc
    · have hm := List.mem_of_getElem? hj
      exact (h.has x y hm).congr (e.same _ (h.own x y hm).2 (by simpa using other j x y hji hj))
  · obtain ⟨j, hj⟩ := List.getElem?_of_mem hp
    rcases get j _ hj with ⟨_, e1⟩ | ⟨hji, hj⟩
    · cases e1
      refine ⟨?_, hb'⟩
      rcases hb with hb | ⟨_, hb⟩
      · obtain ⟨p1, p2⟩ := p
        simp only at hb
        subst hb
        exact (h.own _ _ (List.mem_of_getElem? hi)).1
      · exact .inl (Nat.le_trans h.ext.next hb)
    · have := h.own x y (List.mem_of_getElem? hj)
      exact ⟨this.1, Nat.lt_of_lt_of_le this.2 e.next⟩
  · intro j k x c1 c2 hj hk
    rcases get j _ hj with ⟨e1, e2⟩ | ⟨e1, hj⟩ <;> rcases get k _ hk with ⟨e3, e4⟩ | ⟨e3, hk⟩
    · omega
    · cases e2; exact absurd rfl (other k _ _ e3 hk)
    · cases e4; exact absurd rfl (other j _ _ e1 hj)
    · exact nodup_inj h.nodup hj hk
theorem St.change {X : List Nat} {H0 H H' : Heap} {L : Atoms} (h : St X H0 H L) {i b : Nat} {c c' : Cont} (hi : L[i]? = some (some b, c)) (e : ExtBut [b] H H') (hc : Has H' b c') : St X H0 H' (L.set i (some b, c')) :=
  h.put hi (.inl rfl) (Nat.lt_of_lt_of_le (h.own _ _ (List.mem_of_getElem? hi)).2 e.next) e hc
section
variable (T : Tab) (O : Old)
def CallC (f : Nat) (l : List Value) (H : Heap) (Q : Value → Heap → Prop) : Prop :=
  ∃ lf k v H', evalCall T O lf k f l H = some (v, H') ∧ H.next ≤ H'.next ∧ Q v H'
variable (X : List Nat) (H0 : Heap) (N : Nat)
structure OpsS (all ops : List Oper) (E : Env) (L : Atoms) (Q : Env → Atoms → Prop) : Prop where
  run : ∀ H, St X H0 H L → ∀ τ, Sub E τ → ∃ lf k τ' H' E' L', evalOps T O (evalCall T O lf k) N all ops τ H = some (τ', H') ∧ Sub E' τ' ∧ St X H0 H' L' ∧ H.next ≤ H'.next ∧ Q E' L'
structure ExecS (c : Code) (E : Env) (L : Atoms) (Q : Ex → Env → Atoms → Prop) : Prop where
  run : ∀ H, St X H0 H L → ∀ τ, Sub E τ → ∃ lf k ex τ' H' E' L', evalC T O (evalCall T O lf k) N lf c τ H = some (ex, τ', H') ∧ Sub E' τ' ∧ St X H0 H' L' ∧ H.next ≤ H'.next ∧ Q ex E' L'
structure PendE where
  j : Nat
  E : Env
  op : Op
  v : Value
abbrev PSub (p : List PendE) (q : List Pend) : Prop := All2 (fun (x : PendE) (y : Pend) => y.j = x.j ∧ Sub x.E y.τ ∧ y.op = x.op ∧ y.v = x.v) p q
noncomputable def schedOk (T : Tab) (all : List Oper) (ms : Tr Nat) (full : Nat) : List (Nat × Nat) → Nat → Nat → Bool
  | [], Em, _ => Nat.beq Em full
  | (j, m) :: l, Em, Xm => match all[j]? with
    | none => false
    | some o => match ms.get j with
      | none => false
      | some m' => Nat.beq m' m && !(Nat.testBit Em j || !(Nat.beq (Nat.land m Em) m) || !(Nat.beq (Nat.land Xm m) Xm)) && schedOk T all ms full l (Nat.lor Em (2 ^ j)) (bif isW T o then Nat.lor Xm (2 ^ j) else Xm)
structure DrawS (all : List Oper) (ms : Tr Nat) (full : Nat) (lst : List (Nat × Nat)) (pend : List PendE) (E : Env) (L : Atoms) (Q : Env → Atoms → Prop) : Prop where
  run : ∀ Em Xm, schedOk T all ms full lst Em Xm = true → ∀ H, St X H0 H L → ∀ τ pd, Sub E τ → PSub pend pd → ∃ lf k τ' H' E' L', drawRun T O (evalCall T O lf k) N all ms ((lst.map (·.1)).filterMap fun j => (all[j]?).map fun o => (j, o)) Em Xm pd τ H = some (full, τ', H') ∧ Sub E' τ' ∧ St X H0 H' L' ∧ H.next ≤ H'.next ∧ Q E' L'
end
section
variable {T : Tab} {O : Old} {X : List Nat} {H0 : Heap} {N : Nat}
theorem CallC.mono {f : Nat} {l : List Value} {H : Heap} {Q Q' : Value → Heap → Prop} (h : CallC T O f l H Q) (hq : ∀ v H', Q v H' → Q' v H') : CallC T O f l H Q' := by
  obtain ⟨lf, k, v, H', h1, hn, h2⟩ := h
  exact ⟨lf, k, v, H', h1, hn, hq _ _ h2⟩
theorem OpsS.mono {all ops : List Oper} {E : Env} {L : Atoms} {Q Q' : Env → Atoms → Prop} (h : OpsS T O X H0 N all ops E L Q) (hq : ∀ E' L', Q E' L' → Q' E' L') : OpsS T O X H0 N all ops E L Q' := .mk fun H hs τ ht => by
  obtain ⟨lf, k, τ', H', E', L', h1, h2, h3, hn, h4⟩ := h.run H hs τ ht
  exact ⟨lf, k, τ', H', E', L', h1, h2, h3, hn, hq _ _ h4⟩
theorem ExecS.mono {c : Code} {E : Env} {L : Atoms} {Q Q' : Ex → Env → Atoms → Prop} (h : ExecS T O X H0 N c E L Q) (hq : ∀ ex E' L', Q ex E' L' → Q' ex E' L') : ExecS T O X H0 N c E L Q' := .mk fun H hs τ ht => by
  obtain ⟨lf, k, ex, τ', H', E', L', h1, h2, h3, hn, h4⟩ := h.run H hs τ ht
  exact ⟨lf, k, ex, τ', H', E', L', h1, h2, h3, hn, hq _ _ _ h4⟩
theorem ExecS.weak {c : Code} {E E' : Env} {L L' : Atoms} {Q : Ex → Env → Atoms → Prop} (he : SubE E' E) (hl : L'.Sublist L) (h : ExecS T O X H0 N c E' L' Q) : ExecS T O X H0 N c E L Q :=
  .mk fun H hs τ ht => h.run H (hs.sublist hl) τ (ht.weak he)
theorem OpsS.weak {all ops : List Oper} {E E' : Env} {L L' : Atoms} {Q : Env → Atoms → Prop} (he : SubE E' E) (hl : L'.Sublist L) (h : OpsS T O X H0 N all ops E' L' Q) : OpsS T O X H0 N all ops E L Q :=
  .mk fun H hs τ ht => h.run H (hs.sublist hl) τ (ht.weak he)
theorem exec_skip {E : Env} {L : Atoms} {Q : Ex → Env → Atoms → Prop} (h : Q .normal E L) : ExecS T O X H0 N .skip E L Q :=
  .mk fun H hs τ ht => ⟨0, 0, .normal, τ, H, E, L, rfl, ht, hs, Nat.le_refl _, h⟩
theorem exec_ret {E : Env} {L : Atoms} {Q : Ex → Env → Atoms → Prop} (h : Q .ret E L) : ExecS T O X H0 N .ret E L Q :=
  .mk fun H hs τ ht => ⟨0, 0, .ret, τ, H, E, L, rfl, ht, hs, Nat.le_refl _, h⟩
theorem exec_exit {id : Nat} {E : Env} {L : Atoms} {Q : Ex → Env → Atoms → Prop} (h : Q (.exit id) E L) : ExecS T O X H0 N (.exit id) E L Q :=
  .mk fun H hs τ ht => ⟨0, 0, .exit id, τ, H, E, L, rfl, ht, hs, Nat.le_refl _, h⟩
def thenS (T : Tab) (O : Old) (X : List Nat) (H0 : Heap) (N : Nat) (b : Code) (Q : Ex → Env → Atoms → Prop) (ex : Ex) (E : Env) (L : Atoms) : Prop :=
  match ex with
  | .normal => ExecS T O X H0 N b E L Q
  | ex => Q ex E L
theorem exec_seq {a b : Code} {E : Env} {L : Atoms} {Q : Ex → Env → Atoms → Prop} (h : ExecS T O X H0 N a E L (thenS T O X H0 N b Q)) : ExecS T O X H0 N (.seq a b) E L Q := by
  constructor
  intro H hs τ ht
  obtain ⟨lf, k, ex, τ', H', E', L', h1, h2, h3, hn, h4⟩ := h.run H hs τ ht
  cases ex with
  | normal =>
    obtain ⟨lf2, k2, ex2, τ2, H2, E2, L2, g1, g2, g3, gn, g4⟩ := (show ExecS T O X H0 N b E' L' Q from h4).run H' h3 τ' h2
    refine ⟨max lf lf2, max k k2, ex2, τ2, H2, E2, L2, ?_, g2, g3, Nat.le_trans hn gn, g4⟩
    simp only [evalC]
    rw [evalC_mono (evalCall_mono (Nat.le_max_left lf lf2) (Nat.le_max_left k k2)) (Nat.le_max_left lf lf2) h1]
    exact evalC_mono (evalCall_mono (Nat.le_max_right lf lf2) (Nat.le_max_right k k2)) (Nat.le_max_right lf lf2) g1
  | exit i =>
    refine ⟨lf, k, .exit i, τ', H', E', L', ?_, h2, h3, hn, h4⟩
    simp only [evalC]; rw [h1]
  | ret =>
    refine ⟨lf, k, .ret, τ', H', E', L', ?_, h2, h3, hn, h4⟩
    simp only [evalC]; rw [h1]
def midS (R : Env → Atoms → Prop) (ex : Ex) (E : Env) (L : Atoms) : Prop :=
  match ex with
  | .normal => R E L
  | _ => False
theorem exec_mid {a b : Code} {E : Env} {L : Atoms} {Q : Ex → Env → Atoms → Prop} (R : Env → Atoms → Prop) (h1 : ExecS T O X H0 N a E L (midS R)) (h2 : ∀ E' L', R E' L' → ExecS T O X H0 N b E' L' Q) : ExecS T O X H0 N a E L (thenS T O X H0 N b Q) :=
  h1.mono fun ex E' L' h => match ex, h with
    | .normal, h => h2 E' L' h
    | .exit _, h => h.elim
    | .ret, h => h.elim
def midQ (R : Env → Atoms → Prop) (Q : Ex → Env → Atoms → Prop) (ex : Ex) (E : Env) (L : Atoms) : Prop :=
  match ex with
  | .normal => R E L
  | ex => Q ex E L
theorem exec_midQ {a b : Code} {E : Env} {L : Atoms} {Q : Ex → Env → Atoms → Prop} (R : Env → Atoms → Prop) (h1 : ExecS T O X H0 N a E L (midQ R Q)) (h2 : ∀ E' L', R E' L' → ExecS T O X H0 N b E' L' Q) : ExecS T O X H0 N a E L (thenS T O X H0 N b Q) :=
  h1.mono fun ex E' L' h => match ex, h with
    | .normal, h => h2 E' L' h
    | .exit _, h => h
    | .ret, h => h
theorem exec_true {c : Operand} {x y : Code} {E : Env} {L : Atoms} {Q : Ex → Env → Atoms → Prop} (hc : lk E c = some (.bool true)) (h : ExecS T O X H0 N x E L Q) : ExecS T O X H0 N (.cond c x y) E L Q := by
  constructor
  intro H hs τ ht
  obtain ⟨lf, k, ex, τ', H', E', L', h1, h2⟩ := h.run H hs τ ht
  refine ⟨lf, k, ex, τ', H', E', L', ?_, h2⟩
  simp only [evalC, ht.defO _ _ hc]; exact h1
theorem exec_false {c : Operand} {x y : Code} {E : Env} {L : Atoms} {Q : Ex → Env → Atoms → Prop} (hc : lk E c = some (.bool false)) (h : ExecS T O X H0 N y E L Q) : ExecS T O X H0 N (.cond c x y) E L Q := by
  constructor
  intro H hs τ ht
  obtain ⟨lf, k, ex, τ', H', E', L', h1, h2⟩ := h.run H hs τ ht
  refine ⟨lf, k, ex, τ', H', E', L', ?_, h2⟩
  simp only [evalC, ht.defO _ _ hc]; exact h1
theorem exec_cond {c : Operand} {x y : Code} {b : Bool} {E : Env} {L : Atoms} {Q : Ex → Env → Atoms → Prop} (hc : lk E c = some (.bool b)) (h1 : b = true → ExecS T O X H0 N x E L Q) (h2 : b = false → ExecS T O X H0 N y E L Q) : ExecS T O X H0 N (.cond c x y) E L Q := by
  cases b with
  | true => exact exec_true hc (h1 rfl)
  | false => exact exec_false hc (h2 rfl)
def outS (id : Nat) (Q : Ex → Env → Atoms → Prop) (ex : Ex) (E : Env) (L : Atoms) : Prop :=
  match ex with
  | .exit i => bif Nat.beq i id then Q .normal E L else Q (.exit i) E L
  | ex => Q ex E L
theorem exec_block {id : Nat} {c : Code} {E : Env} {L : Atoms} {Q : Ex → Env → Atoms → Prop} (h : ExecS T O X H0 N c E L (outS id Q)) : ExecS T O X H0 N (.block id c) E L Q := by
  constructor
  intro H hs τ ht
  obtain ⟨lf, k, ex, τ', H', E', L', h1, h2, h3, hn, h4⟩ := h.run H hs τ ht
  cases ex with
  | normal => exact ⟨lf, k, .normal, τ', H', E', L', by simp only [evalC]; rw [h1], h2, h3, hn, h4⟩
  | ret => exact ⟨lf, k, .ret, τ', H', E', L', by simp only [evalC]; rw [h1], h2, h3, hn, h4⟩
  | exit i =>
    simp only [outS] at h4
    cases hb : Nat.beq i id with
    | true =>
      rw [hb] at h4
      exact ⟨lf, k, .normal, τ', H', E', L', by simp only [evalC]; rw [h1]; simp only [hb, cond_true], h2, h3, hn, h4⟩
    | false =>
      rw [hb] at h4
      exact ⟨lf, k, .exit i, τ', H', E', L', by simp only [evalC]; rw [h1]; simp only [hb, cond_false], h2, h3, hn, h4⟩
def againS (Inv : Nat → Env → Atoms → Prop) (n : Nat) (Q : Ex → Env → Atoms → Prop) (ex : Ex) (E : Env) (L : Atoms) : Prop :=
  match ex with
  | .normal => ∃ m, m < n ∧ ∃ E' L', SubE E' E ∧ List.Sublist L' L ∧ Inv m E' L'
  | ex => Q ex E L
theorem exec_loop {c : Code} {Q : Ex → Env → Atoms → Prop} (Inv : Nat → Env → Atoms → Prop) (step : ∀ n E L, Inv n E L → ExecS T O X H0 N c E L (againS Inv n Q)) :
    ∀ (n : Nat) (E : Env) (L : Atoms), Inv n E L → ExecS T O X H0 N (.loop c) E L Q := by
  intro n
  induction n using Nat.strongRecOn with
  | _ n ih =>
    intro E L hi
    constructor
    intro H hs τ ht
    obtain ⟨lf, k, ex, τ', H', E', L', h1, h2, h3, hn, h4⟩ := (step n E L hi).run H hs τ ht
    cases ex with
    | normal =>
      obtain ⟨m, hm, E2, L2, hE, hL, hi2⟩ := h4
      obtain ⟨lf2, k2, ex2, τ2, H2, E3, L3, g1, g2, g3, gn, g4⟩ := (ih m hm E2 L2 hi2).run H' (h3.sublist hL) τ' (h2.weak hE)
      refine ⟨max lf lf2 + 1, max k k2, ex2, τ2, H2, E3, L3, ?_, g2, g3, Nat.le_trans hn gn, g4⟩
      simp only [evalC] at g1 ⊢
      simp only [iter]
      rw [evalC_mono (evalCall_mono (by omega) (Nat.le_max_left k k2)) (by omega) h1]
      exact iter_mono (fun τ H r h => evalC_mono (evalCall_mono (by omega) (Nat.le_max_right k k2)) (by omega) h) (by omega) g1
    | exit i =>
      refine ⟨lf + 1, k, .exit i, τ', H', E', L', ?_, h2, h3, hn, h4⟩
      simp only [evalC, iter]
      rw [evalC_mono (evalCall_mono (by omega) (Nat.le_refl k)) (by omega) h1]
    | ret =>
      refine ⟨lf + 1, k, .ret, τ', H', E', L', ?_, h2, h3, hn, h4⟩
      simp only [evalC, iter]
      rw [evalC_mono (evalCall_mono (by omega) (Nat.le_refl k)) (by omega) h1]
theorem exec_loop_step {c : Code} {E : Env} {L : Atoms} {Q : Ex → Env → Atoms → Prop} (h : ExecS T O X H0 N c E L (thenS T O X H0 N (.loop c) Q)) : ExecS T O X H0 N (.loop c) E L Q := by
  constructor
  intro H hs τ ht
  obtain ⟨lf, k, ex, τ', H', E', L', h1, h2, h3, hn, h4⟩ := h.run H hs τ ht
  cases ex with
  | normal =>
    obtain ⟨lf2, k2, ex2, τ2, H2, E3, L3, g1, g2, g3, gn, g4⟩ := (show ExecS T O X H0 N (.loop c) E' L' Q from h4).run H' h3 τ' h2
    refine ⟨max lf lf2 + 1, max k k2, ex2, τ2, H2, E3, L3, ?_, g2, g3, Nat.le_trans hn gn, g4⟩
    simp only [evalC] at g1 ⊢
    simp only [iter]
    rw [evalC_mono (evalCall_mono (by omega) (Nat.le_max_left k k2)) (by omega) h1]
    exact iter_mono (fun τ H r h => evalC_mono (evalCall_mono (by omega) (Nat.le_max_right k k2)) (by omega) h) (by omega) g1
  | exit i =>
    refine ⟨lf + 1, k, .exit i, τ', H', E', L', ?_, h2, h3, hn, h4⟩
    simp only [evalC, iter]
    rw [evalC_mono (evalCall_mono (by omega) (Nat.le_refl k)) (by omega) h1]
  | ret =>
    refine ⟨lf + 1, k, .ret, τ', H', E', L', ?_, h2, h3, hn, h4⟩
    simp only [evalC, iter]
    rw [evalC_mono (evalCall_mono (by omega) (Nat.le_refl k)) (by omega) h1]
theorem exec_region {id : Nat} {ops : Array Oper} {E : Env} {L : Atoms} {Q : Ex → Env → Atoms → Prop} (h : OpsS T O X H0 N ops.toList ops.toList E L (Q .normal)) : ExecS T O X H0 N (.region id ops false) E L Q := by
  constructor
  intro H hs τ ht
  obtain ⟨lf, k, τ', H', E', L', h1, h2, h3, hn, h4⟩ := h.run H hs τ ht
  refine ⟨lf, k, .normal, τ', H', E', L', ?_, h2, h3, hn, h4⟩
  simp only [evalC, cond_false]; rw [h1]
noncomputable def orderOf (T : Tab) (ops : List Oper) : List Nat := (order T ops (masks ops 0 .lf) (bitsOf (wsOf T ops 0)) (wsOf T ops 0) 0).map (·.1)
noncomputable def drawOk (ops : List Oper) : Bool :=
  match writers ops 0 .lf with
  | some W => looksOk ops (masks ops 0 .lf) W ops 0
  | none => false
theorem filterMap_order {ops : List Oper} : ∀ {l : List (Nat × Oper)}, (∀ p ∈ l, ops[p.1]? = some p.2) → ((l.map (·.1)).filterMap fun j => (ops[j]?).map fun o => (j, o)) = l
  | [], _ => rfl
  | p :: l, h => by
    rw [List.map_cons, List.filterMap_cons, h p (by simp)]
    simp only [Option.map_some]
    rw [filterMap_order fun q hq => h q (by simp [hq])]
theorem exec_draw {id : Nat} {ops : Array Oper} {lst : List (Nat × Nat)} {full : Nat} {E : Env} {L : Atoms} {Q : Ex → Env → Atoms → Prop} (hk : drawOk ops.toList = true) (ho : orderOf T ops.toList = lst.map (·.1)) (hf : full = 2 ^ ops.toList.length - 1)
    (hsc : schedOk T ops.toList (masks ops.toList 0 .lf) full lst 0 0 = true) (h : DrawS T O X H0 N ops.toList (masks ops.toList 0 .lf) full lst [] E L (Q .normal)) : ExecS T O X H0 N (.region id ops true) E L Q := by
  constructor
  intro H hs τ ht
  obtain ⟨lf, k, τ', H', E', L', h1, h2, h3, hn, h4⟩ := h.run 0 0 hsc H hs τ [] ht .nil
  refine ⟨lf, k, .normal, τ', H', E', L', ?_, h2, h3, hn, h4⟩
  simp only [evalC, cond_true]
  unfold drawRegion
  unfold drawOk at hk
  cases hw : writers ops.toList 0 .lf with
  | none => rw [hw] at hk; cases hk
  | some W =>
    rw [hw] at hk
    simp only at hk ⊢
    rw [hk, cond_true]
    rw [← ho, orderOf, filterMap_order fun p hp => order_spec hp] at h1
    rw [h1]
    subst hf
    simp
theorem look_enum : ∀ {l : List Value} {i t : Nat} {v : Value}, look (l.zipIdx i |>.map fun p => (p.2, p.1)) t = some v → i ≤ t ∧ l[t - i]? = some v
  | [], _, _, _, h => by cases h
  | x :: l, i, t, v, h => by
    simp only [List.zipIdx_cons, List.map_cons, look] at h
    cases hb : Nat.beq i t with
    | true =>
      rw [hb, cond_true] at h
      obtain rfl := Nat.eq_of_beq_eq_true hb
      cases h
      simp
    | false =>
      rw [hb, cond_false] at h
      have hne := Nat.ne_of_beq_eq_false hb
      obtain ⟨h1, h2⟩ := look_enum h
      refine ⟨by omega, ?_⟩
      have : t - i = (t - (i + 1)) + 1 := by omega
      rw [this]; simpa using h2
def enumE : List Value → Nat → Env
  | [], _ => []
  | v :: l, i => (i, v) :: enumE l (i + 1)
def enumN : List Value → Nat → Option Env
  | [], _ => some []
  | v :: l, i => match enumN l (i + 1) with
    | some r => some ((i, v) :: r)
    | none => none
theorem enumN_eq : ∀ {l : List Value} {i : Nat} {E : Env}, enumN l i = some E → E = enumE l i
  | [], _, _, h => by cases h; rfl
  | v :: l, i, E, h => by
    simp only [enumN] at h
    cases hr : enumN l (i + 1) with
    | none => rw [hr] at h; cases h
    | some r => rw [hr] at h; cases h; rw [enumN_eq hr]; rfl
theorem enumE_look : ∀ {l : List Value} {i t : Nat} {v : Value}, look (enumE l i) t = some v → i ≤ t ∧ l[t - i]? = some v
  | [], _, _, _, h => by cases h
  | x :: l, i, t, v, h => by
    simp only [enumE, look] at h
    cases hb : Nat.beq i t with
    | true =>
      rw [hb, cond_true] at h
      obtain rfl := Nat.eq_of_beq_eq_true hb
      cases h
      simp
    | false =>
      rw [hb, cond_false] at h
      have hne := Nat.ne_of_beq_eq_false hb
      obtain ⟨h1, h2⟩ := enumE_look h
      refine ⟨by omega, ?_⟩
      have : t - i = (t - (i + 1)) + 1 := by omega
      rw [this]; simpa using h2
theorem enumE_sub (l : List Value) : Sub (enumE l 0) (Tr.fill l 0 .lf) := by
  intro t v h
  obtain ⟨_, h2⟩ := enumE_look h
  rw [get_fillAny]; simpa using h2
def resE (E : Env) : List ResultVar → Option (List Value)
  | [] => some []
  | .tmp t :: l => match look E t, resE E l with
    | some v, some r => some (v :: r)
    | _, _ => none
  | .cell _ _ :: _ => none
theorem resE_ok {E : Env} {τ : Tr Value} {H : Heap} (h : Sub E τ) : ∀ {l : List ResultVar} {r : List Value}, resE E l = some r → resV T O τ H l = some r
  | [], _, e => e
  | .cell _ _ :: _, _, e => by cases e
  | .tmp t :: l, r, e => by
    simp only [resE] at e
    simp only [resV]
    cases ht : look E t with
    | none => simp [ht] at e
    | some v =>
      cases hl : resE E l with
      | none => simp [ht, hl] at e
      | some r' => rw [h t v ht, resE_ok h hl]; simpa [ht, hl] using e
def endS (res : List ResultVar) (Q : Value → Atoms → Prop) (ex : Ex) (E : Env) (L : Atoms) : Prop :=
  (match ex with | .exit _ => False | _ => True) ∧ ∃ vs, resE E res = some vs ∧ Q (oneOf vs) L
theorem call_intro {f : Nat} {fn : Func} {c : Code} {l : List Value} {H : Heap} {L : Atoms} {Q : Value → Atoms → Prop} (hp : T.prim f = none) (hf : T.fn f = some fn) (hb : fn.body = some c) (hn : Nat.ble l.length fn.ntmps = true)
    (hst : St X H0 H L) {E0 : Env} (he : enumN l 0 = some E0) (h : ExecS T O X H0 fn.ntmps c E0 L (endS fn.results.toList Q)) : CallC T O f l H fun v H' => ∃ L', St X H0 H' L' ∧ Q v L' := by
  obtain rfl := enumN_eq he
  obtain ⟨lf, k, ex, τ', H', E', L', h1, h2, h3, hnx, h4, vs, h5, h6⟩ := h.run H hst _ (enumE_sub l)
  refine ⟨lf, k + 1, oneOf vs, H', ?_, hnx, L', h3, h6⟩
  simp only [evalCall, hp, hf, hb, hn, cond_true, h1]
  cases ex with
  | normal => simp only [resE_ok h2 h5]
  | ret => simp only [resE_ok h2 h5]
  | exit i => exact h4.elim
theorem call_pure {f : Nat} {fn : Func} {c : Code} {l : List Value} {E0 : Env} {H : Heap} {V : Value} (hp : T.prim f = none) (hf : T.fn f = some fn) (hb : fn.body = some c) (hn : Nat.ble l.length fn.ntmps = true)
    (he : enumN l 0 = some E0) (h : ExecS T O [] H fn.ntmps c E0 [] (endS fn.results.toList fun v _ => v = V)) : CallC T O f l H fun v H' => v = V ∧ Ext H H' :=
  (call_intro hp hf hb hn (St.start H) he h).mono fun v H' ⟨L', h1, h2⟩ => ⟨h2, h1.ext⟩
theorem call_true {f : Nat} {l : List Value} {H : Heap} (h : CallC T O f l H fun v _ => v = .bool true) : ∃ lf k, isTrue (evalCall T O lf k f l H) = true := by
  obtain ⟨lf, k, v, H', h1, _, rfl⟩ := h
  exact ⟨lf, k, by rw [h1]; rfl⟩
theorem ops_nil {all : List Oper} {E : Env} {L : Atoms} {Q : Env → Atoms → Prop} (h : Q E L) : OpsS T O X H0 N all [] E L Q :=
  .mk fun H hs τ ht => ⟨0, 0, τ, H, E, L, rfl, ht, hs, Nat.le_refl _, h⟩
theorem ops_one {all l : List Oper} {o : Oper} {E : Env} {L : Atoms} {Q : Env → Atoms → Prop} (hw : wantedE all E o = some true) {d : Option Nat} (hdd : seeO o.dst = some d) (hd : dstOk N d = true)
    (h : ∀ H, St X H0 H L → ∀ τ, Sub E τ → ∃ lf k v H' L', evalOp T O (evalCall T O lf k) (ev τ) o H = some (v, H') ∧ St X H0 H' L' ∧ H.next ≤ H'.next ∧ OpsS T O X H0 N all l (putE d v E) L' Q) :
    OpsS T O X H0 N all (o :: l) E L Q := by
  obtain rfl := seeO_eq hdd
  constructor
  intro H hs τ ht
  obtain ⟨lf, k, v, H', L', h1, h2, hn, h3⟩ := h H hs τ ht
  obtain ⟨τ', hp, hτ⟩ := ht.put v hd
  obtain ⟨lf2, k2, τ2, H2, E2, L2, g1, g2, g3, gn, g4⟩ := h3.run H' h2 τ' hτ
  refine ⟨max lf lf2, max k k2, τ2, H2, E2, L2, ?_, g2, g3, Nat.le_trans hn gn, g4⟩
  simp only [evalOps, evalOne, wantedE_ok ht hw]
  rw [evalOp_mono (fun _ _ h => h) (evalCall_mono (Nat.le_max_left lf lf2) (Nat.le_max_left k k2)) h1]
  simp only [hp]
  exact evalOps_mono (evalCall_mono (Nat.le_max_right lf lf2) (Nat.le_max_right k k2)) g1
theorem ops_skip {all l : List Oper} {o : Oper} {E : Env} {L : Atoms} {Q : Env → Atoms → Prop} (hw : wantedE all E o = some false) {d : Option Nat} (hdd : seeO o.dst = some d) (hd : dstOk N d = true) (h : OpsS T O X H0 N all l (putE d skipped E) L Q) : OpsS T O X H0 N all (o :: l) E L Q := by
  obtain rfl := seeO_eq hdd
  constructor
  intro H hs τ ht
  obtain ⟨τ', hp, hτ⟩ := ht.put skipped hd
  obtain ⟨lf2, k2, τ2, H2, E2, L2, g1, g2, g3, gn, g4⟩ := h.run H hs τ' hτ
  refine ⟨lf2, k2, τ2, H2, E2, L2, ?_, g2, g3, gn, g4⟩
  simp only [evalOps, evalOne, wantedE_ok ht hw, hp]
  exact g1
theorem evalOp_p {call : Ev.Call} {E : Env} {τ : Tr Value} {o : Oper} {H : Heap} {v : Value} (ht : Sub E τ) (hc : cls T o.op = .p) (hv : opP T (lk E) o.op = some v) : evalOp T O call (ev τ) o H = some (v, H) := by
  unfold evalOp; rw [hc]; simp only [opP_mono ht.defO hv]
theorem evalOp_l {call : Ev.Call} {E : Env} {τ : Tr Value} {o : Oper} {H : Heap} {v : Value} (ht : Sub E τ) (hc : cls T o.op = .l) (hv : opL T O H (lk E) o.op = some v) : evalOp T O call (ev τ) o H = some (v, H) := by
  unfold evalOp; rw [hc]; simp only [opL_mono ht.defO hv]
theorem evalOp_a {call : Ev.Call} {E : Env} {τ : Tr Value} {o : Oper} {H : Heap} {r : Value × Heap} (ht : Sub E τ) (hc : cls T o.op = .a) (hv : opA T H (lk E) o.op = some r) : evalOp T O call (ev τ) o H = some r := by
  unfold evalOp; rw [hc]; exact opA_mono ht.defO hv
theorem evalOp_w {call : Ev.Call} {E : Env} {τ : Tr Value} {o : Oper} {H : Heap} {r : Value × Heap} (ht : Sub E τ) (hc : cls T o.op = .w) (hv : opW T O call H (lk E) o.op = some r) : evalOp T O call (ev τ) o H = some r := by
  unfold evalOp; rw [hc]; exact opW_mono ht.defO (CallLe.refl _) hv
def noCall : Ev.Call := fun _ _ _ => none
theorem noCall_le (c : Ev.Call) : CallLe noCall c := fun _ _ _ _ h => by cases h
structure StepS (T : Tab) (O : Old) (X : List Nat) (H0 : Heap) (E : Env) (L : Atoms) (o : Oper) (k : Value → Atoms → Prop) : Prop where
  run : ∀ H, St X H0 H L → ∀ τ, Sub E τ → ∃ lf n v H' L', evalOp T O (evalCall T O lf n) (ev τ) o H = some (v, H') ∧ St X H0 H' L' ∧ H.next ≤ H'.next ∧ k v L'
theorem ops_step {all l : List Oper} {o : Oper} {E : Env} {L : Atoms} {Q : Env → Atoms → Prop} (hw : wantedE all E o = some true) {d : Option Nat} (hdd : seeO o.dst = some d) (hd : dstOk N d = true)
    (h : StepS T O X H0 E L o fun v L' => OpsS T O X H0 N all l (putE d v E) L' Q) : OpsS T O X H0 N all (o :: l) E L Q :=
  ops_one hw hdd hd h.run
theorem step_p {o : Oper} {E : Env} {L : Atoms} {v : Value} {k : Value → Atoms → Prop} (hc : cls T o.op = .p) (hv : opP T (lk E) o.op = some v) (h : k v L) : StepS T O X H0 E L o k :=
  .mk fun H hs τ ht => ⟨0, 0, v, H, L, evalOp_p ht hc hv, hs, Nat.le_refl _, h⟩
theorem step_l {o : Oper} {E : Env} {L : Atoms} {v : Value} {k : Value → Atoms → Prop} (hc : cls T o.op = .l) (hv : ∀ H, St X H0 H L → opL T O H (lk E) o.op = some v) (h : k v L) : StepS T O X H0 E L o k :=
  .mk fun H hs τ ht => ⟨0, 0, v, H, L, evalOp_l ht hc (hv H hs), hs, Nat.le_refl _, h⟩
theorem ext_new (H : Heap) (k : Blk) : Ext H (H.new k) :=
  ⟨Nat.le_succ _, fun b hb _ => Tr.get_put_ne _ _ (by omega)⟩
theorem has_newCells (H : Heap) (l : List Value) (esz ty : Nat) : Has (H.newCells l esz ty) H.next (.cells 0 l esz ty) :=
  ⟨_, _, Tr.get_put_self _ _ _, fun i x h => by rw [get_fillAny]; exact h⟩
theorem step_a {o : Oper} {E : Env} {L : Atoms} {f : Nat → Value} {c : List Value} {esz ty : Nat} {k : Value → Atoms → Prop} (hc : cls T o.op = .a) (hv : ∀ H, opA T H (lk E) o.op = some (f H.next, H.newCells c esz ty))
    (h : ∀ b, k (f b) ((some b, .cells 0 c esz ty) :: L)) : StepS T O X H0 E L o k :=
  .mk fun H hs τ ht => ⟨0, 0, f H.next, _, _, evalOp_a ht hc (hv H), hs.add (ext_new _ _) (Nat.le_refl _) (Nat.lt_succ_self _) (has_newCells _ _ _ _), Nat.le_succ _, h H.next⟩
theorem step_map {o : Oper} {E : Env} {L : Atoms} {t : Nat} {k : Value → Atoms → Prop} (ho : o.op = .makeMap t none)
    (h : ∀ b, k (.map (some b)) ((some b, .map []) :: L)) : StepS T O X H0 E L o k :=
  .mk fun H hs τ ht => ⟨0, 0, .map (some H.next), _, _, evalOp_a ht (by rw [ho]; rfl) (by rw [ho]; rfl), hs.add (ext_new _ _) (Nat.le_refl _) (Nat.lt_succ_self _) (show Has _ _ (.map []) from Tr.get_put_self _ _ _), Nat.le_succ _, h H.next⟩
theorem step_w {o : Oper} {E : Env} {L : Atoms} {k : Value → Atoms → Prop} (hc : cls T o.op = .w) (h : ∀ H, St X H0 H L → ∃ v H' L', opW T O noCall H (lk E) o.op = some (v, H') ∧ St X H0 H' L' ∧ H.next ≤ H'.next ∧ k v L') : StepS T O X H0 E L o k :=
  .mk fun H hs τ ht => by
    obtain ⟨v, H', L', h1, h2, h3, h4⟩ := h H hs
    exact ⟨0, 0, v, H', L', evalOp_w ht hc (opW_mono (fun _ _ h => h) (noCall_le _) h1), h2, h3, h4⟩
theorem step_call {o : Oper} {f : Operand} {xa : Array Operand} {ts : Array TypeId} {g : Nat} {a b : Array Value} {l : List Value} {E : Env} {L : Atoms} {k : Value → Atoms → Prop} (ho : o.op = .call { callee := .value f, args := xa, argTypes := ts })
    (hf : lk E f = some (.func (.func g) a b)) (hx : args (lk E) xa.toList = some l)
    (h : ∀ H, St X H0 H L → CallC T O g (a.toList ++ l ++ b.toList) H fun v H' => ∃ L', St X H0 H' L' ∧ k v L') : StepS T O X H0 E L o k :=
  .mk fun H hs τ ht => by
    obtain ⟨lf, n, v, H', h1, h3, L', h2, h4⟩ := h H hs
    refine ⟨lf, n, v, H', L', evalOp_w ht (by rw [ho]; rfl) ?_, h2, h3, h4⟩
    rw [ho]
    simp only [opW, hf, hx]
    exact h1
theorem step_call_pure {o : Oper} {f : Operand} {xa : Array Operand} {ts : Array TypeId} {g : Nat} {a b : Array Value} {l : List Value} {V : Value} {E : Env} {L : Atoms} {k : Value → Atoms → Prop} (ho : o.op = .call { callee := .value f, args := xa, argTypes := ts })
    (hf : lk E f = some (.func (.func g) a b)) (hx : args (lk E) xa.toList = some l)
    (h : ∀ H, St X H0 H L → CallC T O g (a.toList ++ l ++ b.toList) H fun v H' => v = V ∧ Ext H H') (hk : k V L) : StepS T O X H0 E L o k :=
  step_call ho hf hx fun H hs => (h H hs).mono fun v H' ⟨e, hE⟩ => ⟨L, hs.extend hE, e ▸ hk⟩
def StabS (T : Tab) (O : Old) (X : List Nat) (H0 : Heap) (m : Nat) (L : Atoms) : List PendE → Prop
  | [] => True
  | ⟨j, E, op, v⟩ :: l => (Nat.testBit m j = true ∨ (veq v v = true ∧ ∀ H, St X H0 H L → opL T O H (lk E) op = some v)) ∧ StabS T O X H0 m L l
theorem StabS.ok {m : Nat} {L : Atoms} {H : Heap} (hs : St X H0 H L) : ∀ {pend : List PendE} {pd : List Pend}, PSub pend pd → StabS T O X H0 m L pend → stable T O m H pd = true
  | _, _, .nil, _ => rfl
  | _, _, .cons h t, hst => by
    obtain ⟨h1, h2, h3, h4⟩ := h
    simp only [stable, Bool.and_eq_true]
    refine ⟨?_, StabS.ok hs t hst.2⟩
    rw [h1]
    rcases hst.1 with hb | ⟨hv, hb⟩
    · rw [hb]; rfl
    · cases hbt : Nat.testBit m _ with
      | true => rfl
      | false => simp only [cond_false]; rw [h3, h4, opL_mono h2.defO (hb H hs)]; exact hv
theorem draw_nil {all : List Oper} {ms : Tr Nat} {full : Nat} {pend : List PendE} {E : Env} {L : Atoms} {Q : Env → Atoms → Prop} (h : Q E L) : DrawS T O X H0 N all ms full [] pend E L Q :=
  .mk fun Em Xm hsc H hs τ pd ht hp => ⟨0, 0, τ, H, E, L, by
    simp only [schedOk] at hsc
    rw [Nat.eq_of_beq_eq_true hsc]; rfl, ht, hs, Nat.le_refl _, h⟩
def keepP (m : Nat) : List PendE → List PendE
  | [] => []
  | p :: l => bif Nat.testBit m p.j then keepP m l else p :: keepP m l
def keepN (m : Nat) : List PendE → Option (List PendE)
  | [] => some []
  | ⟨j, E, op, v⟩ :: l => match keepN m l with
    | some r => match Nat.testBit m j with
      | true => some r
      | false => some (⟨j, E, op, v⟩ :: r)
    | none => none
theorem keepN_eq {m : Nat} : ∀ {l r : List PendE}, keepN m l = some r → keepP m l = r
  | [], _, h => by cases h; rfl
  | p :: l, r, h => by
    simp only [keepN] at h
    simp only [keepP]
    cases hl : keepN m l with
    | none => rw [hl] at h; cases h
    | some r' =>
      rw [hl] at h
      simp only at h
      rw [keepN_eq hl]
      cases hb : Nat.testBit m p.j with
      | true => rw [hb] at h; cases h; rfl
      | false => rw [hb] at h; cases h; rfl
theorem PSub.keep (m : Nat) : ∀ {p : List PendE} {q : List Pend}, PSub p q → PSub (keepP m p) (q.filter fun p => !(Nat.testBit m p.j))
  | _, _, .nil => .nil
  | _, _, .cons (x := x) (y := y) h t => by
    simp only [List.filter_cons, keepP]
    rw [h.1]
    cases hb : Nat.testBit m x.j with
    | true => simp only [cond_true, Bool.not_true, Bool.false_eq_true, if_false]; exact PSub.keep m t
    | false => simp only [cond_false, Bool.not_false, if_true]; exact .cons h (PSub.keep m t)
def pendOf (T : Tab) (j m : Nat) (E : Env) (o : Oper) (v : Value) (pend : List PendE) : List PendE :=
  match cls T o.op with
  | .l => ⟨j, E, o.op, v⟩ :: pend
  | .w => keepP m pend
  | _ => pend
theorem isW_of {T : Tab} {o : Oper} : isW T o = match cls T o.op with | .w => true | _ => false := rfl
theorem draw_one {all : List Oper} {ms : Tr Nat} {full j m : Nat} {lst : List (Nat × Nat)} {o : Oper} {pend : List PendE} {E : Env} {L : Atoms} {Q : Env → Atoms → Prop}
    (hj : all[j]? = some o) (hw : wantedE all E o = some true) {d : Option Nat} (hdd : seeO o.dst = some d) (hd : dstOk N d = true)
    (h : StepS T O X H0 E L o fun v L' => ((cls T o.op = .a → StabS T O X H0 0 L' pend) ∧ (cls T o.op = .w → StabS T O X H0 m L' pend)) ∧
      DrawS T O X H0 N all ms full lst (pendOf T j m E o v pend) (putE d v E) L' Q) :
    DrawS T O X H0 N all ms full ((j, m) :: lst) pend E L Q := by
  obtain rfl := seeO_eq hdd
  constructor
  intro Em Xm hsc H hs τ pd hτ hpd
  obtain ⟨lf, n, v, H', L', h1, h2, hnx, ⟨hstA, hstW⟩, h3⟩ := h.run H hs τ hτ
  obtain ⟨τ', hput, hτ'⟩ := hτ.put v hd
  simp only [schedOk, hj] at hsc
  cases hm : ms.get j with
  | none => rw [hm] at hsc; cases hsc
  | some m' =>
    rw [hm] at hsc
    simp only [Bool.and_eq_true, Bool.not_eq_true'] at hsc
    obtain ⟨⟨hmm, ht⟩, hsc⟩ := hsc
    obtain rfl := Nat.eq_of_beq_eq_true hmm
    have key : ∀ pd', PSub (pendOf T j m' E o v pend) pd' → ∃ lf2 k2 τ2 H2 E2 L2, drawRun T O (evalCall T O lf2 k2) N all ms ((lst.map (·.1)).filterMap fun j => (all[j]?).map fun o => (j, o)) (Nat.lor Em (2 ^ j)) (bif isW T o then Nat.lor Xm (2 ^ j) else Xm) pd' τ' H' = some (full, τ2, H2) ∧ Sub E2 τ2 ∧ St X H0 H2 L2 ∧ H'.next ≤ H2.next ∧ Q E2 L2 :=
      fun pd' hpd' => h3.run _ _ hsc H' h2 τ' pd' hτ' hpd'
    have fin : ∀ (pd' : List Pend) (s : Bool), PSub (pendOf T j m' E o v pend) pd' → s = true →
        (∀ call : Ev.Call, CallLe (evalCall T O lf n) call → drawRun T O call N all ms ((j, o) :: (lst.map (·.1)).filterMap fun j => (all[j]?).map fun o => (j, o)) Em Xm pd τ H = bif s then drawRun T O call N all ms ((lst.map (·.1)).filterMap fun j => (all[j]?).map fun o => (j, o)) (Nat.lor Em (2 ^ j)) (bif isW T o then Nat.lor Xm (2 ^ j) else Xm) pd' τ' H' else none) →
        ∃ lf k τ' H' E' L', drawRun T O (evalCall T O lf k) N all ms ((((j, m') :: lst).map (·.1)).filterMap fun j => (all[j]?).map fun o => (j, o)) Em Xm pd τ H = some (full, τ', H') ∧ Sub E' τ' ∧ St X H0 H' L' ∧ H.next ≤ H'.next ∧ Q E' L' := by
      intro pd' s hpd' hs' heq
      obtain ⟨lf2, k2, τ2, H2, E2, L2, g1, g2, g3, g4, g5⟩ := key pd' hpd'
      refine ⟨max lf lf2, max n k2, τ2, H2, E2, L2, ?_, g2, g3, Nat.le_trans hnx g4, g5⟩
      rw [List.map_cons, List.filterMap_cons, hj]
      simp only [Option.map_some]
      rw [heq _ (evalCall_mono (Nat.le_max_left lf lf2) (Nat.le_max_left n k2)), hs', cond_true]
      exact drawRun_mono (evalCall_mono (Nat.le_max_right lf lf2) (Nat.le_max_right n k2)) g1
    have unf : ∀ call : Ev.Call, CallLe (evalCall T O lf n) call → drawRun T O call N all ms ((j, o) :: (lst.map (·.1)).filterMap fun j => (all[j]?).map fun o => (j, o)) Em Xm pd τ H =
        (match cls T o.op with
              | .w => bif stable T O m' H' pd && Nat.ble H.next H'.next then drawRun T O call N all ms ((lst.map (·.1)).filterMap fun j => (all[j]?).map fun o => (j, o)) (Nat.lor Em (2 ^ j)) (Nat.lor Xm (2 ^ j)) (pd.filter fun p => !(Nat.testBit m' p.j)) τ' H' else none
              | .l => drawRun T O call N all ms ((lst.map (·.1)).filterMap fun j => (all[j]?).map fun o => (j, o)) (Nat.lor Em (2 ^ j)) Xm (⟨j, τ, o.op, v⟩ :: pd) τ' H'
              | .a => bif stable T O 0 H' pd then drawRun T O call N all ms ((lst.map (·.1)).filterMap fun j => (all[j]?).map fun o => (j, o)) (Nat.lor Em (2 ^ j)) Xm pd τ' H' else none
              | .p => drawRun T O call N all ms ((lst.map (·.1)).filterMap fun j => (all[j]?).map fun o => (j, o)) (Nat.lor Em (2 ^ j)) Xm pd τ' H') := by
      intro call hle
      have e := evalOp_mono (fun _ _ h => h) hle h1
      conv => lhs; unfold drawRun
      simp only [hm, ht, cond_false, wantedE_ok hτ hw, e, hput]
      cases cls T o.op <;> rfl
    have hW := @isW_of T o
    cases hcl : cls T o.op with
    | p =>
      rw [hcl] at hW
      refine fin pd true ?_ rfl fun call hle => ?_
      · simp only [pendOf, hcl]; exact hpd
      · rw [unf call hle, hcl, hW]; rfl
    | l =>
      rw [hcl] at hW
      refine fin (⟨j, τ, o.op, v⟩ :: pd) true ?_ rfl fun call hle => ?_
      · simp only [pendOf, hcl]; exact .cons ⟨rfl, hτ, rfl, rfl⟩ hpd
      · rw [unf call hle, hcl, hW]; rfl
    | a =>
      rw [hcl] at hW
      refine fin pd (stable T O 0 H' pd) ?_ ((hstA hcl).ok h2 hpd) fun call hle => ?_
      · simp only [pendOf, hcl]; exact hpd
      · rw [unf call hle, hcl, hW]; rfl
    | w =>
      rw [hcl] at hW
      refine fin (pd.filter fun p => !(Nat.testBit m' p.j)) (stable T O m' H' pd && Nat.ble H.next H'.next) ?_ ?_ fun call hle => ?_
      · simp only [pendOf, hcl]; exact PSub.keep m' hpd
      · rw [(hstW hcl).ok h2 hpd, Nat.ble_eq_true_of_le hnx]; rfl
      · rw [unf call hle, hcl, hW]; rfl
theorem draw_a {all : List Oper} {ms : Tr Nat} {full j m : Nat} {lst : List (Nat × Nat)} {o : Oper} {pend : List PendE} {E : Env} {L : Atoms} {Q : Env → Atoms → Prop}
    (hj : all[j]? = some o) (hw : wantedE all E o = some true) {d : Option Nat} (hdd : seeO o.dst = some d) (hd : dstOk N d = true) (hc : cls T o.op = .a)
    (h : StepS T O X H0 E L o fun v L' => StabS T O X H0 0 L' pend ∧ DrawS T O X H0 N all ms full lst pend (putE d v E) L' Q) : DrawS T O X H0 N all ms full ((j, m) :: lst) pend E L Q := by
  refine draw_one hj hw hdd hd (.mk fun H hs τ hτ => ?_)
  obtain ⟨lf, n, v, H', L', h1, h2, h3, h4, h5⟩ := h.run H hs τ hτ
  exact ⟨lf, n, v, H', L', h1, h2, h3, ⟨fun _ => h4, fun e => (nomatch (hc.symm.trans e))⟩, by simp only [pendOf, hc]; exact h5⟩
theorem draw_w {all : List Oper} {ms : Tr Nat} {full j m : Nat} {lst : List (Nat × Nat)} {o : Oper} {pend pend' : List PendE} {E : Env} {L : Atoms} {Q : Env → Atoms → Prop}
    (hj : all[j]? = some o) (hw : wantedE all E o = some true) {d : Option Nat} (hdd : seeO o.dst = some d) (hd : dstOk N d = true) (hc : cls T o.op = .w) (hp : keepN m pend = some pend')
    (h : StepS T O X H0 E L o fun v L' => StabS T O X H0 m L' pend ∧ DrawS T O X H0 N all ms full lst pend' (putE d v E) L' Q) : DrawS T O X H0 N all ms full ((j, m) :: lst) pend E L Q := by
  obtain rfl := keepN_eq hp
  refine draw_one hj hw hdd hd (.mk fun H hs τ hτ => ?_)
  obtain ⟨lf, n, v, H', L', h1, h2, h3, h4, h5⟩ := h.run H hs τ hτ
  exact ⟨lf, n, v, H', L', h1, h2, h3, ⟨fun e => (nomatch (hc.symm.trans e)), fun _ => h4⟩, by simp only [pendOf, hc]; exact h5⟩
theorem draw_skip {all : List Oper} {ms : Tr Nat} {full j m : Nat} {lst : List (Nat × Nat)} {o : Oper} {pend : List PendE} {E : Env} {L : Atoms} {Q : Env → Atoms → Prop}
    (hj : all[j]? = some o) (hw : wantedE all E o = some false) {d : Option Nat} (hdd : seeO o.dst = some d) (hd : dstOk N d = true)
    (h : DrawS T O X H0 N all ms full lst pend (putE d skipped E) L Q) : DrawS T O X H0 N all ms full ((j, m) :: lst) pend E L Q := by
  obtain rfl := seeO_eq hdd
  constructor
  intro Em Xm hsc H hs τ pd hτ hpd
  obtain ⟨τ', hput, hτ'⟩ := hτ.put skipped hd
  simp only [schedOk, hj] at hsc
  cases hm : ms.get j with
  | none => rw [hm] at hsc; cases hsc
  | some m' =>
    rw [hm] at hsc
    simp only [Bool.and_eq_true, Bool.not_eq_true'] at hsc
    obtain ⟨⟨hmm, ht⟩, hsc⟩ := hsc
    obtain rfl := Nat.eq_of_beq_eq_true hmm
    obtain ⟨lf2, k2, τ2, H2, E2, L2, g1, g2⟩ := h.run _ _ hsc H hs τ' pd hτ' hpd
    refine ⟨lf2, k2, τ2, H2, E2, L2, ?_, g2⟩
    rw [List.map_cons, List.filterMap_cons, hj]
    simp only [Option.map_some]
    unfold drawRun
    simp only [hm, ht, cond_false, wantedE_ok hτ hw, hput]
    exact g1
end
end Go.Ev.Wk
namespace Go.Ev.Wk
def plain (T : Tab) (t : Nat) : Bool :=
  match T.und t with
  | some d => !isAggD d
  | none => false
def aggN (T : Tab) (t : Nat) : Option Nat :=
  match T.und t with
  | some d => bif isAggD d then T.size t else none
  | none => none
def normL {α : Type} : List α → Option (List α)
  | [] => some []
  | x :: l => match normL l with
    | some r => some (x :: r)
    | none => none
theorem normL_eq {α : Type} : ∀ {l r : List α}, normL l = some r → r = l
  | [], _, h => by cases h; rfl
  | x :: l, r, h => by
    simp only [normL] at h
    cases hl : normL l with
    | none => rw [hl] at h; cases h
    | some r' => rw [hl] at h; cases h; rw [normL_eq hl]
def rdL (l : List Value) : Nat → Nat → Option (List Value)
  | 0, _ => some []
  | n + 1, off => match l[off]? with
    | none => none
    | some v => match rdL l n (off + 1) with
      | none => none
      | some r => some (v :: r)
theorem Has.rd {O : Old} {H : Heap} {b ver esz ty : Nat} {l : List Value} (h : Has H b (.cells ver l esz ty)) {i : Nat} {v : Value} (hv : l[i]? = some v) : rd O H b i (some ver) = some v := by
  obtain ⟨cs, p, h1, h2⟩ := h
  have hb : Nat.beq ver ver = true := Nat.beq_refl ver
  simp only [Ev.rd, h1, Blk.at, hb, cond_true]
  exact h2 i v hv
theorem Has.rdN {O : Old} {H : Heap} {b ver esz ty : Nat} {l : List Value} (h : Has H b (.cells ver l esz ty)) : ∀ {n off : Nat} {r : List Value}, rdL l n off = some r → rdN O H b (some ver) n off = some r
  | 0, _, _, e => by cases e; rfl
  | n + 1, off, r, e => by
    simp only [rdL] at e
    simp only [Ev.rdN]
    cases hv : l[off]? with
    | none => rw [hv] at e; cases e
    | some v =>
      rw [hv] at e
      simp only at e
      cases hr : rdL l n (off + 1) with
      | none => rw [hr] at e; cases e
      | some r' => rw [hr] at e; rw [h.rd hv, h.rdN hr]; exact e
theorem rdL_all : ∀ (l : List Value) (pre : List Value), rdL (pre ++ l) l.length pre.length = some l
  | [], _ => rfl
  | x :: l, pre => by
    simp only [List.length_cons, rdL]
    have : (pre ++ x :: l)[pre.length]? = some x := by simp
    rw [this]
    have h2 := rdL_all l (pre ++ [x])
    simp only [List.append_assoc, List.singleton_append, List.length_append, List.length_singleton] at h2
    rw [h2]
theorem rdL_full (l : List Value) : rdL l l.length 0 = some l := rdL_all l []
section
variable {T : Tab} {O : Old} {X : List Nat} {H0 : Heap} {N : Nat} {E : Env} {L : Atoms}
theorem load_own {H : Heap} {b off ver esz ty i t : Nat} {l : List Value} {v : Value} (hs : St X H0 H L) (hi : L[i]? = some (some b, .cells ver l esz ty)) (hd : plain T t = true) (hv : l[off]? = some v) : load T O H t (.pointer (some ⟨b, off, some ver⟩)) = some v := by
  unfold plain at hd
  unfold load
  cases hu : T.und t with
  | none => rw [hu] at hd; cases hd
  | some d =>
    rw [hu] at hd
    simp only [Bool.not_eq_true'] at hd
    simp only [hd, cond_false]
    exact (hs.get hi).rd hv
theorem load_agg {H : Heap} {b off ver esz ty i t n : Nat} {l c : List Value} (hs : St X H0 H L) (hi : L[i]? = some (some b, .cells ver l esz ty)) (hd : aggN T t = some n) (hv : rdL l n off = some c) : load T O H t (.pointer (some ⟨b, off, some ver⟩)) = some (.agg c.toArray) := by
  unfold aggN at hd
  unfold load
  cases hu : T.und t with
  | none => rw [hu] at hd; cases hd
  | some d =>
    rw [hu] at hd
    simp only at hd
    cases ha : isAggD d with
    | false => rw [ha] at hd; cases hd
    | true =>
      rw [ha] at hd
      simp only [cond_true] at hd
      simp only [ha, cond_true, hd]
      rw [(hs.get hi).rdN hv]
theorem opL_load {H : Heap} {t : Nat} {a : Operand} {p v : Value} (ha : lk E a = some p) (h : load T O H t p = some v) : opL T O H (lk E) (.load t a) = some v := by
  simp only [opL, ha]; exact h
theorem look_own {b off ver esz ty t : Nat} {a : Operand} {l : List Value} {v : Value} (i : Nat) (ha : lk E a = some (.pointer (some ⟨b, off, some ver⟩))) (hi : L[i]? = some (some b, .cells ver l esz ty)) (hd : plain T t = true) (hv : l[off]? = some v) :
    ∀ H, St X H0 H L → opL T O H (lk E) (.load t a) = some v := fun H hs => opL_load ha (load_own hs hi hd hv)
theorem look_agg {b off ver esz ty t n : Nat} {a : Operand} {l c : List Value} (i : Nat) (ha : lk E a = some (.pointer (some ⟨b, off, some ver⟩))) (hi : L[i]? = some (some b, .cells ver l esz ty)) (hd : aggN T t = some n) (hv : rdL l n off = some c) :
    ∀ H, St X H0 H L → opL T O H (lk E) (.load t a) = some (.agg c.toArray) := fun H hs => opL_load ha (load_agg hs hi hd hv)
theorem step_box {o : Oper} {t : Nat} {x : Operand} {v : Value} {c : List Value} {k : Value → Atoms → Prop} (ho : o.op = .box t x) (hx : lk E x = some v) (hc : normL v.cells.toList = some c)
    (h : ∀ b, k (.pointer (some ⟨b, 0, some 0⟩)) ((some b, .cells 0 c 0 t) :: L)) : StepS T O X H0 E L o k := by
  obtain rfl := normL_eq hc
  exact step_a (f := fun b => .pointer (some ⟨b, 0, some 0⟩)) (by rw [ho]; rfl) (fun H => by rw [ho]; simp only [opA, hx]; rfl) h
theorem step_alloc {o : Oper} {t : Nat} {z : Value} {c : List Value} {k : Value → Atoms → Prop} (ho : o.op = .alloc t) (hz : T.zero t = some z) (hcl : closedC z = true) (hc : normL z.cells.toList = some c)
    (h : ∀ b, k (.pointer (some ⟨b, 0, some 0⟩)) ((some b, .cells 0 c 0 t) :: L)) : StepS T O X H0 E L o k := by
  obtain rfl := normL_eq hc
  exact step_a (f := fun b => .pointer (some ⟨b, 0, some 0⟩)) (by rw [ho]; rfl) (fun H => by rw [ho]; simp only [opA, alloc, hz, hcl, cond_true]; rfl) h
def sliceInfo (T : Tab) (t len : Nat) : Option (Nat × Nat × List Value) :=
  match T.und t with
  | some (.slice elem) => match T.size elem, T.zero elem with
    | some n, some z => bif closedC z && Nat.beq z.cells.size n && Nat.ble 1 n && Nat.ble (len * n) 16777216 then some (n, elem, reps z.cells.toList len) else none
    | _, _ => none
  | _ => none
theorem buildSlice_of {H : Heap} {t len n elem : Nat} {zs l : List Value} {ps : List (Nat × Value)} (hi : sliceInfo T t len = some (n, elem, zs)) (hl : lay (fun i => some (i * n, n)) zs ps = some l) :
    buildSlice T H t len ps = some (.slice (some ⟨H.next, 0, some 0⟩) len len, H.newCells l n elem) := by
  unfold sliceInfo at hi
  unfold buildSlice
  split at hi
  · rename_i e hu
    rw [hu]
    simp only
    split at hi
    · rename_i n' z hn hz
      rw [hn, hz]
      simp only
      cases hb : (closedC z && Nat.beq z.cells.size n' && Nat.ble 1 n' && Nat.ble (len * n') 16777216) with
      | false => rw [hb] at hi; cases hi
      | true =>
        rw [hb] at hi
        simp only [cond_true] at hi ⊢
        cases hi
        rw [hl]
    · cases hi
  · cases hi
theorem step_buildSlice {o : Oper} {t len n elem : Nat} {ps : Array (Nat × Operand)} {pl : List (Nat × Value)} {zs l c : List Value} {k : Value → Atoms → Prop} (ho : o.op = .buildSlice t len ps) (hp : parts (lk E) ps.toList = some pl)
    (hi : sliceInfo T t len = some (n, elem, zs)) (hl : lay (fun i => some (i * n, n)) zs pl = some l) (hc : normL l = some c)
    (h : ∀ b, k (.slice (some ⟨b, 0, some 0⟩) len len) ((some b, .cells 0 c n elem) :: L)) : StepS T O X H0 E L o k := by
  obtain rfl := normL_eq hc
  exact step_a (f := fun b => .slice (some ⟨b, 0, some 0⟩) len len) (by rw [ho]; rfl) (fun H => by rw [ho]; simp only [opA, hp]; exact buildSlice_of hi hl) h
def wrL : List Value → Nat → List Value → Option (List Value)
  | [], _, l => some l
  | v :: r, i, l => bif isCell v && Nat.blt i l.length then wrL r (i + 1) (l.set i v) else none
theorem wrN_of : ∀ {vs : List Value} {i : Nat} {l l' : List Value} {cs : Tr Value}, wrL vs i l = some l' → (∀ j x, l[j]? = some x → cs.get j = some x) → ∃ cs', wrN vs i cs = some cs' ∧ l'.length = l.length ∧ ∀ j x, l'[j]? = some x → cs'.get j = some x
  | [], i, l, l', cs, h, hc => by cases h; exact ⟨cs, rfl, rfl, hc⟩
  | v :: r, i, l, l', cs, h, hc => by
    simp only [wrL] at h
    cases hb : (isCell v && Nat.blt i l.length) with
    | false => rw [hb] at h; cases h
    | true =>
      rw [hb, cond_true] at h
      simp only [Bool.and_eq_true] at hb
      have hlt : i < l.length := Nat.lt_of_succ_le (Nat.le_of_ble_eq_true hb.2)
      obtain ⟨cs', h1, h2, h3⟩ := wrN_of (cs := cs.put i v) h fun j x hj => by
        rw [Tr.get_put]
        rw [List.getElem?_set] at hj
        by_cases e : i = j
        · subst e; rw [if_pos rfl]; rw [if_pos rfl, if_pos hlt] at hj; exact hj
        · rw [if_neg (fun h => e h.symm)]; rw [if_neg e] at hj; exact hc j x hj
      refine ⟨cs', ?_, by rw [h2, List.length_set], h3⟩
      simp only [wrN, hb.1, cond_true, hc i _ (List.getElem?_eq_getElem hlt)]
      exact h1
theorem store_own {H : Heap} {b off ver esz ty i t n : Nat} {l l' : List Value} {x : Value} (hs : St X H0 H L) (hi : L[i]? = some (some b, .cells ver l esz ty)) (hn : T.size t = some n) (hx : Nat.beq x.cells.size n = true) (hw : wrL x.cells.toList off l = some l') :
    ∃ H', store T H t (.pointer (some ⟨b, off, some ver⟩)) x = some H' ∧ St X H0 H' (L.set i (some b, .cells ver l' esz ty)) ∧ H.next ≤ H'.next := by
  obtain ⟨cs, p, h1, h2⟩ := hs.get hi
  obtain ⟨cs', g1, g2, g3⟩ := wrN_of hw h2
  have hb : Nat.beq ver ver = true := Nat.beq_refl ver
  refine ⟨⟨H.blks.put b (.cells cs' l.length ver none esz ty), H.next⟩, ?_, ?_, Nat.le_refl _⟩
  · simp only [store, hn, h1, hb, hx, Bool.and_true, cond_true, g1]
  · refine hs.change hi ⟨Nat.le_refl _, fun c _ hc => Tr.get_put_ne _ _ (by simpa using hc)⟩ ⟨cs', none, ?_, g3⟩
    rw [g2]; exact Tr.get_put_self _ _ _
theorem step_store {o : Oper} {t n b off ver esz ty : Nat} {a x : Operand} {v : Value} {l l' : List Value} {L' : Atoms} {k : Value → Atoms → Prop} (i : Nat) (ho : o.op = .store t a x) (ha : lk E a = some (.pointer (some ⟨b, off, some ver⟩))) (hx : lk E x = some v)
    (hi : L[i]? = some (some b, .cells ver l esz ty)) (hn : T.size t = some n) (hv : Nat.beq v.cells.size n = true) (hw : wrL v.cells.toList off l = some l') {l2 : List Value} (hc : normL l' = some l2) (hL : normL (L.set i (some b, .cells ver l2 esz ty)) = some L')
    (h : k skipped L') : StepS T O X H0 E L o k := by
  obtain rfl := normL_eq hc
  obtain rfl := normL_eq hL
  refine step_w (by rw [ho]; rfl) fun H hs => ?_
  obtain ⟨H', h1, h2, h3⟩ := store_own (T := T) hs hi hn hv hw
  exact ⟨skipped, H', _, by rw [ho]; simp only [opW, ha, hx, h1], h2, h3, h⟩
theorem step_store' {o : Oper} {t n b off ver esz ty : Nat} {a x : Operand} {v : Value} {l l' : List Value} {k : Value → Atoms → Prop} (i : Nat) (ho : o.op = .store t a x) (ha : lk E a = some (.pointer (some ⟨b, off, some ver⟩))) (hx : lk E x = some v)
    (hi : L[i]? = some (some b, .cells ver l esz ty)) (hn : T.size t = some n) (hv : Nat.beq v.cells.size n = true) (hw : wrL v.cells.toList off l = some l')
    (h : k skipped (L.set i (some b, .cells ver l' esz ty))) : StepS T O X H0 E L o k := by
  refine step_w (by rw [ho]; rfl) fun H hs => ?_
  obtain ⟨H', h1, h2, h3⟩ := store_own (T := T) hs hi hn hv hw
  exact ⟨skipped, H', _, by rw [ho]; simp only [opW, ha, hx, h1], h2, h3, h⟩
noncomputable def eszOf (H : Heap) (b : Nat) : Option Nat :=
  match H.blks.get b with
  | some (.cells _ _ _ _ esz _) => some esz
  | _ => none
def Sl (O : Old) (H : Heap) (v : Value) (z n : Nat) (cs : List Value) : Prop :=
  cs.length = n * z ∧ ((v = .slice none 0 0 ∧ n = 0) ∨ ∃ b off s cap, v = .slice (some ⟨b, off, s⟩) n cap ∧ rdN O H b s (n * z) off = some cs ∧ (s = none → n ≤ cap) ∧ ∀ ver, s = some ver → b < H.next ∧ eszOf H b = some z)
def elemPtr (v : Value) (z i : Nat) : Value :=
  match v with
  | .slice (some ⟨b, off, s⟩) _ _ => .pointer (some ⟨b, off + i * z, s⟩)
  | _ => .pointer none
theorem rdN_ext {H H' : Heap} {b : Nat} {s : Option Nat} (h : ∀ ver, s = some ver → H'.blks.get b = H.blks.get b) : ∀ (n off : Nat), rdN O H' b s n off = rdN O H b s n off
  | 0, _ => rfl
  | n + 1, off => by
    simp only [rdN]
    have : rd O H' b off s = rd O H b off s := by
      cases s with
      | none => rfl
      | some ver => simp only [rd, h ver rfl]
    rw [this, rdN_ext h n]
theorem Sl.ext {H H' : Heap} {v : Value} {z n : Nat} {cs : List Value} (h : Sl O H v z n cs) (e : Ext H H') : Sl O H' v z n cs := by
  refine ⟨h.1, h.2.imp id ?_⟩
  rintro ⟨b, off, s, cap, h1, h2, h3, h4⟩
  have same : ∀ ver, s = some ver → H'.blks.get b = H.blks.get b := fun ver hv => e.same b (h4 ver hv).1 (by simp)
  refine ⟨b, off, s, cap, h1, (rdN_ext same _ _).trans h2, h3, fun ver hv => ⟨Nat.lt_of_lt_of_le (h4 ver hv).1 e.next, ?_⟩⟩
  unfold eszOf
  rw [same ver hv]
  exact (h4 ver hv).2
theorem Sl.at {H : Heap} {v : Value} {z n : Nat} {cs : List Value} (h : Sl O H0 v z n cs) (hs : St [] H0 H L) : Sl O H v z n cs := h.ext hs.ext
theorem Sl.own {H : Heap} {b ver n z ty i : Nat} {l : List Value} (hs : St X H0 H L) (hi : L[i]? = some (some b, .cells ver l z ty)) (hl : l.length = n * z) (cap : Nat) : Sl O H (.slice (some ⟨b, 0, some ver⟩) n cap) z n l := by
  refine ⟨hl, .inr ⟨b, 0, some ver, cap, rfl, ?_, fun h => (by cases h), fun ver' _ => ⟨(hs.own _ _ (List.mem_of_getElem? hi)).2, ?_⟩⟩⟩
  · rw [← hl]; exact (hs.get hi).rdN (rdL_full l)
  · obtain ⟨cs, p, h1, _⟩ := hs.get hi
    simp only [eszOf, h1]
theorem Sl.nil {H : Heap} {z : Nat} : Sl O H (.slice none 0 0) z 0 [] := ⟨by simp, .inl ⟨rfl, rfl⟩⟩
theorem Sl.len {H H' : Heap} {v : Value} {z n t e : Nat} {cs : List Value} (h : Sl O H v z n cs) (ht : T.und t = some (.slice e)) : lenV T H' t v = some (.int .i64 n) := by
  rcases h.2 with ⟨rfl, rfl⟩ | ⟨b, off, s, cap, rfl, _⟩
  · simp only [lenV, ht]
  · simp only [lenV, ht]
theorem rdN_get {H : Heap} {b : Nat} {s : Option Nat} : ∀ {n off : Nat} {cs : List Value}, rdN O H b s n off = some cs → ∀ {i : Nat} {v : Value}, cs[i]? = some v → rd O H b (off + i) s = some v
  | 0, _, _, h, i, v, hv => by cases h; simp at hv
  | n + 1, off, cs, h, i, v, hv => by
    simp only [rdN] at h
    cases h1 : rd O H b off s with
    | none => rw [h1] at h; cases h
    | some x =>
      rw [h1] at h
      simp only at h
      cases h2 : rdN O H b s n (off + 1) with
      | none => rw [h2] at h; cases h
      | some r =>
        rw [h2] at h; cases h
        cases i with
        | zero => simp at hv; subst hv; exact h1
        | succ i =>
          simp at hv
          have := rdN_get h2 hv
          rwa [Nat.add_assoc, Nat.add_comm 1 i] at this
theorem rdN_of_get {H : Heap} {b : Nat} {s : Option Nat} : ∀ {n off : Nat} {cs : List Value}, cs.length = n → (∀ i v, cs[i]? = some v → rd O H b (off + i) s = some v) → rdN O H b s n off = some cs
  | 0, _, cs, hl, h => by cases cs with | nil => rfl | cons => simp at hl
  | n + 1, off, cs, hl, h => by
    cases cs with
    | nil => simp at hl
    | cons x r =>
      simp only [rdN]
      have h0 := h 0 x (by simp)
      rw [Nat.add_zero] at h0
      rw [h0]
      simp only
      rw [rdN_of_get (cs := r) (by simpa using hl) fun i v hv => by
        have := h (i + 1) v (by simpa using hv)
        rwa [show off + 1 + i = off + (i + 1) by omega]]
theorem Sl.idx {H : Heap} {v : Value} {z n t e : Nat} {cs : List Value} {k : IntKind} {x : Int} (h : Sl O H v z n cs) (ht : T.und t = some (.slice e)) (hz : T.size e = some z) (h0 : 0 ≤ x) (h1 : x < n) : indexAt T t v (.int k x) = some (elemPtr v z x.toNat) := by
  rcases h.2 with ⟨rfl, rfl⟩ | ⟨b, off, s, cap, rfl, _⟩
  · omega
  · simp only [indexAt, ht, hz]
    rw [if_pos ⟨h0, by omega⟩]
    rfl
theorem Sl.ld {H : Heap} {v x : Value} {n e i : Nat} {cs : List Value} (h : Sl O H v 1 n cs) (he : plain T e = true) (hx : cs[i]? = some x) : load T O H e (elemPtr v 1 i) = some x := by
  rcases h.2 with ⟨rfl, rfl⟩ | ⟨b, off, s, cap, rfl, h2, _⟩
  · have := h.1
    have h0 : i < cs.length := (List.getElem?_eq_some_iff.1 hx).1
    omega
  · have := rdN_get h2 hx
    unfold plain at he
    simp only [elemPtr, load]
    cases hu : T.und e with
    | none => rw [hu] at he; cases he
    | some d =>
      rw [hu] at he
      simp only [Bool.not_eq_true'] at he
      simp only [he, cond_false, Nat.mul_one]
      exact this
theorem Sl.ldA {H : Heap} {v : Value} {z n e i : Nat} {cs c : List Value} (h : Sl O H v z n cs) (he : aggN T e = some z) (hz : 0 < z) (hi : i < n) (hx : (cs.drop (i * z)).take z = c) : load T O H e (elemPtr v z i) = some (.agg c.toArray) := by
  rcases h.2 with ⟨rfl, rfl⟩ | ⟨b, off, s, cap, rfl, h2, _⟩
  · omega
  · unfold aggN at he
    simp only [elemPtr, load]
    cases hu : T.und e with
    | none => rw [hu] at he; cases he
    | some d =>
      rw [hu] at he
      simp only at he
      cases ha : isAggD d with
      | false => rw [ha] at he; cases he
      | true =>
        rw [ha] at he
        simp only [cond_true] at he
        simp only [ha, cond_true, he]
        have hle : (i + 1) * z ≤ n * z := Nat.mul_le_mul_right z hi
        have hl := h.1
        have hlen : c.length = z := by
          rw [← hx, List.length_take, List.length_drop]
          rw [Nat.add_mul] at hle
          omega
        rw [rdN_of_get (cs := c) hlen fun j y hj => by
          have : cs[i * z + j]? = some y := by
            rw [← hx, List.getElem?_take] at hj
            split at hj
            · rw [List.getElem?_drop] at hj; exact hj
            · cases hj
          have := rdN_get h2 this
          rwa [← Nat.add_assoc] at this]
theorem Sl.src {H : Heap} {v : Value} {z n : Nat} {cs : List Value} (h : Sl O H v z n cs) : src O H z v = some (n, cs) := by
  rcases h.2 with ⟨rfl, rfl⟩ | ⟨b, off, s, cap, rfl, h2, _⟩
  · have := h.1
    simp at this
    subst this
    rfl
  · simp only [Ev.src, h2]
def cutAddr (a : Option Addr) (z c lo : Nat) : Option Addr :=
  match a with
  | none => none
  | some ⟨b, off, some ver⟩ => some ⟨b, off + lo * z, some ver⟩
  | some ⟨b, off, none⟩ => some (if c = lo then ⟨b, off, none⟩ else ⟨b, off + lo * z, none⟩)
def cutCap' (a : Option Addr) (c lo : Nat) : Nat :=
  match a with
  | none => 0
  | some ⟨_, _, some _⟩ => bif Nat.beq c unk then unk else c - lo
  | some ⟨_, _, none⟩ => c - lo
def numO (d : Nat) : Option Value → Option Int
  | none => some d
  | some (.int _ i) => some i
  | _ => none
theorem bounds_of {len cap l h : Nat} {lo hi : Option Value} (h1 : numO 0 lo = some (l : Int)) (h2 : numO len hi = some (h : Int)) (hl : l ≤ h) (hh : h ≤ len) (hc : len ≤ cap) : bounds len cap lo hi none = some (l, h, cap) := by
  have e1 : ∀ i : Int, i = h → (if 0 ≤ i ∧ i ≤ (cap : Int) then some i.toNat else none) = some h := by rintro i rfl; rw [if_pos ⟨by omega, by omega⟩]; simp
  have e2 : ∀ i : Int, i = l → (if 0 ≤ i ∧ i ≤ (h : Int) then some (i.toNat, h, cap) else none) = some (l, h, cap) := by rintro i rfl; rw [if_pos ⟨by omega, by omega⟩]; simp
  have b1 : bounds len cap none none none = some (0, len, cap) := rfl
  have b2 : ∀ k i, bounds len cap (some (.int k i)) none none = if 0 ≤ i ∧ i ≤ (len : Int) then some (i.toNat, len, cap) else none := fun _ _ => rfl
  have b3 : ∀ k j, bounds len cap none (some (.int k j)) none = match (if 0 ≤ j ∧ j ≤ (cap : Int) then some j.toNat else none) with | none => none | some h => some (0, h, cap) := fun _ _ => rfl
  have b4 : ∀ k i k' j, bounds len cap (some (.int k i)) (some (.int k' j)) none = match (if 0 ≤ j ∧ j ≤ (cap : Int) then some j.toNat else none) with | none => none | some h => if 0 ≤ i ∧ i ≤ (h : Int) then some (i.toNat, h, cap) else none := fun _ _ _ _ => rfl
  cases hi with
  | none =>
    simp only [numO, Option.some.injEq] at h2
    have : len = h := by omega
    subst this
    cases lo with
    | none =>
      simp only [numO, Option.some.injEq] at h1
      have : l = 0 := by omega
      subst this
      exact b1
    | some v =>
      cases v with
      | int k i =>
        simp only [numO, Option.some.injEq] at h1
        rw [b2]
        exact e2 i h1
      | _ => simp [numO] at h1
  | some w =>
    cases w with
    | int k' j =>
      simp only [numO, Option.some.injEq] at h2
      cases lo with
      | none =>
        simp only [numO, Option.some.injEq] at h1
        have : l = 0 := by omega
        subst this
        rw [b3, e1 j h2]
      | some v =>
        cases v with
        | int k i =>
          simp only [numO, Option.some.injEq] at h1
          rw [b4, e1 j h2]
          exact e2 i h1
        | _ => simp [numO] at h1
    | _ => simp [numO] at h2
theorem Sl.cutV {H : Heap} {a : Option Addr} {n c z t e l h : Nat} {cs : List Value} {lo hi : Option Value} (hs : Sl O H (.slice a n c) z n cs) (ht : T.und t = some (.slice e)) (hz : T.size e = some z) (h1 : numO 0 lo = some (l : Int)) (h2 : numO n hi = some (h : Int)) (hl : l ≤ h) (hh : h ≤ n) :
    sliceV T H t (.slice a n c) lo hi none = some (.slice (cutAddr a z c l) (h - l) (cutCap' a c l)) := by
  rcases hs.2 with ⟨e0, rfl⟩ | ⟨b, off, s, cap, e0, _, h3, h4⟩
  · cases e0
    have hb := bounds_of (cap := 0) h1 h2 hl hh (Nat.le_refl _)
    have : h = 0 := by omega
    subst this
    simp only [sliceV, ht, hz, hb, cutAddr, cutCap']
    simp
  · cases e0
    cases s with
    | none =>
      have hb := bounds_of (cap := c) h1 h2 hl hh (h3 rfl)
      simp only [sliceV, ht, hz, hb, cutAddr, cutCap']
    | some ver =>
      have hb := bounds_of (cap := n) h1 h2 hl hh (Nat.le_refl _)
      have he := (h4 ver rfl).2
      unfold eszOf at he
      split at he
      · rename_i hg
        cases he
        simp only [sliceV, ht, hz, hg, hb, cutAddr, cutCap', cutCap, if_neg (fun h : ¬ (z = z) => h rfl), ne_eq, not_true, if_false]
      · cases he
theorem Sl.cut {H : Heap} {a : Option Addr} {n c z l h : Nat} {cs : List Value} (hs : Sl O H (.slice a n c) z n cs) (hl : l ≤ h) (hh : h ≤ n) :
    Sl O H (.slice (cutAddr a z c l) (h - l) (cutCap' a c l)) z (h - l) ((cs.drop (l * z)).take ((h - l) * z)) := by
  have hlen : ((cs.drop (l * z)).take ((h - l) * z)).length = (h - l) * z := by
    rw [List.length_take, List.length_drop, hs.1, ← Nat.sub_mul]
    exact Nat.min_eq_left (Nat.mul_le_mul_right z (by omega))
  refine ⟨hlen, ?_⟩
  rcases hs.2 with ⟨e0, rfl⟩ | ⟨b, off, s, cap, e0, h2, h3, h4⟩
  · cases e0
    have : h = 0 := by omega
    subst this
    exact .inl ⟨by simp [cutAddr, cutCap'], by omega⟩
  · cases e0
    right
    have key : ∀ off', off' = off + l * z ∨ (h - l) * z = 0 → rdN O H b s ((h - l) * z) off' = some ((cs.drop (l * z)).take ((h - l) * z)) := by
      intro off' ho
      refine rdN_of_get hlen fun i v hv => ?_
      have hi : i < (h - l) * z := by rw [← hlen]; exact (List.getElem?_eq_some_iff.1 hv).1
      rcases ho with rfl | ho
      · rw [List.getElem?_take, if_pos hi, List.getElem?_drop] at hv
        have := rdN_get h2 hv
        rwa [← Nat.add_assoc] at this
      · omega
    cases s with
    | none =>
      refine ⟨b, if c = l then off else off + l * z, none, c - l, ?_, key _ ?_, fun _ => ?_, fun ver hv => by cases hv⟩
      · simp only [cutAddr, cutCap']; split <;> rfl
      · by_cases hcl : c = l
        · right
          have := h3 rfl
          have : h - l = 0 := by omega
          rw [this, Nat.zero_mul]
        · rw [if_neg hcl]; exact .inl rfl
      · have := h3 rfl; omega
    | some ver =>
      refine ⟨b, off + l * z, some ver, _, rfl, key _ (.inl rfl), fun h => (by cases h), fun ver' hv => ?_⟩
      cases hv
      exact h4 ver rfl
theorem Sl.cutM {α : Type} {f : α → Value} {H : Heap} {a : Option Addr} {n c l h : Nat} {cs : List α} (hs : Sl O H (.slice a n c) 1 n (cs.map f)) (hl : l ≤ h) (hh : h ≤ n) :
    Sl O H (.slice (cutAddr a 1 c l) (h - l) (cutCap' a c l)) 1 (h - l) (((cs.drop l).take (h - l)).map f) := by
  have := hs.cut hl hh
  rwa [Nat.mul_one, Nat.mul_one, ← List.map_drop, ← List.map_take] at this
theorem look_cut {t e z n c l h : Nat} {x : Operand} {lo hi : Option Operand} {vl vh : Option Value} {a : Option Addr} {cs : List Value} {i j : Int} (hx : lk E x = some (.slice a n c)) (hlo : optV (lk E) lo = some vl) (hhi : optV (lk E) hi = some vh) (h1 : numO 0 vl = some i) (hi' : i = l) (h2 : numO n vh = some j) (hj' : j = h)
    (hs : ∀ H, St X H0 H L → Sl O H (.slice a n c) z n cs) (ht : T.und t = some (.slice e)) (hz : T.size e = some z) (hl : l ≤ h) (hh : h ≤ n) :
    ∀ H, St X H0 H L → opL T O H (lk E) (.slice t x lo hi none) = some (.slice (cutAddr a z c l) (h - l) (cutCap' a c l)) := by
  intro H hst
  subst hi'; subst hj'
  have hm : optV (lk E) none = some none := rfl
  simp only [opL, hx, hlo, hhi, hm]
  exact (hs H hst).cutV ht hz h1 h2 hl hh
def appOk (i : TypeInfo) (n : Nat) (new : List Value) : Prop := new.all isCell = true ∧ 1 ≤ i.size ∧ i.bytes ≤ 65536 ∧ zeroOk i = true ∧ new.length = n * i.size
theorem appOk.bif {i : TypeInfo} {n : Nat} {new : List Value} (h : appOk i n new) : (!(new.all isCell) || !(Nat.ble 1 i.size) || Nat.blt 65536 i.bytes || !(zeroOk i) || !(Nat.beq new.length (n * i.size))) = false := by
  obtain ⟨h1, h2, h3, h4, h5⟩ := h
  have e1 : Nat.ble 1 i.size = true := Nat.ble_eq_true_of_le h2
  have e2 : Nat.blt 65536 i.bytes = false := by
    cases hb : Nat.blt 65536 i.bytes with
    | false => rfl
    | true => have := Nat.le_of_ble_eq_true hb; omega
  have e3 : Nat.beq new.length (n * i.size) = true := by rw [h5]; exact Nat.beq_refl _
  simp [h1, e1, e2, h4, e3]
theorem append_nil {H : Heap} {t e n : Nat} {x : Value} {i : TypeInfo} {new : List Value} (ht : T.und t = some (.slice e)) (hi : T.info e = some i) (hs : src O H i.size x = some (n, new)) (ha : appOk i n new) (hn : 0 < n) (hn' : n ≤ 1073741824) :
    append T O H t (.slice none 0 0) x = some (.slice (some ⟨H.next, 0, some 0⟩) n unk, H.newCells new i.size e) := by
  have e0 : Nat.beq n 0 = false := by
    cases hb : Nat.beq n 0 with
    | false => rfl
    | true => have := Nat.eq_of_beq_eq_true hb; omega
  simp only [append, ht, hi, hs, ha.bif, cond_false, e0, Nat.ble_eq_true_of_le hn', cond_true]
theorem append_none {H : Heap} {t e : Nat} {s x : Value} {i : TypeInfo} {new : List Value} (ht : T.und t = some (.slice e)) (hi : T.info e = some i) (hs : src O H i.size x = some (0, new)) (ha : appOk i 0 new)
    (hv : s = .slice none 0 0 ∨ ∃ a len cap, s = .slice (some a) len cap ∧ (a.spot.isSome || Nat.ble len cap) = true) : append T O H t s x = some (s, H) := by
  have e0 : Nat.beq 0 0 = true := rfl
  rcases hv with rfl | ⟨⟨b, off, spot⟩, len, cap, rfl, h⟩
  · simp only [append, ht, hi, hs, ha.bif, cond_false, e0, cond_true]
  · simp only at h
    simp only [append, ht, hi, hs, ha.bif, cond_false, e0, cond_true, h]
theorem append_own {H : Heap} {t e n b off ver len j : Nat} {x : Value} {i : TypeInfo} {l new : List Value} (hst : St X H0 H L) (hj : L[j]? = some (some b, .cells ver l i.size e)) (ht : T.und t = some (.slice e)) (hi : T.info e = some i) (hs : src O H i.size x = some (n, new)) (ha : appOk i n new) (hn : 0 < n) (hn' : len + n ≤ 1073741824) (hl : off + len * i.size = l.length) :
    ∃ H', append T O H t (.slice (some ⟨b, off, some ver⟩) len unk) x = some (.slice (some ⟨b, off, some (ver + 1)⟩) (len + n) unk, H') ∧ St X H0 H' (L.set j (some b, .cells (ver + 1) (l ++ new) i.size e)) ∧ H.next ≤ H'.next := by
  obtain ⟨cs, p, h1, h2⟩ := hst.get hj
  have e0 : Nat.beq n 0 = false := by
    cases hb : Nat.beq n 0 with
    | false => rfl
    | true => have := Nat.eq_of_beq_eq_true hb; omega
  have e1 : Nat.blt 1073741824 (len + n) = false := by
    cases hb : Nat.blt 1073741824 (len + n) with
    | false => rfl
    | true => have := Nat.le_of_ble_eq_true hb; omega
  have e2 : Nat.beq unk unk = true := Nat.beq_refl _
  have e3 : (Nat.beq ver ver && Nat.beq i.size i.size && Nat.beq e e && Nat.beq (off + len * i.size) l.length) = true := by
    rw [hl]; simp only [Nat.beq_refl, Bool.and_self]
  refine ⟨⟨H.blks.put b (.cells (Tr.fill new l.length cs) (l.length + new.length) (ver + 1) (some l.length) i.size e), H.next⟩, ?_, ?_, Nat.le_refl _⟩
  · simp only [append, ht, hi, hs, ha.bif, cond_false, e0, e1, e2, cond_true, h1, e3]
  · refine hst.change hj ⟨Nat.le_refl _, fun c _ hc => Tr.get_put_ne _ _ (by simpa using hc)⟩ ⟨Tr.fill new l.length cs, some l.length, ?_, fun k y hk => ?_⟩
    · rw [List.length_append]; exact Tr.get_put_self _ _ _
    · rw [Tr.get_fill]
      by_cases hlt : k < l.length
      · rw [if_neg (by omega)]
        rw [List.getElem?_append_left hlt] at hk
        exact h2 k y hk
      · have hk' := (List.getElem?_eq_some_iff.1 hk).1
        rw [List.length_append] at hk'
        rw [if_pos ⟨by omega, by omega⟩]
        rw [List.getElem?_append_right (by omega)] at hk
        exact hk
def appTy (T : Tab) (u : Nat) : Bool :=
  match T.und u with
  | some (.int _) => false
  | some _ => true
  | none => false
theorem opW_append {H : Heap} {call : Ev.Call} {s x : Operand} {t u : Nat} {a b : Value} (hu : appTy T u = true) (hs : lk E s = some a) (hx : lk E x = some b) : opW T O call H (lk E) (.call { callee := .builtin .append, args := #[s, x], argTypes := #[t, u] }) = append T O H t a b := by
  unfold appTy at hu
  simp only [opW, hs, hx]
  cases h : T.und u with
  | none => rw [h] at hu; cases hu
  | some d => rw [h] at hu; cases d <;> first | rfl | (simp at hu; done) | (simp only [h])
theorem step_append_none {o : Oper} {s x : Operand} {t u e : Nat} {a b : Value} {i : TypeInfo} {new : List Value} {k : Value → Atoms → Prop} (ho : o.op = .call { callee := .builtin .append, args := #[s, x], argTypes := #[t, u] }) (hu : appTy T u = true) (hs : lk E s = some a) (hx : lk E x = some b)
    (ht : T.und t = some (.slice e)) (hi : T.info e = some i) (hsrc : ∀ H, St X H0 H L → src O H i.size b = some (0, new)) (ha : appOk i 0 new)
    (hv : a = .slice none 0 0 ∨ ∃ c len cap, a = .slice (some c) len cap ∧ (c.spot.isSome || Nat.ble len cap) = true) (h : k a L) : StepS T O X H0 E L o k :=
  step_w (by rw [ho]; rfl) fun H hst => ⟨_, _, _, by rw [ho, opW_append hu hs hx]; exact append_none ht hi (hsrc H hst) ha hv, hst, Nat.le_refl _, h⟩
theorem step_append_own {o : Oper} {s x : Operand} {t u e n c off ver len : Nat} {b : Value} {i : TypeInfo} {l new : List Value} {k : Value → Atoms → Prop} (j : Nat) (ho : o.op = .call { callee := .builtin .append, args := #[s, x], argTypes := #[t, u] }) (hu : appTy T u = true) (hs : lk E s = some (.slice (some ⟨c, off, some ver⟩) len unk)) (hx : lk E x = some b)
    (ht : T.und t = some (.slice e)) (hi : T.info e = some i) (hj : L[j]? = some (some c, .cells ver l i.size e)) (hsrc : ∀ H, St X H0 H L → src O H i.size b = some (n, new)) (ha : appOk i n new) (hn : 0 < n) (hn' : len + n ≤ 1073741824) (hl : off + len * i.size = l.length)
    (h : k (.slice (some ⟨c, off, some (ver + 1)⟩) (len + n) unk) (L.set j (some c, .cells (ver + 1) (l ++ new) i.size e))) : StepS T O X H0 E L o k :=
  step_w (by rw [ho]; rfl) fun H hst => by
    obtain ⟨H', h1, h2, h3⟩ := append_own (T := T) (O := O) hst hj ht hi (hsrc H hst) ha hn hn' hl
    exact ⟨_, _, _, by rw [ho, opW_append hu hs hx]; exact h1, h2, h3, h⟩
theorem src_own {H : Heap} {b ver n z ty j : Nat} {l : List Value} (hst : St X H0 H L) (hj : L[j]? = some (some b, .cells ver l z ty)) (hl : l.length = n * z) (cap : Nat) : src O H z (.slice (some ⟨b, 0, some ver⟩) n cap) = some (n, l) := (Sl.own hst hj hl cap).src
inductive OwnA (z ty : Nat) : Option Addr → Nat → Nat → List Value → Option Nat × Cont → Prop
  | nil (c : Cont) : OwnA z ty none 0 0 [] (none, c)
  | own {b ver n : Nat} {l : List Value} (hl : l.length = n * z) : OwnA z ty (some ⟨b, 0, some ver⟩) n unk l (some b, .cells ver l z ty)
theorem OwnA.sl {z ty n c i : Nat} {a : Option Addr} {l : List Value} {p : Option Nat × Cont} {H : Heap} (h : OwnA z ty a n c l p) (hst : St X H0 H L) (hi : L[i]? = some p) : Sl O H (.slice a n c) z n l := by
  cases h with
  | nil c => exact Sl.nil
  | own hl => exact Sl.own hst hi hl _
theorem OwnA.len {z ty n c : Nat} {a : Option Addr} {l : List Value} {p : Option Nat × Cont} (h : OwnA z ty a n c l p) : l.length = n * z := by
  cases h with
  | nil c => simp
  | own hl => exact hl
theorem step_append' {o : Oper} {s x : Operand} {t u e n m c : Nat} {a : Option Addr} {b : Value} {i : TypeInfo} {l new : List Value} {p : Option Nat × Cont} {k : Value → Atoms → Prop} (j : Nat) (ho : o.op = .call { callee := .builtin .append, args := #[s, x], argTypes := #[t, u] }) (hu : appTy T u = true) (hs : lk E s = some (.slice a n c)) (hx : lk E x = some b)
    (ht : T.und t = some (.slice e)) (hi : T.info e = some i) (hj : L[j]? = some p) (hown : OwnA i.size e a n c l p) (hsrc : ∀ H, St X H0 H L → src O H i.size b = some (m, new)) (ha : appOk i m new) (hn' : n + m ≤ 1073741824)
    (h : ∀ a' c' p', OwnA i.size e a' (n + m) c' (l ++ new) p' → k (.slice a' (n + m) c') (L.set j p')) : StepS T O X H0 E L o k := by
  have hlen : new.length = m * i.size := ha.2.2.2.2
  have hset : L.set j p = L := by
    apply List.ext_getElem?
    intro q
    rw [List.getElem?_set]
    by_cases hq : j = q
    · subst hq
      rw [if_pos rfl, if_pos (List.getElem?_eq_some_iff.1 hj).1, hj]
    · rw [if_neg hq]
  by_cases hm : m = 0
  · subst hm
    have hnew : new = [] := by simpa using hlen
    subst hnew
    have hk := h a c p (by simpa using hown)
    rw [hset, Nat.add_zero] at hk
    refine step_append_none ho hu hs hx ht hi hsrc ha ?_ hk
    cases hown with
    | nil c => exact .inl rfl
    | own hl => exact .inr ⟨_, _, _, rfl, rfl⟩
  · cases hown with
    | nil c0 =>
      refine step_w (by rw [ho]; rfl) fun H hst => ?_
      have hk := h (some ⟨H.next, 0, some 0⟩) unk (some H.next, .cells 0 new i.size e) (by rw [Nat.zero_add]; exact .own hlen)
      rw [Nat.zero_add] at hk
      exact ⟨_, _, _, by rw [ho, opW_append hu hs hx]; exact append_nil ht hi (hsrc H hst) ha (by omega) (by omega), hst.put hj (.inr ⟨rfl, Nat.le_refl _⟩) (Nat.lt_succ_self _) ((ext_new _ _).to) (has_newCells _ _ _ _), Nat.le_succ _, hk⟩
    | own hl =>
      rename_i bb ver
      refine step_append_own j ho hu hs hx ht hi hj hsrc ha (by omega) hn' (by omega) (h _ _ _ (.own ?_))
      rw [List.length_append, hl, hlen, Nat.add_mul]
def appOkB (i : TypeInfo) : Bool := Nat.ble 1 i.size && Nat.ble i.bytes 65536 && zeroOk i
theorem appOk.of {i : TypeInfo} {n : Nat} {new : List Value} (h : appOkB i = true) (h1 : new.all isCell = true) (h2 : new.length = n * i.size) : appOk i n new := by
  simp only [appOkB, Bool.and_eq_true] at h
  exact ⟨h1, Nat.le_of_ble_eq_true h.1.1, Nat.le_of_ble_eq_true h.1.2, h.2, h2⟩
theorem step_append {o : Oper} {s x : Operand} {t u e n m c : Nat} {a : Option Addr} {b : Value} {i : TypeInfo} {l new : List Value} {p : Option Nat × Cont} {k : Value → Atoms → Prop} (j z : Nat) (ho : o.op = .call { callee := .builtin .append, args := #[s, x], argTypes := #[t, u] }) (hu : appTy T u = true) (hs : lk E s = some (.slice a n c)) (hx : lk E x = some b)
    (ht : T.und t = some (.slice e)) (hi : T.info e = some i) (hz : i.size = z) (hj : L[j]? = some p) (hown : OwnA z e a n c l p) (hsrc : ∀ H, St X H0 H L → src O H z b = some (m, new)) (hb : appOkB i = true) (hall : new.all isCell = true) (hlen : new.length = m * z) (hn' : n + m ≤ 1073741824)
    (h : ∀ a' c' p', OwnA z e a' (n + m) c' (l ++ new) p' → k (.slice a' (n + m) c') (L.set j p')) : StepS T O X H0 E L o k := by
  subst hz
  exact step_append' j ho hu hs hx ht hi hj hown hsrc (appOk.of hb hall hlen) hn' h
theorem allCell_map {α : Type} {f : α → Value} (hf : ∀ x, isCell (f x) = true) (l : List α) : (l.map f).all isCell = true := by
  simp only [List.all_map, List.all_eq_true]
  intro x _
  exact hf x
theorem look_cut0 {t e z n c h : Nat} {x : Operand} {lo hi : Option Operand} {vl vh : Option Value} {a : Option Addr} {cs : List Value} {i j : Int} (hx : lk E x = some (.slice a n c)) (hlo : optV (lk E) lo = some vl) (hhi : optV (lk E) hi = some vh) (h1 : numO 0 vl = some i) (hi' : i = 0) (h2 : numO n vh = some j) (hj' : j = h)
    (hs : ∀ H, St X H0 H L → Sl O H (.slice a n c) z n cs) (ht : T.und t = some (.slice e)) (hz : T.size e = some z) (hh : h ≤ n) :
    ∀ H, St X H0 H L → opL T O H (lk E) (.slice t x lo hi none) = some (.slice (cutAddr a z c 0) h (cutCap' a c 0)) :=
  look_cut (l := 0) hx hlo hhi h1 (by omega) h2 hj' hs ht hz (Nat.zero_le _) hh
theorem Sl.cutM0 {α : Type} {f : α → Value} {H : Heap} {a : Option Addr} {n c h : Nat} {cs : List α} (hs : Sl O H (.slice a n c) 1 n (cs.map f)) (hh : h ≤ n) :
    Sl O H (.slice (cutAddr a 1 c 0) h (cutCap' a c 0)) 1 h ((cs.take h).map f) := hs.cutM (Nat.zero_le h) hh
theorem Sl.cast {H : Heap} {v : Value} {z n n' : Nat} {cs cs' : List Value} (h : Sl O H v z n cs) (e : cs = cs') (en : n = n') : Sl O H v z n' cs' := en ▸ e ▸ h
theorem ExecS.ghost {c : Code} {Q : Ex → Env → Atoms → Prop} (h : ExecS T O X H0 N c E ((none, .map []) :: L) Q) : ExecS T O X H0 N c E L Q :=
  .mk fun H hs τ ht => h.run H (hs.ghost _) τ ht
theorem tmodN {a b : Int} {m : Nat} (h0 : 0 ≤ a) (hb : b = (m : Int)) : a.tmod b = ((a.toNat % m : Nat) : Int) := by
  obtain ⟨n, rfl⟩ := Int.eq_ofNat_of_zero_le h0
  subst hb
  simp [Int.tmod]
theorem tdivN {a b : Int} {m : Nat} (h0 : 0 ≤ a) (hb : b = (m : Int)) : a.tdiv b = ((a.toNat / m : Nat) : Int) := by
  obtain ⟨n, rfl⟩ := Int.eq_ofNat_of_zero_le h0
  subst hb
  simp [Int.tdiv]
theorem look_strS {n c src dst e : Nat} {x : Operand} {a : Option Addr} {cs : List Value} {r : List UInt8} (hx : lk E x = some (.slice a n c)) (h : ∀ H, St X H0 H L → Sl O H (.slice a n c) 1 n cs) (hs : T.und src = some (.slice e)) (hd : T.und dst = some .string) (he : T.und e = some (.int .u8)) (hb : bytesOf cs = some r) :
    ∀ H, St X H0 H L → opL T O H (lk E) (.convert src dst x) = some (.string ⟨⟨r⟩⟩) := by
  intro H hst
  rcases (h H hst).2 with ⟨e0, hn⟩ | ⟨b, off, s, cap, e0, h2, _⟩
  · cases e0
    have hcs : cs = [] := by have := (h H hst).1; simp at this; exact this
    subst hcs
    cases hb
    simp only [opL, hx, convV, hs, hd, he]
  · cases e0
    rw [Nat.mul_one] at h2
    simp only [opL, hx, convV, hs, hd, he, h2, hb]
theorem wrL_one {v : Value} {i : Nat} {l : List Value} (hv : isCell v = true) (hi : i < l.length) : wrL [v] i l = some (l.set i v) := by
  have : Nat.blt i l.length = true := Nat.ble_eq_true_of_le hi
  simp only [wrL, hv, this, Bool.and_self, cond_true]
theorem OwnA.inv {z ty n c : Nat} {a : Option Addr} {l : List Value} {p : Option Nat × Cont} (h : OwnA z ty a n c l p) (hn : 0 < n) : ∃ b ver, a = some ⟨b, 0, some ver⟩ ∧ c = unk ∧ p = (some b, .cells ver l z ty) ∧ l.length = n * z := by
  cases h with
  | nil c => omega
  | own hl => exact ⟨_, _, rfl, rfl, rfl, hl⟩
theorem OwnA.slM {z ty n c : Nat} {a : Option Addr} {l : List Value} {p : Option Nat × Cont} {H : Heap} (h : OwnA z ty a n c l p) (hst : St X H0 H L) (hi : p ∈ L) : Sl O H (.slice a n c) z n l := by
  obtain ⟨i, hi⟩ := List.getElem?_of_mem hi
  exact h.sl hst hi
def partPtr (v : Value) (o : Nat) : Value :=
  match v with
  | .slice (some ⟨b, off, s⟩) _ _ => .pointer (some ⟨b, off + o, s⟩)
  | _ => .pointer none
def partOf (T : Tab) (t j : Nat) : Option Nat :=
  match T.und t with
  | some (.struct fields) => match fields.toList[j]? with
    | none => none
    | some f => match T.size f.type with
      | some (_ + 1) => some f.offset
      | _ => none
  | _ => none
theorem Sl.part {H : Heap} {v : Value} {z n t i j o : Nat} {cs : List Value} (h : Sl O H v z n cs) (hi : i < n) (ho : partOf T t j = some o) : fieldAt T t (elemPtr v z i) j = some (partPtr v (i * z + o)) := by
  unfold partOf at ho
  rcases h.2 with ⟨rfl, rfl⟩ | ⟨b, off, s, cap, rfl, _⟩
  · omega
  · simp only [elemPtr, fieldAt, partPtr]
    split at ho
    · rename_i fields hu
      rw [hu]
      simp only
      split at ho
      · cases ho
      · rename_i f hf
        rw [hf]
        simp only
        split at ho
        · rename_i m hm
          cases ho
          rw [hm]
          simp only [Nat.add_assoc]
        · cases ho
    · cases ho
end
end Go.Ev.Wk
namespace Go.Ev.Wk
def goodC : Value → Bool
  | .bool _ | .int _ _ | .string _ | .pointer _ | .slice _ _ _ | .map _ | .chan _ | .nilFunc | .nilIface | .complex _ _ _ => true
  | _ => false
def goodL : List Value → Bool
  | [] => true
  | x :: l => bif goodC x then goodL l else false
def goodV : Value → Bool
  | .agg a => goodL a.toList
  | .tuple a => goodL a.toList
  | x => goodC x
theorem veqC_refl {x : Value} (h : goodC x = true) : veqC x x = true := by
  cases x <;> simp [goodC] at h <;> simp [veqC]
theorem veqL_refl : ∀ {l : List Value}, goodL l = true → veqL l l = true
  | [], _ => rfl
  | x :: l, h => by
    simp only [goodL] at h
    cases hx : goodC x with
    | false => rw [hx] at h; cases h
    | true =>
      rw [hx, cond_true] at h
      simp only [veqL, veqC_refl hx, veqL_refl h, Bool.and_self]
theorem veq_refl {x : Value} (h : goodV x = true) : veq x x = true := by
  cases x
  case agg a => simp only [veq]; exact veqL_refl h
  case tuple a => simp only [veq]; exact veqL_refl h
  case func f a b => simp [goodV, goodC] at h
  case iface t v => simp [goodV, goodC] at h
  case float k b => simp [goodV, goodC] at h
  all_goals first | (simp [goodV, goodC] at h; done) | (simp only [veq]; exact veqC_refl rfl)
theorem wrap_id (k : IntKind) {n : Int} (h1 : k.min ≤ n) (h2 : n ≤ k.max) : k.wrap n = n := by
  cases k <;> simp only [IntKind.min, IntKind.max, IntKind.signed, IntKind.bits, IntKind.wrap] at * <;> simp at * <;> omega
theorem w64 {m n : Int} (h : m = n) (h1 : -9223372036854775808 ≤ n) (h2 : n ≤ 9223372036854775807) : IntKind.i64.wrap m = n := by
  subst h
  exact wrap_id .i64 (by simpa [IntKind.min, IntKind.signed, IntKind.bits] using h1) (by simpa [IntKind.max, IntKind.signed, IntKind.bits] using h2)
theorem w8 {m n : Int} (h : m = n) (h1 : 0 ≤ n) (h2 : n ≤ 255) : IntKind.u8.wrap m = n := by
  subst h
  exact wrap_id .u8 (by simpa [IntKind.min, IntKind.signed, IntKind.bits] using h1) (by simpa [IntKind.max, IntKind.signed, IntKind.bits] using h2)
section
variable {T : Tab} {O : Old} {X : List Nat} {H0 : Heap} {N : Nat} {E : Env} {L : Atoms}
theorem opP_idx {t z n e : Nat} {x i : Operand} {v : Value} {kd : IntKind} {j : Int} {cs : List Value} {H : Heap} (hx : lk E x = some v) (hi : lk E i = some (.int kd j)) (h : Sl O H v z n cs) (ht : T.und t = some (.slice e)) (hz : T.size e = some z) (h0 : 0 ≤ j) (h1 : j < n) :
    opP T (lk E) (.indexAddr t x i) = some (elemPtr v z j.toNat) := by
  simp only [opP, hx, hi]; exact h.idx ht hz h0 h1
theorem opP_idxo {t z n e c b off : Nat} {s : Option Nat} {x i : Operand} {kd : IntKind} {j : Int} (hx : lk E x = some (.slice (some ⟨b, off, s⟩) n c)) (hi : lk E i = some (.int kd j)) (ht : T.und t = some (.slice e)) (hz : T.size e = some z) (h0 : 0 ≤ j) (h1 : j < n) :
    opP T (lk E) (.indexAddr t x i) = some (.pointer (some ⟨b, off + j.toNat * z, s⟩)) := by
  simp only [opP, hx, hi, indexAt, ht, hz]
  rw [if_pos ⟨h0, by omega⟩]
inductive PL (T : Tab) (O : Old) (X : List Nat) (H0 : Heap) (E : Env) (L : Atoms) (o : Oper) (v : Value) : Prop
  | p (hc : cls T o.op = .p) (hv : opP T (lk E) o.op = some v)
  | l (hc : cls T o.op = .l) (hv : ∀ H, St X H0 H L → opL T O H (lk E) o.op = some v)
theorem ops_pl {all l : List Oper} {o : Oper} {v : Value} {Q : Env → Atoms → Prop} (hw : wantedE all E o = some true) {d : Option Nat} (hdd : seeO o.dst = some d) (hd : dstOk N d = true) (h : PL T O X H0 E L o v) {E' : Env} (hE : putN d v E = some E') (k : OpsS T O X H0 N all l E' L Q) : OpsS T O X H0 N all (o :: l) E L Q :=
  ops_step hw hdd hd (by obtain rfl := putN_eq hE; exact match h with | .p hc hv => step_p hc hv k | .l hc hv => step_l hc hv k)
def pendPL (T : Tab) (j : Nat) (E : Env) (o : Oper) (v : Value) (pend : List PendE) : Option (List PendE) :=
  match cls T o.op with
  | .l => some (⟨j, E, o.op, v⟩ :: pend)
  | _ => some pend
theorem draw_pl {all : List Oper} {ms : Tr Nat} {full j m : Nat} {lst : List (Nat × Nat)} {o : Oper} {pend pend' : List PendE} {v : Value} {Q : Env → Atoms → Prop}
    (hj : all[j]? = some o) (hw : wantedE all E o = some true) {d : Option Nat} (hdd : seeO o.dst = some d) (hd : dstOk N d = true) (hp : PL T O X H0 E L o v) {E' : Env} (hE : putN d v E = some E') (hpd : pendPL T j E o v pend = some pend')
    (h : DrawS T O X H0 N all ms full lst pend' E' L Q) : DrawS T O X H0 N all ms full ((j, m) :: lst) pend E L Q := by
  obtain rfl := putN_eq hE
  refine draw_one hj hw hdd hd ?_
  cases hp with
  | p hc hv =>
    simp only [pendPL, hc, Option.some.injEq] at hpd
    subst hpd
    exact step_p hc hv ⟨⟨fun e => (nomatch (hc.symm.trans e)), fun e => (nomatch (hc.symm.trans e))⟩, by simp only [pendOf, hc]; exact h⟩
  | l hc hv =>
    simp only [pendPL, hc, Option.some.injEq] at hpd
    subst hpd
    exact step_l hc hv ⟨⟨fun e => (nomatch (hc.symm.trans e)), fun e => (nomatch (hc.symm.trans e))⟩, by simp only [pendOf, hc]; exact h⟩
theorem PL.num {o : Oper} {kd : IntKind} {m n : Int} (hc : cls T o.op = .p) (hv : opP T (lk E) o.op = some (.int kd m)) (he : m = n) : PL T O X H0 E L o (.int kd n) := .p hc (he ▸ hv)
theorem PL.numL {o : Oper} {kd : IntKind} {m n : Int} (hc : cls T o.op = .l) (hv : ∀ H, opL T O H (lk E) o.op = some (.int kd m)) (he : m = n) : PL T O X H0 E L o (.int kd n) := .l hc fun H _ => he ▸ hv H
theorem PL.bool {o : Oper} {a b : Bool} (hc : cls T o.op = .p) (hv : opP T (lk E) o.op = some (.bool a)) (he : a = b) : PL T O X H0 E L o (.bool b) := .p hc (he ▸ hv)
theorem step_call_bool {o : Oper} {f : Operand} {xa : Array Operand} {ts : Array TypeId} {g : Nat} {a b : Array Value} {l : List Value} {r : Bool} {k : Value → Atoms → Prop} (ho : o.op = .call { callee := .value f, args := xa, argTypes := ts })
    (hf : lk E f = some (.func (.func g) a b)) (hx : args (lk E) xa.toList = some l)
    (h : ∀ H, St X H0 H L → CallC T O g (a.toList ++ l ++ b.toList) H fun v H' => v = .bool r ∧ Ext H H') (h1 : r = true → k (.bool true) L) (h2 : r = false → k (.bool false) L) : StepS T O X H0 E L o k :=
  step_call_pure ho hf hx h (match r, h1, h2 with | true, h1, _ => h1 rfl | false, _, h2 => h2 rfl)
theorem PL.bld {o : Oper} {t : Nat} {ps : Array (Nat × Operand)} {pl : List (Nat × Value)} {cs : Array Value} {c : List Value} (ho : o.op = .build t ps) (hp : parts (lk E) ps.toList = some pl) (hb : build T t pl = some (.agg cs)) (hc : normL cs.toList = some c) : PL T O X H0 E L o (.agg c.toArray) := by
  obtain rfl := normL_eq hc
  refine .p (by rw [ho]; rfl) ?_
  rw [ho]
  simp only [opP, hp, hb]
theorem PL.neSelf {o : Oper} {t yt : Nat} {x y : Operand} {b : Bool} (ho : o.op = .binOp .neq t x y yt) (hx : lk E x = some (.bool b)) (hy : lk E y = some (.bool b)) (ht : T.und t = some .bool) : PL T O X H0 E L o (.bool false) := by
  refine .p (by rw [ho]; rfl) ?_
  rw [ho]
  simp only [opP, hx, hy, binV, numish, cond_false, eqV, ht, eqCell, beq_self_eq_true, Bool.not_true]
theorem PL.eqSelf {o : Oper} {t yt : Nat} {x y : Operand} {b : Bool} (ho : o.op = .binOp .eql t x y yt) (hx : lk E x = some (.bool b)) (hy : lk E y = some (.bool b)) (ht : T.und t = some .bool) : PL T O X H0 E L o (.bool true) := by
  refine .p (by rw [ho]; rfl) ?_
  rw [ho]
  simp only [opP, hx, hy, binV, numish, cond_false, eqV, ht, eqCell, beq_self_eq_true]
theorem PL.wr64 {o : Oper} {m : Int} (hc : cls T o.op = .p) (hv : opP T (lk E) o.op = some (.int .i64 (IntKind.i64.wrap m))) (h1 : -9223372036854775808 ≤ m) (h2 : m ≤ 9223372036854775807) : PL T O X H0 E L o (.int .i64 m) := .num hc hv (w64 rfl h1 h2)
theorem PL.wr8 {o : Oper} {m : Int} (hc : cls T o.op = .p) (hv : opP T (lk E) o.op = some (.int .u8 (IntKind.u8.wrap m))) (h1 : 0 ≤ m) (h2 : m ≤ 255) : PL T O X H0 E L o (.int .u8 m) := .num hc hv (w8 rfl h1 h2)
theorem PL.cv64 {o : Oper} {m : Int} (hc : cls T o.op = .l) (hv : ∀ H, opL T O H (lk E) o.op = some (.int .i64 (IntKind.i64.wrap m))) (h1 : -9223372036854775808 ≤ m) (h2 : m ≤ 9223372036854775807) : PL T O X H0 E L o (.int .i64 m) := .numL hc hv (w64 rfl h1 h2)
theorem PL.cv8 {o : Oper} {m : Int} (hc : cls T o.op = .l) (hv : ∀ H, opL T O H (lk E) o.op = some (.int .u8 (IntKind.u8.wrap m))) (h1 : 0 ≤ m) (h2 : m ≤ 255) : PL T O X H0 E L o (.int .u8 m) := .numL hc hv (w8 rfl h1 h2)
theorem getMap {α β : Type} {f : α → β} {l : List α} {i : Nat} {j : Int} (h : i < l.length) (hj : j = i) : (l.map f)[j.toNat]? = some (f l[i]) := by
  subst hj; simp [h]
end
theorem call_prim {T : Tab} {O : Old} {f : Nat} {p : (Addr → Option Value) → List Value → Heap → Option (Value × Heap)} {l : List Value} {H H' : Heap} {v : Value} {Q : Value → Heap → Prop} (hp : T.prim f = some p) (h : p O l H = some (v, H')) (hn : H.next ≤ H'.next) (hq : Q v H') : CallC T O f l H Q :=
  ⟨0, 1, v, H', (by simp only [evalCall, hp]; exact h), hn, hq⟩
theorem holds_walk {T : Tab} {P : Program} (ok : T.Ok P) (hm : P.follows .mixedOrders = true) (hname : ∀ f x, T.fn f = some x → (x.name == "runtime.NumGoroutine") = false) {w0 : World} (hprim : PrimOk T P w0) {f : Nat} {fn : Func} {l : List Value} (hf : T.fn f = some fn) (hb : fn.body.isNone = false) (hp : T.prim f = none)
    (hl : l.all closedC = true) (h : CallC T w0.cell? f l .empty fun v _ => v = .bool true) : Holds P f l w0 := by
  obtain ⟨lf, k, h⟩ := call_true h
  exact holds_of (lf := lf) (k := k) ok hm hname hprim hf hb hp hl h
end Go.Ev.Wk
namespace Go.Ev.Wk
open Go.ChangeShapes Go.WideShapes Go.ChangeAt Go.RowKit
abbrev str (l : List UInt8) : Value := .string ⟨⟨l⟩⟩
section
variable {H : Type} {enc : TypeId × Value → H} {P : Program} {W W' : World}
theorem trodAll_stays (hl : laidOutB P = true) (hst : Stays W W') {sp : Nat → Bool} : ∀ {ts : List TypeId} {vs : List Value} {ds : List (DataW H)} {ps : List MemPlace}, (ts.all fun t => P.readableRec t && decide (t < P.types.size)) = true →
    DataW.TrodAll enc P W 0 (fun _ => true) true ts vs ds ps → (∀ p ∈ ps, p.block < W.heap.size) → (∀ p ∈ ps, sp p.block = true) → DataW.TrodAll enc P W' 0 sp true ts vs ds ps
  | [], vs, ds, ps, _, h, _, _ => by
    obtain ⟨rfl, rfl, rfl⟩ := trodAll_nil h
    rfl
  | t :: ts, vs, ds, ps, hr, h, hlt, hs => by
    obtain ⟨v, vs', d, ds', p, q, rfl, rfl, rfl, h1, h2⟩ := trodAll_cons h
    simp only [List.all_cons, Bool.and_eq_true, decide_eq_true_eq] at hr
    refine ⟨p, q, ?_, trodAll_stays hl hst hr.2 h2 (fun x hx => hlt x (by simp [hx])) (fun x hx => hs x (by simp [hx])), rfl⟩
    refine WideElems.Trod_stays hl hr.1.1 hr.1.2 h1 (fun x hx => ?_) (fun x hx => hs x (by simp [hx]))
    have := hst.1 x.block (hlt x (by simp [hx]))
    cases x with
    | cell b o => simp only [World.sameAt]; simp only [MemPlace.block] at this; simp [World.cell?, this]
    | map b => simp only [World.sameAt]; simp only [MemPlace.block] at this; rw [this]
theorem okWide_spot {t e : TypeId} {base : Nat} {r : Reach} {a : Addr} {len cap : Nat} (ht : P.underlying t = some (.slice e)) (h : Value.okWide P W r base t (.slice (some a) len cap)) : a.spot = none := by
  simp only [Value.okWide, ht, Cell.okWide, Cell.ok] at h
  exact h.2.2.2.1
theorem sl_old {a : Addr} {len cap : Nat} {cs : List Value} (hsp : a.spot = none) (hle : len ≤ cap) (hl : cs.length = len) (hc : ∀ i v, cs[i]? = some v → W.cell? (a.add i) = some v ∧ flat v = true) : ∀ H, Sl W.cell? H (.slice (some a) len cap) 1 len cs := by
  intro H
  obtain ⟨b, off, s⟩ := a
  simp only at hsp
  subst hsp
  refine ⟨by omega, .inr ⟨b, off, none, cap, rfl, rdN_of_get (by omega) fun i v hv => ?_, fun _ => hle, fun ver h => by cases h⟩⟩
  obtain ⟨h1, h2⟩ := hc i v hv
  have e : (⟨b, off, none⟩ : Addr).add i = ⟨b, off + i, none⟩ := by
    simp only [Addr.add]
    split
    · rename_i h0; subst h0; rfl
    · rfl
  rw [e] at h1
  simp only [rd, h1, keepFlat, h2, cond_true]
theorem arg_ints {t e : TypeId} {k : IntKind} {v : Value} {d : DataW H} {ps : List MemPlace} {sp : Nat → Bool} {held : Bool} (ht : P.underlying t = some (.slice e)) (he : P.underlying e = some (.int k)) (hc : P.cellsOf e = 1) (hv : Value.okWide P W .any 0 t v) (h : DataW.Trod enc P W 0 sp held t v d ps) :
    ∃ (a : Option Addr) (n c : Nat) (l : List Int), v = .slice a n c ∧ l.length = n ∧ flat (.slice a n c) = true ∧ (∀ H, Sl W.cell? H (.slice a n c) 1 n (l.map (.int k))) ∧ ∀ x ∈ l, (Lit.int k x).wf = true := by
  obtain ⟨a, n, c, rfl⟩ := okWide_slice ht hv
  obtain ⟨fuel, hf⟩ := h
  rcases open_ints ht he hc hf with ⟨hcs, hx⟩ | ⟨a', len, cap, zs, hcs, _, hle, hm, hz, hx, hcell, hwf⟩
  · have hcs : [Value.slice a n c] = [.slice none 0 0] := hcs
    cases hcs
    exact ⟨none, 0, 0, [], rfl, rfl, rfl, fun H => Sl.nil, fun x hx => by cases hx⟩
  · have hcs : [Value.slice a n c] = [.slice (some a') len cap] := hcs
    cases hcs
    have hsp := okWide_spot ht hv
    have hlen : n ≤ zs.length := by rw [hz]; split <;> omega
    refine ⟨some a', n, c, zs.take n, rfl, by simp [hlen], by simp [flat, hsp], ?_, ?_⟩
    · refine sl_old hsp hle (by simp [hlen]) fun i v hv => ?_
      simp only [List.getElem?_map, Option.map_eq_some_iff] at hv
      obtain ⟨s, hs, rfl⟩ := hv
      have hi : i < n := by
        have := (List.getElem?_eq_some_iff.1 hs).1
        rw [List.length_take] at this; omega
      rw [List.getElem?_take, if_pos hi] at hs
      refine ⟨?_, rfl⟩
      rw [hcell i (by omega), List.getD, hs]
      rfl
    · intro x hx
      exact hwf x (List.mem_of_mem_take hx)
theorem allC_cons {x : Value} {l : List Value} (h : closedC x = true) (t : l.all closedC = true) : (x :: l).all closedC = true := by
  simp only [List.all_cons, h, t, Bool.and_self]
theorem wf_u8 {n : Int} (h : (Lit.int .u8 n).wf = true) : 0 ≤ n ∧ n ≤ 255 := by
  simp only [Lit.wf, Bool.and_eq_true, decide_eq_true_eq] at h
  simpa [IntKind.min, IntKind.max, IntKind.signed, IntKind.bits] using h
end
end Go.Ev.Wk
namespace Go.Ev.Wk
section
variable {T : Tab} {O : Old} {X : List Nat} {H0 : Heap} {N : Nat} {E : Env} {L : Atoms}
def SlX (X : List Nat) (O : Old) (H : Heap) (v : Value) (z n : Nat) (cs : List Value) : Prop := ∀ H', ExtBut X H H' → Sl O H' v z n cs
theorem SlX.at {H : Heap} {v : Value} {z n : Nat} {cs : List Value} (h : SlX X O H0 v z n cs) (hs : St X H0 H L) : Sl O H v z n cs := h H hs.ext
theorem SlX.old {H : Heap} {v : Value} {z n : Nat} {cs : List Value} (h : ∀ H, Sl O H v z n cs) : SlX X O H v z n cs := fun H' _ => h H'
theorem Sl.toX {H : Heap} {v : Value} {z n : Nat} {cs : List Value} (h : Sl O H v z n cs) : SlX [] O H v z n cs := fun H' e => h.ext e
theorem SlX.mono {Y : List Nat} {H H' : Heap} {v : Value} {z n : Nat} {cs : List Value} (h : SlX X O H v z n cs) (e : ExtBut Y H H') (hy : ∀ b ∈ Y, b ∈ X) : SlX X O H' v z n cs := fun H'' e' => h H'' ((e.mono hy).trans e')
theorem SlX.own {H : Heap} {z ty n c i j rb : Nat} {a : Option Addr} {l : List Value} {p : Option Nat × Cont} {ct : Cont} (h : OwnA z ty a n c l p) (hst : St X H0 H L) (hi : L[i]? = some p) (hj : L[j]? = some (some rb, ct)) (hij : i ≠ j) : SlX [rb] O H (.slice a n c) z n l := by
  intro H' e
  have h0 : Sl O H (.slice a n c) z n l := h.sl hst hi
  cases h with
  | nil c => exact Sl.nil
  | own hl =>
    rename_i b ver
    have hb : b ≠ rb := by
      rintro rfl
      exact hij (nodup_inj hst.nodup hi hj)
    have hlt := (hst.own _ _ (List.mem_of_getElem? hi)).2
    have hc : Has H' b (.cells ver l z ty) := (hst.get hi).congr (e.same b hlt (by simpa using hb))
    refine ⟨hl, .inr ⟨b, 0, some ver, unk, rfl, ?_, fun h => (by cases h), fun ver' _ => ⟨Nat.lt_of_lt_of_le hlt e.next, ?_⟩⟩⟩
    · rw [← hl]; exact hc.rdN (rdL_full l)
    · obtain ⟨cs, q, h1, _⟩ := hc
      simp only [eszOf, h1]
theorem SlX.cut {H : Heap} {a : Option Addr} {n c z l h : Nat} {cs : List Value} (hs : SlX X O H (.slice a n c) z n cs) (hl : l ≤ h) (hh : h ≤ n) :
    SlX X O H (.slice (cutAddr a z c l) (h - l) (cutCap' a c l)) z (h - l) ((cs.drop (l * z)).take ((h - l) * z)) := fun H' e => (hs H' e).cut hl hh
theorem St.one {H : Heap} {rb : Nat} {c : Cont} (h : Has H rb c) (hb : rb < H.next) : St [rb] H H [(some rb, c)] where
  ext := ExtBut.refl _ _
  has := fun b c' hm => by
    simp only [List.mem_singleton, Prod.mk.injEq, Option.some.injEq] at hm
    obtain ⟨rfl, rfl⟩ := hm
    exact h
  own := fun b c' hm => by
    simp only [List.mem_singleton, Prod.mk.injEq, Option.some.injEq] at hm
    obtain ⟨rfl, rfl⟩ := hm
    exact ⟨.inr (by simp), hb⟩
  nodup := List.pairwise_singleton _ _
theorem call_mut {f : Nat} {fn : Func} {c : Code} {l : List Value} {E0 : Env} {H : Heap} {rb : Nat} {ct : Cont} {Q : Value → Cont → Prop} (hp : T.prim f = none) (hf : T.fn f = some fn) (hb : fn.body = some c) (hn : Nat.ble l.length fn.ntmps = true) (he : enumN l 0 = some E0)
    (hh : Has H rb ct) (hlt : rb < H.next) (h : ExecS T O [rb] H fn.ntmps c E0 [(some rb, ct)] (endS fn.results.toList fun v L' => ∃ ct', (some rb, ct') ∈ L' ∧ Q v ct')) :
    CallC T O f l H fun v H' => ∃ ct', ExtBut [rb] H H' ∧ Has H' rb ct' ∧ Q v ct' :=
  (call_intro hp hf hb hn (St.one hh hlt) he h).mono fun v H' ⟨L', h1, ct', h2, h3⟩ => ⟨ct', h1.ext, h1.has _ _ h2, h3⟩
theorem step_call_mut {o : Oper} {f : Operand} {xa : Array Operand} {ts : Array TypeId} {g rb : Nat} {a b : Array Value} {l : List Value} {ct : Cont} {R : Value → Cont → Prop} {k : Value → Atoms → Prop} (i : Nat) (ho : o.op = .call { callee := .value f, args := xa, argTypes := ts })
    (hf : lk E f = some (.func (.func g) a b)) (hx : args (lk E) xa.toList = some l) (hi : L[i]? = some (some rb, ct))
    (h : ∀ H, St X H0 H L → Has H rb ct → rb < H.next → CallC T O g (a.toList ++ l ++ b.toList) H fun v H' => ∃ ct', ExtBut [rb] H H' ∧ Has H' rb ct' ∧ R v ct')
    (hk : ∀ v ct', R v ct' → k v (L.set i (some rb, ct'))) : StepS T O X H0 E L o k :=
  step_call ho hf hx fun H hs => (h H hs (hs.get hi) (hs.own _ _ (List.mem_of_getElem? hi)).2).mono fun v H' ⟨ct', h1, h2, h3⟩ => ⟨_, hs.change hi h1 h2, hk v ct' h3⟩
def blkOf (p : Option Nat × Cont) : List Nat := p.1.toList
def Became (H H' : Heap) (p p' : Option Nat × Cont) : Prop := ExtBut (blkOf p) H H' ∧ ∀ b, p'.1 = some b → (p.1 = some b ∨ H.next ≤ b) ∧ b < H'.next ∧ Has H' b p'.2
theorem St.became {H H' : Heap} (h : St X H0 H L) {i : Nat} {p p' : Option Nat × Cont} (hi : L[i]? = some p) (hb : Became H H' p p') : St X H0 H' (L.set i p') := by
  obtain ⟨e, hp'⟩ := hb
  have get : ∀ j q, (L.set i p')[j]? = some q → (j = i ∧ q = p') ∨ (j ≠ i ∧ L[j]? = some q) := by
    intro j q hj
    rw [List.getElem?_set] at hj
    by_cases hij : i = j
    · rw [if_pos hij] at hj
      split at hj
      · cases hj; exact .inl ⟨hij.symm, rfl⟩
      · cases hj
    · rw [if_neg hij] at hj
      exact .inr ⟨fun e => hij e.symm, hj⟩
  have notin : ∀ j x y, j ≠ i → L[j]? = some (some x, y) → x ∉ blkOf p := by
    intro j x y hji hj hm
    obtain ⟨p1, p2⟩ := p
    simp only [blkOf, Option.mem_toList, Option.mem_def] at hm
    subst hm
    exact hji (nodup_inj h.nodup hj hi)
  refine ⟨⟨Nat.le_trans h.ext.next e.next, fun x hx hX => ?_⟩, fun x y hm => ?_, fun x y hm => ?_, pairwise_of_inj ?_⟩
  · have : x ∉ blkOf p := by
      intro hm
      obtain ⟨p1, p2⟩ := p
      simp only [blkOf, Option.mem_toList, Option.mem_def] at hm
      subst hm
      rcases (h.own _ _ (List.mem_of_getElem? hi)).1 with h1 | h1
      · omega
      · exact hX h1
    rw [e.same x (Nat.lt_of_lt_of_le hx h.ext.next) this]
    exact h.ext.same x hx hX
  · obtain ⟨j, hj⟩ := List.getElem?_of_mem hm
    rcases get j _ hj with ⟨_, e1⟩ | ⟨hji, hj⟩
    · subst e1; exact (hp' x rfl).2.2
    · have hm' := List.mem_of_getElem? hj
      exact (h.has x y hm').congr (e.same _ (h.own x y hm').2 (notin j x y hji hj))
  · obtain ⟨j, hj⟩ := List.getElem?_of_mem hm
    rcases get j _ hj with ⟨_, e1⟩ | ⟨hji, hj⟩
    · subst e1
      obtain ⟨h1, h2, _⟩ := hp' x rfl
      refine ⟨?_, h2⟩
      rcases h1 with h1 | h1
      · obtain ⟨p1, p2⟩ := p
        simp only at h1
        subst h1
        exact (h.own _ _ (List.mem_of_getElem? hi)).1
      · exact .inl (Nat.le_trans h.ext.next h1)
    · have := h.own x y (List.mem_of_getElem? hj)
      exact ⟨this.1, Nat.lt_of_lt_of_le this.2 e.next⟩
  · intro j k x c1 c2 hj hk
    have other : ∀ m y, m ≠ i → L[m]? = some (some x, y) → (some x : Option Nat) = p'.1 → False := by
      intro m y hmi hm hx
      obtain ⟨h1, _, _⟩ := hp' x hx.symm
      rcases h1 with h1 | h1
      · obtain ⟨p1, p2⟩ := p
        simp only at h1
        subst h1
        exact hmi (nodup_inj h.nodup hm hi)
      · have := (h.own _ _ (List.mem_of_getElem? hm)).2
        omega
    rcases get j _ hj with ⟨e1, e2⟩ | ⟨e1, hj⟩ <;> rcases get k _ hk with ⟨e3, e4⟩ | ⟨e3, hk⟩
    · omega
    · exact (other k _ e3 hk (by rw [← e2])).elim
    · exact (other j _ e1 hj (by rw [← e4])).elim
    · exact nodup_inj h.nodup hj hk
theorem St.begin {H : Heap} {p : Option Nat × Cont} (hs : St X H0 H L) {i : Nat} (hi : L[i]? = some p) : St (blkOf p) H H [p] where
  ext := ExtBut.refl _ _
  has := fun b c hm => by
    simp only [List.mem_singleton] at hm
    subst hm
    exact hs.get hi
  own := fun b c hm => by
    simp only [List.mem_singleton] at hm
    subst hm
    exact ⟨.inr (by simp [blkOf]), (hs.own _ _ (List.mem_of_getElem? hi)).2⟩
  nodup := List.pairwise_singleton _ _
theorem St.end {H H' : Heap} {p p' : Option Nat × Cont} {L' : Atoms} (h : St (blkOf p) H H' L') (hm : p' ∈ L') : Became H H' p p' := by
  refine ⟨h.ext, fun b hb => ?_⟩
  obtain ⟨p1, p2⟩ := p'
  simp only at hb
  subst hb
  obtain ⟨h1, h2⟩ := h.own _ _ hm
  refine ⟨?_, h2, h.has _ _ hm⟩
  rcases h1 with h1 | h1
  · exact .inr h1
  · simp only [blkOf, Option.mem_toList, Option.mem_def] at h1
    exact .inl h1
def AppC (T : Tab) (O : Old) (f : Nat) (l : List Value) (H : Heap) (p : Option Nat × Cont) (z ty : Nat) (cs : List Value) : Prop :=
  CallC T O f l H fun v H' => ∃ a n c p', v = .slice a n c ∧ OwnA z ty a n c cs p' ∧ Became H H' p p'
theorem call_app {f : Nat} {fn : Func} {c : Code} {l : List Value} {E0 : Env} {H : Heap} {p : Option Nat × Cont} {z ty : Nat} {cs : List Value} (hp : T.prim f = none) (hf : T.fn f = some fn) (hb : fn.body = some c) (hn : Nat.ble l.length fn.ntmps = true) (he : enumN l 0 = some E0)
    (hst : St (blkOf p) H H [p]) (h : ExecS T O (blkOf p) H fn.ntmps c E0 [p] (endS fn.results.toList fun v L' => ∃ a n c p', v = .slice a n c ∧ OwnA z ty a n c cs p' ∧ p' ∈ L')) : AppC T O f l H p z ty cs :=
  (call_intro hp hf hb hn hst he h).mono fun v H' ⟨L', h1, a, n, c, p', h2, h3, h4⟩ => ⟨a, n, c, p', h2, h3, h1.end h4⟩
theorem step_call_app {o : Oper} {f : Operand} {xa : Array Operand} {ts : Array TypeId} {g : Nat} {a b : Array Value} {l : List Value} {p : Option Nat × Cont} {z ty : Nat} {cs : List Value} {k : Value → Atoms → Prop} (i : Nat) (ho : o.op = .call { callee := .value f, args := xa, argTypes := ts })
    (hf : lk E f = some (.func (.func g) a b)) (hx : args (lk E) xa.toList = some l) (hi : L[i]? = some p)
    (h : ∀ H, St X H0 H L → St (blkOf p) H H [p] → AppC T O g (a.toList ++ l ++ b.toList) H p z ty cs)
    (hk : ∀ a n c p', OwnA z ty a n c cs p' → k (.slice a n c) (L.set i p')) : StepS T O X H0 E L o k :=
  step_call ho hf hx fun H hs => (h H hs (hs.begin hi)).mono fun v H' ⟨a, n, c, p', h1, h2, h3⟩ => ⟨_, hs.became hi h3, h1 ▸ hk a n c p' h2⟩
theorem step_callR {o : Oper} {f : Operand} {xa : Array Operand} {ts : Array TypeId} {g : Nat} {a b : Array Value} {l : List Value} {k : Value → Atoms → Prop} (R : Value → Atoms → Prop) (ho : o.op = .call { callee := .value f, args := xa, argTypes := ts })
    (hf : lk E f = some (.func (.func g) a b)) (hx : args (lk E) xa.toList = some l)
    (h : ∀ H, St X H0 H L → CallC T O g (a.toList ++ l ++ b.toList) H fun v H' => ∃ L', St X H0 H' L' ∧ R v L') (hk : ∀ v L', R v L' → k v L') : StepS T O X H0 E L o k :=
  step_call ho hf hx fun H hs => (h H hs).mono fun v H' ⟨L', h1, h2⟩ => ⟨L', h1, hk v L' h2⟩
def SlQ (O : Old) (q p : Option Nat × Cont) (v : Value) (z n : Nat) (cs : List Value) : Prop := ∀ (X : List Nat) (H0 H : Heap) (L : Atoms), St X H0 H L → q ∈ L → p ∈ L → Sl O H v z n cs
theorem SlQ.old {q p : Option Nat × Cont} {v : Value} {z n : Nat} {cs : List Value} (h : ∀ H, Sl O H v z n cs) : SlQ O q p v z n cs := fun _ _ H _ _ _ _ => h H
theorem SlQ.own {q : Option Nat × Cont} {z ty n c : Nat} {a : Option Addr} {l : List Value} {p : Option Nat × Cont} (h : OwnA z ty a n c l p) : SlQ O q p (.slice a n c) z n l := fun _ _ _ _ hs _ hp => h.slM hs hp
theorem St.rest {H H' : Heap} {j rb : Nat} {ct : Cont} (h : St X H0 H L) (hj : L[j]? = some (some rb, ct)) (e : ExtBut [rb] H H') : St (rb :: X) H0 H' (L.eraseIdx j) := by
  have other : ∀ b c, (some b, c) ∈ L.eraseIdx j → (some b, c) ∈ L ∧ b ≠ rb := by
    intro b c hm
    rw [List.mem_eraseIdx_iff_getElem?] at hm
    obtain ⟨i, hij, hi⟩ := hm
    refine ⟨List.mem_of_getElem? hi, ?_⟩
    rintro rfl
    exact hij (nodup_inj h.nodup hi hj)
  refine ⟨⟨Nat.le_trans h.ext.next e.next, fun b hb hX => ?_⟩, fun b c hm => ?_, fun b c hm => ?_, h.nodup.sublist (List.eraseIdx_sublist L j)⟩
  · simp only [List.mem_cons, not_or] at hX
    rw [e.same b (Nat.lt_of_lt_of_le hb h.ext.next) (by simpa using hX.1)]
    exact h.ext.same b hb hX.2
  · obtain ⟨h1, h2⟩ := other b c hm
    exact (h.has b c h1).congr (e.same _ (h.own b c h1).2 (by simpa using h2))
  · obtain ⟨h1, _⟩ := other b c hm
    obtain ⟨h3, h4⟩ := h.own b c h1
    exact ⟨h3.imp id (fun h => List.mem_cons_of_mem _ h), Nat.lt_of_lt_of_le h4 e.next⟩
end
end Go.Ev.Wk
namespace Go.Ev.Wk
theorem bv_toNat {n x : Nat} (h : x < 2 ^ n) : (BitVec.ofInt n (x : Int)).toNat = x := by
  rw [BitVec.toNat_ofInt]
  have : ((x : Int) % ((2 ^ n : Nat) : Int)) = ((x % 2 ^ n : Nat) : Int) := by norm_cast
  rw [this, Nat.mod_eq_of_lt h]
  simp
theorem and_raw {k : IntKind} {x y : Nat} (hx : x < 2 ^ k.bits) (hy : y < 2 ^ k.bits) : (BitVec.ofInt k.bits (x : Int) &&& BitVec.ofInt k.bits (y : Int)).toNat = x &&& y := by
  rw [BitVec.toNat_and, bv_toNat hx, bv_toNat hy]
theorem or_raw {k : IntKind} {x y : Nat} (hx : x < 2 ^ k.bits) (hy : y < 2 ^ k.bits) : (BitVec.ofInt k.bits (x : Int) ||| BitVec.ofInt k.bits (y : Int)).toNat = x ||| y := by
  rw [BitVec.toNat_or, bv_toNat hx, bv_toNat hy]
theorem and127_u8 {x : Int} (h0 : 0 ≤ x) (h1 : x ≤ 255) : IntKind.u8.wrap ((BitVec.ofInt IntKind.u8.bits x &&& BitVec.ofInt IntKind.u8.bits 127).toNat : Int) = ((x.toNat % 128 : Nat) : Int) := by
  obtain ⟨n, rfl⟩ := Int.eq_ofNat_of_zero_le h0
  have hn : n < 2 ^ IntKind.u8.bits := by show n < 256; omega
  rw [show (127 : Int) = ((127 : Nat) : Int) from rfl, and_raw hn (by decide)]
  have e : n &&& 127 = n % 128 := Nat.and_two_pow_sub_one_eq_mod n 7
  rw [e]
  exact w8 (by simp) (by omega) (by have := Nat.mod_lt n (show 0 < 128 by decide); simp; omega)
theorem and127_i64 {x : Int} (h0 : 0 ≤ x) (h1 : x ≤ 9223372036854775807) : IntKind.i64.wrap ((BitVec.ofInt IntKind.i64.bits x &&& BitVec.ofInt IntKind.i64.bits 127).toNat : Int) = ((x.toNat % 128 : Nat) : Int) := by
  obtain ⟨n, rfl⟩ := Int.eq_ofNat_of_zero_le h0
  have hn : n < 2 ^ IntKind.i64.bits := by show n < 18446744073709551616; omega
  rw [show (127 : Int) = ((127 : Nat) : Int) from rfl, and_raw hn (by decide)]
  have e : n &&& 127 = n % 128 := Nat.and_two_pow_sub_one_eq_mod n 7
  rw [e]
  exact w64 (by simp) (by omega) (by have := Nat.mod_lt n (show 0 < 128 by decide); simp; omega)
theorem and1_i64 {x : Int} (h0 : 0 ≤ x) (h1 : x ≤ 9223372036854775807) : IntKind.i64.wrap ((BitVec.ofInt IntKind.i64.bits x &&& BitVec.ofInt IntKind.i64.bits 1).toNat : Int) = ((x.toNat % 2 : Nat) : Int) := by
  obtain ⟨n, rfl⟩ := Int.eq_ofNat_of_zero_le h0
  have hn : n < 2 ^ IntKind.i64.bits := by show n < 18446744073709551616; omega
  rw [show (1 : Int) = ((1 : Nat) : Int) from rfl, and_raw hn (by decide)]
  have e : n &&& 1 = n % 2 := Nat.and_two_pow_sub_one_eq_mod n 1
  rw [e]
  exact w64 (by simp) (by omega) (by have := Nat.mod_lt n (show 0 < 2 by decide); simp; omega)
theorem or128_u8 {x : Int} (h0 : 0 ≤ x) (h1 : x ≤ 255) : IntKind.u8.wrap ((BitVec.ofInt IntKind.u8.bits x ||| BitVec.ofInt IntKind.u8.bits 128).toNat : Int) = ((x.toNat % 128 + 128 : Nat) : Int) := by
  obtain ⟨n, rfl⟩ := Int.eq_ofNat_of_zero_le h0
  have hn : n < 256 := by omega
  have hn' : n < 2 ^ IntKind.u8.bits := hn
  rw [show (128 : Int) = ((128 : Nat) : Int) from rfl, or_raw hn' (by decide)]
  have e : ∀ m : Fin 256, m.val ||| 128 = m.val % 128 + 128 := by decide +kernel
  rw [e ⟨n, hn⟩]
  exact w8 (by simp) (by omega) (by have := Nat.mod_lt n (show 0 < 128 by decide); simp; omega)
theorem and127_u8N {x : Nat} (h : x ≤ 255) : IntKind.u8.wrap ((BitVec.ofInt IntKind.u8.bits (x : Int) &&& BitVec.ofInt IntKind.u8.bits 127).toNat : Int) = ((x % 128 : Nat) : Int) := and127_u8 (by omega) (by omega)
theorem and127_i64N {x : Nat} (h : x ≤ 9223372036854775807) : IntKind.i64.wrap ((BitVec.ofInt IntKind.i64.bits (x : Int) &&& BitVec.ofInt IntKind.i64.bits 127).toNat : Int) = ((x % 128 : Nat) : Int) := and127_i64 (by omega) (by omega)
theorem and1_i64N {x : Nat} (h : x ≤ 9223372036854775807) : IntKind.i64.wrap ((BitVec.ofInt IntKind.i64.bits (x : Int) &&& BitVec.ofInt IntKind.i64.bits 1).toNat : Int) = ((x % 2 : Nat) : Int) := and1_i64 (by omega) (by omega)
theorem or128_u8N {x : Nat} (h : x ≤ 255) : IntKind.u8.wrap ((BitVec.ofInt IntKind.u8.bits (x : Int) ||| BitVec.ofInt IntKind.u8.bits 128).toNat : Int) = ((x % 128 + 128 : Nat) : Int) := or128_u8 (by omega) (by omega)
theorem or_add {x z s : Nat} (hx : x < 2 ^ s) : x ||| (z * 2 ^ s) = x + z * 2 ^ s := by
  rw [Nat.or_comm, Nat.mul_comm z, ← Nat.two_pow_add_eq_or_of_lt hx, Nat.add_comm]
theorem or_i64 {x z s : Nat} (hx : x < 2 ^ s) (h : x + z * 2 ^ s < 9223372036854775808) : IntKind.i64.wrap ((BitVec.ofInt IntKind.i64.bits (x : Int) ||| BitVec.ofInt IntKind.i64.bits ((z * 2 ^ s : Nat) : Int)).toNat : Int) = ((x + z * 2 ^ s : Nat) : Int) := by
  have h1 : x < 2 ^ IntKind.i64.bits := by show x < 18446744073709551616; omega
  have h2 : z * 2 ^ s < 2 ^ IntKind.i64.bits := by show z * 2 ^ s < 18446744073709551616; omega
  rw [or_raw h1 h2, or_add hx]
  exact w64 rfl (by omega) (by omega)
theorem fdivN {x m : Nat} : ((x : Int).fdiv (m : Int)) = ((x / m : Nat) : Int) := by
  cases m with
  | zero => rw [show ((0 : Nat) : Int) = 0 from rfl, Int.fdiv_zero]; simp
  | succ m => rw [Int.fdiv_eq_ediv_of_nonneg _ (by omega)]; norm_cast
theorem byte_wrap (n : Nat) : IntKind.u8.wrap (n : Int) = ((n % 256 : Nat) : Int) := by
  simp only [IntKind.wrap, IntKind.bits, IntKind.signed]
  simp
theorem shl_raw {a s : Nat} {b : Int} (hb : b = (s : Int)) (hs : s ≤ 63) (h : a * 2 ^ s < 9223372036854775808) : IntKind.i64.wrap ((a : Int) * 2 ^ (min b.toNat IntKind.i64.bits)) = ((a * 2 ^ s : Nat) : Int) := by
  subst hb
  have e2 : min ((s : Int).toNat) IntKind.i64.bits = s := by show min s 64 = s; omega
  rw [e2]
  exact w64 (by norm_cast) (by omega) (by omega)
theorem shr_raw {a s : Nat} {b : Int} (hb : b = (s : Int)) (hs : s ≤ 63) : ((a : Int).fdiv (2 ^ (min b.toNat IntKind.i64.bits))) = ((a / 2 ^ s : Nat) : Int) := by
  subst hb
  have e2 : min ((s : Int).toNat) IntKind.i64.bits = s := by show min s 64 = s; omega
  rw [e2, show ((2 : Int) ^ s) = ((2 ^ s : Nat) : Int) from by norm_cast, fdivN]
section
variable {T : Tab} {O : Old} {X : List Nat} {H0 : Heap} {N : Nat} {E : Env} {L : Atoms}
theorem PL.max2 {o : Oper} {x y : Operand} {ts : Array TypeId} {k k' : IntKind} {a b : Int} (ho : o.op = .call { callee := .builtin .max, args := #[x, y], argTypes := ts }) (hx : lk E x = some (.int k a)) (hy : lk E y = some (.int k' b)) : PL T O X H0 E L o (.int k (max a b)) := by
  refine .l (by rw [ho]; rfl) fun H _ => ?_
  rw [ho]
  simp only [opL, args, hx, hy, mm, cond_true]
  congr 2
  split <;> omega
theorem PL.min2 {o : Oper} {x y : Operand} {ts : Array TypeId} {k k' : IntKind} {a b : Int} (ho : o.op = .call { callee := .builtin .min, args := #[x, y], argTypes := ts }) (hx : lk E x = some (.int k a)) (hy : lk E y = some (.int k' b)) : PL T O X H0 E L o (.int k (min a b)) := by
  refine .l (by rw [ho]; rfl) fun H _ => ?_
  rw [ho]
  simp only [opL, args, hx, hy, mm, cond_false]
  congr 2
  split <;> omega
end
end Go.Ev.Wk
namespace Go.Ev.Wk
section
variable {T : Tab} {O : Old} {X : List Nat} {H0 : Heap} {N : Nat} {E : Env} {L : Atoms}
def blksOf : Atoms → List Nat
  | [] => []
  | (some b, _) :: l => b :: blksOf l
  | (none, _) :: l => blksOf l
theorem mem_blksOf {b : Nat} : ∀ {F : Atoms}, b ∈ blksOf F ↔ ∃ c, (some b, c) ∈ F
  | [] => by simp [blksOf]
  | (some x, c) :: l => by
    have ih := mem_blksOf (b := b) (F := l)
    simp only [blksOf, List.mem_cons, ih]
    constructor
    · rintro (rfl | ⟨c', h⟩)
      · exact ⟨c, .inl rfl⟩
      · exact ⟨c', .inr h⟩
    · rintro ⟨c', h | h⟩
      · cases h; exact .inl rfl
      · exact .inr ⟨c', h⟩
  | (none, c) :: l => by
    have ih := mem_blksOf (b := b) (F := l)
    simp only [blksOf, List.mem_cons, ih]
    constructor
    · rintro ⟨c', h⟩; exact ⟨c', .inr h⟩
    · rintro ⟨c', h | h⟩
      · cases h
      · exact ⟨c', h⟩
theorem St.perm {H : Heap} {L' : Atoms} (h : St X H0 H L) (p : L.Perm L') : St X H0 H L' where
  ext := h.ext
  has := fun b c hm => h.has b c (p.mem_iff.2 hm)
  own := fun b c hm => h.own b c (p.mem_iff.2 hm)
  nodup := by
    refine (p.pairwise_iff ?_).1 h.nodup
    intro x y hxy b hy hx
    exact hxy b hx hy
theorem St.beginF {H : Heap} {F R : Atoms} (h : St X H0 H (F ++ R)) : St (blksOf F) H H F where
  ext := ExtBut.refl _ _
  has := fun b c hm => h.has b c (List.mem_append.2 (.inl hm))
  own := fun b c hm => ⟨.inr (mem_blksOf.2 ⟨c, hm⟩), (h.own b c (List.mem_append.2 (.inl hm))).2⟩
  nodup := (List.pairwise_append.1 h.nodup).1
theorem St.apart {H : Heap} {F R : Atoms} (h : St X H0 H (F ++ R)) {b : Nat} {c : Cont} (hm : (some b, c) ∈ R) : b ∉ blksOf F := fun hb => by
  obtain ⟨c', hc⟩ := mem_blksOf.1 hb
  exact (List.pairwise_append.1 h.nodup).2.2 _ hc _ hm b rfl rfl
theorem St.endF {H H' : Heap} {F R F' : Atoms} (h : St X H0 H (F ++ R)) (h' : St (blksOf F) H H' F') : St X H0 H' (F' ++ R) where
  ext := by
    refine ⟨Nat.le_trans h.ext.next h'.ext.next, fun b hb hX => ?_⟩
    rw [h'.ext.same b (Nat.lt_of_lt_of_le hb h.ext.next) ?_]
    · exact h.ext.same b hb hX
    · intro hm
      obtain ⟨c, hc⟩ := mem_blksOf.1 hm
      rcases (h.own b c (List.mem_append.2 (.inl hc))).1 with h1 | h1
      · omega
      · exact hX h1
  has := fun b c hm => by
    rcases List.mem_append.1 hm with hm | hm
    · exact h'.has b c hm
    · have hb := h.own b c (List.mem_append.2 (.inr hm))
      exact (h.has b c (List.mem_append.2 (.inr hm))).congr (h'.ext.same b hb.2 (h.apart hm))
  own := fun b c hm => by
    rcases List.mem_append.1 hm with hm | hm
    · obtain ⟨h1, h2⟩ := h'.own b c hm
      refine ⟨?_, h2⟩
      rcases h1 with h1 | h1
      · exact .inl (Nat.le_trans h.ext.next h1)
      · obtain ⟨c', hc⟩ := mem_blksOf.1 h1
        exact (h.own b c' (List.mem_append.2 (.inl hc))).1
    · have hb := h.own b c (List.mem_append.2 (.inr hm))
      exact ⟨hb.1, Nat.lt_of_lt_of_le hb.2 h'.ext.next⟩
  nodup := by
    refine List.pairwise_append.2 ⟨h'.nodup, (List.pairwise_append.1 h.nodup).2.1, fun p hp q hq b hb hq' => ?_⟩
    obtain ⟨p1, p2⟩ := p
    obtain ⟨q1, q2⟩ := q
    simp only at hb hq'
    subst hb; subst hq'
    rcases (h'.own b _ hp).1 with h1 | h1
    · have := (h.own b _ (List.mem_append.2 (.inr hq))).2
      omega
    · exact h.apart hq h1
def FpC (T : Tab) (O : Old) (f : Nat) (l : List Value) (H : Heap) (F : Atoms) (R : Value → Atoms → Prop) : Prop :=
  CallC T O f l H fun v H' => ∃ F', St (blksOf F) H H' F' ∧ R v F'
theorem FpC.mono {f : Nat} {l : List Value} {H : Heap} {F : Atoms} {R R' : Value → Atoms → Prop} (h : FpC T O f l H F R) (hr : ∀ v F', R v F' → R' v F') : FpC T O f l H F R' :=
  CallC.mono h fun v H' ⟨F', h1, h2⟩ => ⟨F', h1, hr _ _ h2⟩
theorem call_fp {f : Nat} {fn : Func} {c : Code} {l : List Value} {E0 : Env} {H : Heap} {F : Atoms} {R : Value → Atoms → Prop} (hp : T.prim f = none) (hf : T.fn f = some fn) (hb : fn.body = some c) (hn : Nat.ble l.length fn.ntmps = true) (he : enumN l 0 = some E0)
    (hst : St (blksOf F) H H F) (h : ExecS T O (blksOf F) H fn.ntmps c E0 F (endS fn.results.toList fun v L' => ∃ F' R', L'.Perm (F' ++ R') ∧ R v F')) : FpC T O f l H F R :=
  (call_intro hp hf hb hn hst he h).mono fun v H' ⟨L', h1, F', R', hp, h2⟩ => ⟨F', (h1.perm hp).sublist (List.sublist_append_left _ _), h2⟩
theorem step_call_fp {o : Oper} {f : Operand} {xa : Array Operand} {ts : Array TypeId} {g : Nat} {a b : Array Value} {l : List Value} {R : Value → Atoms → Prop} {k : Value → Atoms → Prop} (F Rest : Atoms) (ho : o.op = .call { callee := .value f, args := xa, argTypes := ts })
    (hf : lk E f = some (.func (.func g) a b)) (hx : args (lk E) xa.toList = some l) (hL : L.Perm (F ++ Rest))
    (h : ∀ H, St X H0 H (F ++ Rest) → St (blksOf F) H H F → FpC T O g (a.toList ++ l ++ b.toList) H F R)
    (hk : ∀ v F', R v F' → k v (F' ++ Rest)) : StepS T O X H0 E L o k :=
  step_call ho hf hx fun H hs => CallC.mono (h H (hs.perm hL) (hs.perm hL).beginF) fun v H' ⟨F', h1, h2⟩ => ⟨_, (hs.perm hL).endF h1, hk v F' h2⟩
theorem ExecS.perm {c : Code} {L' : Atoms} {Q : Ex → Env → Atoms → Prop} (p : L.Perm L') (h : ExecS T O X H0 N c E L' Q) : ExecS T O X H0 N c E L Q := .mk fun H hs τ ht => h.run H (hs.perm p) τ ht
theorem OpsS.perm {all ops : List Oper} {L' : Atoms} {Q : Env → Atoms → Prop} (p : L.Perm L') (h : OpsS T O X H0 N all ops E L' Q) : OpsS T O X H0 N all ops E L Q := .mk fun H hs τ ht => h.run H (hs.perm p) τ ht
theorem DrawS.perm {all : List Oper} {ms : Tr Nat} {full : Nat} {lst : List (Nat × Nat)} {pend : List PendE} {L' : Atoms} {Q : Env → Atoms → Prop} (p : L.Perm L') (h : DrawS T O X H0 N all ms full lst pend E L' Q) : DrawS T O X H0 N all ms full lst pend E L Q := .mk fun Em Xm hk H hs τ pd ht hp => h.run Em Xm hk H (hs.perm p) τ pd ht hp
theorem ExecS.weakL {c : Code} {L' : Atoms} {Q : Ex → Env → Atoms → Prop} (hl : L'.Sublist L) (h : ExecS T O X H0 N c E L' Q) : ExecS T O X H0 N c E L Q := .mk fun H hs τ ht => h.run H (hs.sublist hl) τ ht
theorem OpsS.weakL {all ops : List Oper} {L' : Atoms} {Q : Env → Atoms → Prop} (hl : L'.Sublist L) (h : OpsS T O X H0 N all ops E L' Q) : OpsS T O X H0 N all ops E L Q := .mk fun H hs τ ht => h.run H (hs.sublist hl) τ ht
theorem opP_idxA {t z n e c ty : Nat} {a : Option Addr} {l : List Value} {p : Option Nat × Cont} {x i : Operand} {kd : IntKind} {j : Int} (own : OwnA z ty a n c l p) (hx : lk E x = some (.slice a n c)) (hi : lk E i = some (.int kd j)) (ht : T.und t = some (.slice e)) (hz : T.size e = some z) (h0 : 0 ≤ j) (h1 : j < n) :
    opP T (lk E) (.indexAddr t x i) = some (elemPtr (.slice a n c) z j.toNat) := by
  cases own with
  | nil c => omega
  | own hl =>
    rw [opP_idxo hx hi ht hz h0 h1]
    rfl
def strKeys : List (Value × Value) → Prop
  | [] => True
  | (k, _) :: es => (∃ t, k = str t) ∧ strKeys es
theorem sameKey_str (s t : List UInt8) : sameKey (str s) (str t) = some (s == t) := rfl
theorem find_upd {v : Value} {s : List UInt8} : ∀ {es : List (Value × Value)}, strKeys es → ∃ es', upd (str s) v es = some es' ∧ strKeys es' ∧ ∀ s', find (str s') es' = if s' = s then some (some v) else find (str s') es
  | [], _ => by
    refine ⟨[(str s, v)], rfl, ⟨⟨s, rfl⟩, trivial⟩, fun s' => ?_⟩
    simp only [find, sameKey_str]
    by_cases h : s' = s
    · simp [h]
    · rw [show (s' == s) = false from beq_eq_false_iff_ne.2 h]
      simp [h]
  | (k, w) :: es, h => by
    obtain ⟨⟨t, rfl⟩, h⟩ := h
    by_cases hst : s = t
    · subst hst
      refine ⟨(str s, v) :: es, by simp [upd, sameKey_str], ⟨⟨s, rfl⟩, h⟩, fun s' => ?_⟩
      simp only [find, sameKey_str]
      by_cases h : s' = s
      · simp [h]
      · rw [show (s' == s) = false from beq_eq_false_iff_ne.2 h]
        simp [h]
    · obtain ⟨es', h1, h2, h3⟩ := find_upd (v := v) (s := s) h
      refine ⟨(str t, w) :: es', by simp only [upd, sameKey_str, show (s == t) = false from beq_eq_false_iff_ne.2 hst, h1], ⟨⟨t, rfl⟩, h2⟩, fun s' => ?_⟩
      simp only [find, sameKey_str]
      by_cases h : s' = t
      · have : ¬ t = s := fun e => hst e.symm
        simp [h, this]
      · rw [show (s' == t) = false from beq_eq_false_iff_ne.2 h]
        exact h3 s'
structure Says (es : List (Value × Value)) (f : List UInt8 → Option Value) : Prop where
  keys : strKeys es
  find : ∀ s, find (str s) es = some (f s)
theorem Says.nil : Says [] fun _ => none := ⟨trivial, fun _ => rfl⟩
theorem Says.upd {es : List (Value × Value)} {f : List UInt8 → Option Value} (h : Says es f) (s : List UInt8) (v : Value) : ∃ es', upd (str s) v es = some es' ∧ Says es' fun s' => if s' = s then some v else f s' := by
  obtain ⟨es', h1, h2, h3⟩ := find_upd (v := v) (s := s) h.keys
  refine ⟨es', h1, h2, fun s' => ?_⟩
  rw [h3, h.find]
  split <;> rfl
theorem Says.cast {es : List (Value × Value)} {f g : List UInt8 → Option Value} (h : Says es f) (e : ∀ s, f s = g s) : Says es g := ⟨h.keys, fun s => by rw [h.find, e]⟩
def mapOk (T : Tab) (t : Nat) : Option (Option Value) :=
  match T.und t with
  | some (.map kt et) => match T.und kt, T.zero et with
    | some .string, some z => bif closedC z then some (some z) else none
    | _, _ => none
  | _ => none
theorem lookup_says {H : Heap} {t m i : Nat} {s : List UInt8} {z : Value} {es : List (Value × Value)} {f : List UInt8 → Option Value} {ok : Bool} (hs : St X H0 H L) (hi : L[i]? = some (some m, .map es)) (hf : Says es f) (ht : mapOk T t = some (some z)) :
    lookup T H t (.map (some m)) (str s) ok = some (match f s with | some v => bif ok then .tuple #[v, .bool true] else v | none => bif ok then .tuple #[z, .bool false] else z) := by
  unfold mapOk at ht
  split at ht
  · rename_i kt et hu
    split at ht
    · rename_i z' hk hz
      cases hc : closedC z' with
      | false => rw [hc] at ht; cases ht
      | true =>
        rw [hc] at ht
        cases ht
        have hb : H.blks.get m = some (.map es) := hs.get hi
        simp only [lookup, lookup0, hu, hk, hz, entries, hb, isKey, hc, Bool.and_self, cond_true, hf.find]
        cases f s <;> rfl
    · cases ht
  · cases ht
theorem look_map {t m : Nat} {x kx : Operand} {s : List UInt8} {z : Value} {es : List (Value × Value)} {f : List UInt8 → Option Value} {ok : Bool} (i : Nat) (hx : lk E x = some (.map (some m))) (hk : lk E kx = some (str s)) (hi : L[i]? = some (some m, .map es)) (hf : Says es f) (ht : mapOk T t = some (some z))
    {r : Value} (hr : (match f s with | some v => bif ok then Value.tuple #[v, .bool true] else v | none => bif ok then .tuple #[z, .bool false] else z) = r) :
    ∀ H, St X H0 H L → opL T O H (lk E) (.lookup t x kx ok) = some r := fun H hs => by
  simp only [opL, hx, hk]
  rw [lookup_says hs hi hf ht, hr]
theorem step_mapUpdate {o : Oper} {t m kt et : Nat} {x kx vx : Operand} {s : List UInt8} {v : Value} {es : List (Value × Value)} {f : List UInt8 → Option Value} {k : Value → Atoms → Prop} (i : Nat) (ho : o.op = .mapUpdate t x kx vx) (hx : lk E x = some (.map (some m))) (hkx : lk E kx = some (str s)) (hv : lk E vx = some v)
    (hi : L[i]? = some (some m, .map es)) (hf : Says es f) (ht : T.und t = some (.map kt et)) (hkt : T.und kt = some .string)
    (h : ∀ es', Says es' (fun s' => if s' = s then some v else f s') → k skipped (L.set i (some m, .map es'))) : StepS T O X H0 E L o k := by
  obtain ⟨es', h1, h2⟩ := hf.upd s v
  refine step_w (by rw [ho]; rfl) fun H hs => ?_
  have hb : H.blks.get m = some (.map es) := hs.get hi
  refine ⟨skipped, ⟨H.blks.put m (.map es'), H.next⟩, _, ?_, hs.change hi ⟨Nat.le_refl _, fun c _ hc => Tr.get_put_ne _ _ (by simpa using hc)⟩ (show Has _ _ (.map es') from Tr.get_put_self _ _ _), Nat.le_refl _, h es' h2⟩
  rw [ho]
  simp only [opW, hx, hkx, hv, mapUpdate, ht, hkt, hb, isKey, cond_true, h1]
theorem StabS.perm {m : Nat} {L' : Atoms} (p : L.Perm L') : ∀ {pend : List PendE}, StabS T O X H0 m L' pend → StabS T O X H0 m L pend
  | [], _ => trivial
  | ⟨j, E, op, v⟩ :: l, h => ⟨h.1.imp id fun h => ⟨h.1, fun H hs => h.2 H (hs.perm p)⟩, StabS.perm p h.2⟩
theorem SlX.base {H0 H : Heap} {F R : Atoms} {v : Value} {z n : Nat} {cs : List Value} (h : SlX [] O H0 v z n cs) (hst : St [] H0 H (F ++ R)) : SlX (blksOf F) O H v z n cs := fun H' e =>
  h H' ⟨Nat.le_trans hst.ext.next e.next, fun b hb _ => by
    rw [e.same b (Nat.lt_of_lt_of_le hb hst.ext.next) ?_]
    · exact hst.ext.same b hb (by simp)
    · intro hm
      obtain ⟨c, hc⟩ := mem_blksOf.1 hm
      rcases (hst.own b c (List.mem_append.2 (.inl hc))).1 with h1 | h1
      · omega
      · cases h1⟩
theorem strOp_add {a b : List UInt8} (h : a.length + b.length ≤ 9223372036854775807) : strOp .add ⟨⟨a⟩⟩ ⟨⟨b⟩⟩ = some (str (a ++ b)) := by
  have e : Nat.ble ((⟨⟨a⟩⟩ : ByteArray).size + (⟨⟨b⟩⟩ : ByteArray).size) 9223372036854775807 = true := Nat.ble_eq_true_of_le h
  simp only [strOp, e, cond_true]
  congr 2
theorem PL.cat {T : Tab} {X : List Nat} {H0 : Heap} {E : Env} {L : Atoms} {o : Oper} {t yt : Nat} {x y : Operand} {a b : List UInt8} (ho : o.op = .binOp .add t x y yt) (hx : lk E x = some (str a)) (hy : lk E y = some (str b)) (h : a.length + b.length ≤ 9223372036854775807) : PL T O X H0 E L o (str (a ++ b)) := by
  refine .p (by rw [ho]; rfl) ?_
  rw [ho]
  simp only [opP, hx, hy, binV, strOp_add h]
end
end Go.Ev.Wk
namespace Go.Ev.Wk
section
variable {T : Tab} {O : Old} {X : List Nat} {H0 : Heap} {N : Nat} {E : Env} {L : Atoms}
theorem PL.sidx {o : Oper} {t : Nat} {x i : Operand} {s : List UInt8} {c : UInt8} {kd : IntKind} {j : Int} (ho : o.op = .index t x i) (hx : lk E x = some (str s)) (hi : lk E i = some (.int kd j)) (ht : T.und t = some .string) (hj : 0 ≤ j) (hc : s[j.toNat]? = some c) : PL T O X H0 E L o (.int .u8 (c.toNat : Int)) := by
  refine .p (by rw [ho]; rfl) ?_
  rw [ho]
  simp only [opP, hx, hi, indexV, ht, if_pos hj, hc]
theorem look_scut {t l h : Nat} {x : Operand} {lo hi : Option Operand} {vl vh : Option Value} {s : List UInt8} {i j : Int} (hx : lk E x = some (str s)) (hlo : optV (lk E) lo = some vl) (hhi : optV (lk E) hi = some vh) (h1 : numO 0 vl = some i) (hi' : i = l) (h2 : numO s.length vh = some j) (hj' : j = h)
    (ht : T.und t = some .string) (hl : l ≤ h) (hh : h ≤ s.length) : ∀ H, St X H0 H L → opL T O H (lk E) (.slice t x lo hi none) = some (str ((s.take h).drop l)) := by
  intro H _
  subst hi'; subst hj'
  have hb : bounds s.length s.length vl vh none = some (l, h, s.length) := bounds_of h1 h2 hl hh (Nat.le_refl _)
  have hm : optV (lk E) none = some none := rfl
  simp only [opL, hx, hlo, hhi, hm, sliceV, ht]
  show (match bounds s.length s.length vl vh none with | some (l, h, _) => some (Value.string ⟨⟨(s.take h).drop l⟩⟩) | none => none) = _
  rw [hb]
theorem PL.orU8 {o : Oper} {t yt : Nat} {x y : Operand} {a b : Nat} (ho : o.op = .binOp .or t x y yt) (hx : lk E x = some (.int .u8 (a : Int))) (hy : lk E y = some (.int .u8 (b : Int))) (ha : a < 256) (hb : b < 256) : PL T O X H0 E L o (.int .u8 ((a ||| b : Nat) : Int)) := by
  refine .p (by rw [ho]; rfl) ?_
  rw [ho]
  have h1 : a < 2 ^ IntKind.u8.bits := ha
  have h2 : b < 2 ^ IntKind.u8.bits := hb
  have h3 : a ||| b < 2 ^ 8 := Nat.or_lt_two_pow ha hb
  have key : intOp .or .u8 (a : Int) (b : Int) = some (.int .u8 ((a ||| b : Nat) : Int)) := by
    simp only [intOp]
    rw [or_raw h1 h2, w8 (n := ((a ||| b : Nat) : Int)) rfl (by omega) (by omega)]
  simp only [opP, hx, hy]
  exact key
theorem look_unsafe {src dst t b off ver esz ty m : Nat} {x : Operand} {l : List Value} {v : Value} (i : Nat) (hx : lk E x = some (.pointer (some ⟨b, off, some ver⟩))) (hi : L[i]? = some (some b, .cells ver l esz ty)) (hs : T.und src = some (.pointer t)) (hd : T.und dst = some .unsafePointer) (hz : T.size t = some (m + 1)) (hv : l[off]? = some v) :
    ∀ H, St X H0 H L → opL T O H (lk E) (.convert src dst x) = some (.pointer (some ⟨b, off, some ver⟩)) := by
  intro H hs'
  obtain ⟨cs, p, h1, h2⟩ := hs'.get hi
  have h3 := h2 off v hv
  simp only [opL, hx, convV, hs, hd, hz, h1, Nat.beq_refl, h3, Option.isSome_some, Bool.and_self, cond_true]
theorem look_back {src dst t b ver esz n : Nat} {x : Operand} {l : List Value} (i : Nat) (hx : lk E x = some (.pointer (some ⟨b, 0, some ver⟩))) (hi : L[i]? = some (some b, .cells ver l esz t)) (hs : T.und src = some .unsafePointer) (hd : T.und dst = some (.pointer t)) (hz : T.size t = some n) (hn : (Nat.ble 1 n && Nat.ble n l.length) = true) :
    ∀ H, St X H0 H L → opL T O H (lk E) (.convert src dst x) = some (.pointer (some ⟨b, 0, some ver⟩)) := by
  intro H hs'
  obtain ⟨cs, p, h1, h2⟩ := hs'.get hi
  simp only [Bool.and_eq_true] at hn
  simp only [opL, hx, convV, hs, hd, hz, h1, Nat.beq_refl, hn.1, hn.2, Bool.and_self, cond_true]
theorem PL.ptrSelf {o : Oper} {t yt e n : Nat} {x y : Operand} {b off ver : Nat} (ho : o.op = .binOp .neq t x y yt) (hx : lk E x = some (.pointer (some ⟨b, off, some ver⟩))) (hy : lk E y = some (.pointer (some ⟨b, off, some ver⟩))) (ht : T.und t = some (.pointer e)) (hz : T.size e = some n) : PL T O X H0 E L o (.bool false) := by
  refine .p (by rw [ho]; rfl) ?_
  rw [ho]
  simp only [opP, hx, hy, binV, numish, cond_false, eqV, ht, eqCell, hz, Option.isSome_some, and_self, if_true, Bool.not_true]
theorem step_unsafeString {o : Oper} {px nx : Operand} {pt nt e b ver j : Nat} {l : List UInt8} {k : Value → Atoms → Prop} (ho : o.op = .call { callee := .builtin .unsafeString, args := #[px, nx], argTypes := #[pt, nt] }) (hp : lk E px = some (.pointer (some ⟨b, 0, some ver⟩))) (hn : lk E nx = some (.int .i64 (l.length : Int)))
    (hj : L[j]? = some (some b, .cells ver (l.map fun c => .int .u8 (c.toNat : Int)) 1 e)) (ht : T.und pt = some (.pointer e)) (he : T.und e = some (.int .u8)) (hz : T.size e = some 1) (h0 : 0 < l.length) (h1 : l.length ≤ 1073741824)
    (h : k (str l) (L.set j (none, .map []))) : StepS T O X H0 E L o k := by
  refine step_w (by rw [ho]; rfl) fun H hst => ?_
  obtain ⟨cs, p, g1, g2⟩ := hst.get hj
  have hrd : rdN O H b (some ver) l.length 0 = some (l.map fun c => .int .u8 (c.toNat : Int)) := by
    have := (hst.get hj).rdN (O := O) (rdL_full _)
    rwa [List.length_map] at this
  have hb : bytesOf (l.map fun c => Value.int .u8 (c.toNat : Int)) = some l := by
    clear hrd g1 g2 hj hn h h0 h1
    induction l with
    | nil => rfl
    | cons c l ih => simp [bytesOf, ih]
  refine ⟨str l, ⟨H.blks.put b .dead, H.next⟩, _, ?_, hst.became hj (p' := (none, .map [])) ⟨⟨Nat.le_refl _, fun c _ hc => Tr.get_put_ne _ _ (by simpa [blkOf] using hc)⟩, fun b hb => by cases hb⟩, Nat.le_refl _, h⟩
  rw [ho]
  have ha : args (lk E) #[px, nx].toList = some [.pointer (some ⟨b, 0, some ver⟩), .int .i64 (l.length : Int)] := by simp [args, hp, hn]
  simp only [opW, ha, textOf, ht, he, hz, g1, Int.toNat_natCast, hrd, hb]
  rw [if_pos ⟨by omega, by rw [List.length_map]; omega, by omega, trivial, trivial⟩]
end
end Go.Ev.Wk
