/-
  Walks: calls that change a block of the caller's, calls that append to a list of the caller's.
-/
import Derived.Test.YtmmojhbboomgoaaGreatEvWG
namespace Go.Ev.Wk
set_option linter.unusedSimpArgs false
set_option linter.unusedVariables false

section
variable {T : Tab} {O : Old} {X : List Nat} {H0 : Heap} {N : Nat} {E : Env} {L : Atoms}

/-- A slice that reads so whatever becomes of some blocks. -/
def SlX (X : List Nat) (O : Old) (H : Heap) (v : Value) (z n : Nat) (cs : List Value) : Prop := ∀ H', ExtBut X H H' → Sl O H' v z n cs

theorem SlX.at {H : Heap} {v : Value} {z n : Nat} {cs : List Value} (h : SlX X O H0 v z n cs) (hs : St X H0 H L) : Sl O H v z n cs := h H hs.ext

theorem SlX.old {H : Heap} {v : Value} {z n : Nat} {cs : List Value} (h : ∀ H, Sl O H v z n cs) : SlX X O H v z n cs := fun H' _ => h H'

theorem Sl.toX {H : Heap} {v : Value} {z n : Nat} {cs : List Value} (h : Sl O H v z n cs) : SlX [] O H v z n cs := fun H' e => h.ext e

theorem SlX.mono {Y : List Nat} {H H' : Heap} {v : Value} {z n : Nat} {cs : List Value} (h : SlX X O H v z n cs) (e : ExtBut Y H H') (hy : ∀ b ∈ Y, b ∈ X) : SlX X O H' v z n cs := fun H'' e' => h H'' ((e.mono hy).trans e')

/-- a list of the caller's own, whatever becomes of another block of its own -/
theorem SlX.own {H : Heap} {z ty n c i j rb : Nat} {a : Option Addr} {l : List Value} {p : Option Nat × Cont} {ct : Cont} (h : OwnA z ty a n c l p) (hst : St X H0 H L) (hi : L[i]? = some p) (hj : L[j]? = some (some rb, ct)) (hij : i ≠ j) : SlX [rb] O H (.slice a n c) z n l := by
  intro H' e
  have h0 : Sl O H (.slice a n c) z n l := h.sl hst hi
  cases h with
  | nil c => exact Sl.nil
  | own hl =>
    rename_i b ver
    have hb : b ≠ rb := by
      rintro rfl
      exact hij (nodup_inj hst.nodup hi hj)
    have hlt := (hst.own _ _ (List.mem_of_getElem? hi)).2
    have hc : Has H' b (.cells ver l z ty) := (hst.get hi).congr (e.same b hlt (by simpa using hb))
    refine ⟨hl, .inr ⟨b, 0, some ver, unk, rfl, ?_, fun h => (by cases h), fun ver' _ => ⟨Nat.lt_of_lt_of_le hlt e.next, ?_⟩⟩⟩
    · rw [← hl]; exact hc.rdN (rdL_full l)
    · obtain ⟨cs, q, h1, _⟩ := hc
      simp only [eszOf, h1]

/-- the part of a slice, the same -/
theorem SlX.cut {H : Heap} {a : Option Addr} {n c z l h : Nat} {cs : List Value} (hs : SlX X O H (.slice a n c) z n cs) (hl : l ≤ h) (hh : h ≤ n) :
    SlX X O H (.slice (cutAddr a z c l) (h - l) (cutCap' a c l)) z (h - l) ((cs.drop (l * z)).take ((h - l) * z)) := fun H' e => (hs H' e).cut hl hh

theorem SlX.cutM {α : Type} {f : α → Value} {H : Heap} {a : Option Addr} {n c l h : Nat} {cs : List α} (hs : SlX X O H (.slice a n c) 1 n (cs.map f)) (hl : l ≤ h) (hh : h ≤ n) :
    SlX X O H (.slice (cutAddr a 1 c l) (h - l) (cutCap' a c l)) 1 (h - l) (((cs.drop l).take (h - l)).map f) := fun H' e => (hs H' e).cutM hl hh

/-! A call that changes one block of the caller's. -/

theorem St.one {H : Heap} {rb : Nat} {c : Cont} (h : Has H rb c) (hb : rb < H.next) : St [rb] H H [(some rb, c)] where
  ext := ExtBut.refl _ _
  has := fun b c' hm => by
    simp only [List.mem_singleton, Prod.mk.injEq, Option.some.injEq] at hm
    obtain ⟨rfl, rfl⟩ := hm
    exact h
  own := fun b c' hm => by
    simp only [List.mem_singleton, Prod.mk.injEq, Option.some.injEq] at hm
    obtain ⟨rfl, rfl⟩ := hm
    exact ⟨.inr (by simp), hb⟩
  nodup := List.pairwise_singleton _ _

theorem call_mut {f : Nat} {fn : Func} {c : Code} {l : List Value} {E0 : Env} {H : Heap} {rb : Nat} {ct : Cont} {Q : Value → Cont → Prop} (hp : T.prim f = none) (hf : T.fn f = some fn) (hb : fn.body = some c) (hn : Nat.ble l.length fn.ntmps = true) (he : enumN l 0 = some E0)
    (hh : Has H rb ct) (hlt : rb < H.next) (h : ExecS T O [rb] H fn.ntmps c E0 [(some rb, ct)] (endS fn.results.toList fun v L' => ∃ ct', (some rb, ct') ∈ L' ∧ Q v ct')) :
    CallC T O f l H fun v H' => ∃ ct', ExtBut [rb] H H' ∧ Has H' rb ct' ∧ Q v ct' :=
  (call_intro hp hf hb hn (St.one hh hlt) he h).mono fun v H' ⟨L', h1, ct', h2, h3⟩ => ⟨ct', h1.ext, h1.has _ _ h2, h3⟩

theorem step_call_mut {o : Oper} {f : Operand} {xa : Array Operand} {ts : Array TypeId} {g rb : Nat} {a b : Array Value} {l : List Value} {ct : Cont} {R : Value → Cont → Prop} {k : Value → Atoms → Prop} (i : Nat) (ho : o.op = .call { callee := .value f, args := xa, argTypes := ts })
    (hf : lk E f = some (.func (.func g) a b)) (hx : args (lk E) xa.toList = some l) (hi : L[i]? = some (some rb, ct))
    (h : ∀ H, St X H0 H L → Has H rb ct → rb < H.next → CallC T O g (a.toList ++ l ++ b.toList) H fun v H' => ∃ ct', ExtBut [rb] H H' ∧ Has H' rb ct' ∧ R v ct')
    (hk : ∀ v ct', R v ct' → k v (L.set i (some rb, ct'))) : StepS T O X H0 E L o k :=
  step_call ho hf hx fun H hs => (h H hs (hs.get hi) (hs.own _ _ (List.mem_of_getElem? hi)).2).mono fun v H' ⟨ct', h1, h2, h3⟩ => ⟨_, hs.change hi h1 h2, hk v ct' h3⟩

/-! A call that appends to a list of the caller's. -/

/-- an entry's block -/
def blkOf (p : Option Nat × Cont) : List Nat := p.1.toList

/-- an entry behind a call -/
def Became (H H' : Heap) (p p' : Option Nat × Cont) : Prop := ExtBut (blkOf p) H H' ∧ ∀ b, p'.1 = some b → (p.1 = some b ∨ H.next ≤ b) ∧ b < H'.next ∧ Has H' b p'.2

theorem St.became {H H' : Heap} (h : St X H0 H L) {i : Nat} {p p' : Option Nat × Cont} (hi : L[i]? = some p) (hb : Became H H' p p') : St X H0 H' (L.set i p') := by
  obtain ⟨e, hp'⟩ := hb
  have get : ∀ j q, (L.set i p')[j]? = some q → (j = i ∧ q = p') ∨ (j ≠ i ∧ L[j]? = some q) := by
    intro j q hj
    rw [List.getElem?_set] at hj
    by_cases hij : i = j
    · rw [if_pos hij] at hj
      split at hj
      · cases hj; exact .inl ⟨hij.symm, rfl⟩
      · cases hj
    · rw [if_neg hij] at hj
      exact .inr ⟨fun e => hij e.symm, hj⟩
  have notin : ∀ j x y, j ≠ i → L[j]? = some (some x, y) → x ∉ blkOf p := by
    intro j x y hji hj hm
    obtain ⟨p1, p2⟩ := p
    simp only [blkOf, Option.mem_toList, Option.mem_def] at hm
    subst hm
    exact hji (nodup_inj h.nodup hj hi)
  refine ⟨⟨Nat.le_trans h.ext.next e.next, fun x hx hX => ?_⟩, fun x y hm => ?_, fun x y hm => ?_, pairwise_of_inj ?_⟩
  · have : x ∉ blkOf p := by
      intro hm
      obtain ⟨p1, p2⟩ := p
      simp only [blkOf, Option.mem_toList, Option.mem_def] at hm
      subst hm
      rcases (h.own _ _ (List.mem_of_getElem? hi)).1 with h1 | h1
      · omega
      · exact hX h1
    rw [e.same x (Nat.lt_of_lt_of_le hx h.ext.next) this]
    exact h.ext.same x hx hX
  · obtain ⟨j, hj⟩ := List.getElem?_of_mem hm
    rcases get j _ hj with ⟨_, e1⟩ | ⟨hji, hj⟩
    · subst e1; exact (hp' x rfl).2.2
    · have hm' := List.mem_of_getElem? hj
      exact (h.has x y hm').congr (e.same _ (h.own x y hm').2 (notin j x y hji hj))
  · obtain ⟨j, hj⟩ := List.getElem?_of_mem hm
    rcases get j _ hj with ⟨_, e1⟩ | ⟨hji, hj⟩
    · subst e1
      obtain ⟨h1, h2, _⟩ := hp' x rfl
      refine ⟨?_, h2⟩
      rcases h1 with h1 | h1
      · obtain ⟨p1, p2⟩ := p
        simp only at h1
        subst h1
        exact (h.own _ _ (List.mem_of_getElem? hi)).1
      · exact .inl (Nat.le_trans h.ext.next h1)
    · have := h.own x y (List.mem_of_getElem? hj)
      exact ⟨this.1, Nat.lt_of_lt_of_le this.2 e.next⟩
  · intro j k x c1 c2 hj hk
    have other : ∀ m y, m ≠ i → L[m]? = some (some x, y) → (some x : Option Nat) = p'.1 → False := by
      intro m y hmi hm hx
      obtain ⟨h1, _, _⟩ := hp' x hx.symm
      rcases h1 with h1 | h1
      · obtain ⟨p1, p2⟩ := p
        simp only at h1
        subst h1
        exact hmi (nodup_inj h.nodup hm hi)
      · have := (h.own _ _ (List.mem_of_getElem? hm)).2
        omega
    rcases get j _ hj with ⟨e1, e2⟩ | ⟨e1, hj⟩ <;> rcases get k _ hk with ⟨e3, e4⟩ | ⟨e3, hk⟩
    · omega
    · exact (other k _ e3 hk (by rw [← e2])).elim
    · exact (other j _ e1 hj (by rw [← e4])).elim
    · exact nodup_inj h.nodup hj hk

/-- a walk that begins with one list of the caller's -/
theorem St.begin {H : Heap} {p : Option Nat × Cont} (hs : St X H0 H L) {i : Nat} (hi : L[i]? = some p) : St (blkOf p) H H [p] where
  ext := ExtBut.refl _ _
  has := fun b c hm => by
    simp only [List.mem_singleton] at hm
    subst hm
    exact hs.get hi
  own := fun b c hm => by
    simp only [List.mem_singleton] at hm
    subst hm
    exact ⟨.inr (by simp [blkOf]), (hs.own _ _ (List.mem_of_getElem? hi)).2⟩
  nodup := List.pairwise_singleton _ _

theorem St.end {H H' : Heap} {p p' : Option Nat × Cont} {L' : Atoms} (h : St (blkOf p) H H' L') (hm : p' ∈ L') : Became H H' p p' := by
  refine ⟨h.ext, fun b hb => ?_⟩
  obtain ⟨p1, p2⟩ := p'
  simp only at hb
  subst hb
  obtain ⟨h1, h2⟩ := h.own _ _ hm
  refine ⟨?_, h2, h.has _ _ hm⟩
  rcases h1 with h1 | h1
  · exact .inr h1
  · simp only [blkOf, Option.mem_toList, Option.mem_def] at h1
    exact .inl h1

/-- what a call that appends comes to -/
def AppC (T : Tab) (O : Old) (f : Nat) (l : List Value) (H : Heap) (p : Option Nat × Cont) (z ty : Nat) (cs : List Value) : Prop :=
  CallC T O f l H fun v H' => ∃ a n c p', v = .slice a n c ∧ OwnA z ty a n c cs p' ∧ Became H H' p p'

theorem call_app {f : Nat} {fn : Func} {c : Code} {l : List Value} {E0 : Env} {H : Heap} {p : Option Nat × Cont} {z ty : Nat} {cs : List Value} (hp : T.prim f = none) (hf : T.fn f = some fn) (hb : fn.body = some c) (hn : Nat.ble l.length fn.ntmps = true) (he : enumN l 0 = some E0)
    (hst : St (blkOf p) H H [p]) (h : ExecS T O (blkOf p) H fn.ntmps c E0 [p] (endS fn.results.toList fun v L' => ∃ a n c p', v = .slice a n c ∧ OwnA z ty a n c cs p' ∧ p' ∈ L')) : AppC T O f l H p z ty cs :=
  (call_intro hp hf hb hn hst he h).mono fun v H' ⟨L', h1, a, n, c, p', h2, h3, h4⟩ => ⟨a, n, c, p', h2, h3, h1.end h4⟩

theorem step_call_app {o : Oper} {f : Operand} {xa : Array Operand} {ts : Array TypeId} {g : Nat} {a b : Array Value} {l : List Value} {p : Option Nat × Cont} {z ty : Nat} {cs : List Value} {k : Value → Atoms → Prop} (i : Nat) (ho : o.op = .call { callee := .value f, args := xa, argTypes := ts })
    (hf : lk E f = some (.func (.func g) a b)) (hx : args (lk E) xa.toList = some l) (hi : L[i]? = some p)
    (h : ∀ H, St X H0 H L → St (blkOf p) H H [p] → AppC T O g (a.toList ++ l ++ b.toList) H p z ty cs)
    (hk : ∀ a n c p', OwnA z ty a n c cs p' → k (.slice a n c) (L.set i p')) : StepS T O X H0 E L o k :=
  step_call ho hf hx fun H hs => (h H hs (hs.begin hi)).mono fun v H' ⟨a, n, c, p', h1, h2, h3⟩ => ⟨_, hs.became hi h3, h1 ▸ hk a n c p' h2⟩

/-- a call of which something is told -/
theorem step_callR {o : Oper} {f : Operand} {xa : Array Operand} {ts : Array TypeId} {g : Nat} {a b : Array Value} {l : List Value} {k : Value → Atoms → Prop} (R : Value → Atoms → Prop) (ho : o.op = .call { callee := .value f, args := xa, argTypes := ts })
    (hf : lk E f = some (.func (.func g) a b)) (hx : args (lk E) xa.toList = some l)
    (h : ∀ H, St X H0 H L → CallC T O g (a.toList ++ l ++ b.toList) H fun v H' => ∃ L', St X H0 H' L' ∧ R v L') (hk : ∀ v L', R v L' → k v L') : StepS T O X H0 E L o k :=
  step_call ho hf hx fun H hs => (h H hs).mono fun v H' ⟨L', h1, h2⟩ => ⟨L', h1, hk v L' h2⟩

/-- A slice that reads so as long as two entries stay. -/
def SlQ (O : Old) (q p : Option Nat × Cont) (v : Value) (z n : Nat) (cs : List Value) : Prop := ∀ (X : List Nat) (H0 H : Heap) (L : Atoms), St X H0 H L → q ∈ L → p ∈ L → Sl O H v z n cs

theorem SlQ.old {q p : Option Nat × Cont} {v : Value} {z n : Nat} {cs : List Value} (h : ∀ H, Sl O H v z n cs) : SlQ O q p v z n cs := fun _ _ H _ _ _ _ => h H

theorem SlQ.own {q : Option Nat × Cont} {z ty n c : Nat} {a : Option Addr} {l : List Value} {p : Option Nat × Cont} (h : OwnA z ty a n c l p) : SlQ O q p (.slice a n c) z n l := fun _ _ _ _ hs _ hp => h.slM hs hp

theorem SlQ.cutM {α : Type} {f : α → Value} {q p : Option Nat × Cont} {a : Option Addr} {n c l h : Nat} {cs : List α} (hs : SlQ O q p (.slice a n c) 1 n (cs.map f)) (hl : l ≤ h) (hh : h ≤ n) :
    SlQ O q p (.slice (cutAddr a 1 c l) (h - l) (cutCap' a c l)) 1 (h - l) (((cs.drop l).take (h - l)).map f) := fun X H0 H L h0 h1 h2 => (hs X H0 H L h0 h1 h2).cutM hl hh

theorem SlQ.cast {q p : Option Nat × Cont} {v : Value} {z n n' : Nat} {cs cs' : List Value} (h : SlQ O q p v z n cs) (e : cs = cs') (en : n = n') : SlQ O q p v z n' cs' := en ▸ e ▸ h

/-- the other entries, behind a change of one block -/
theorem St.rest {H H' : Heap} {j rb : Nat} {ct : Cont} (h : St X H0 H L) (hj : L[j]? = some (some rb, ct)) (e : ExtBut [rb] H H') : St (rb :: X) H0 H' (L.eraseIdx j) := by
  have other : ∀ b c, (some b, c) ∈ L.eraseIdx j → (some b, c) ∈ L ∧ b ≠ rb := by
    intro b c hm
    rw [List.mem_eraseIdx_iff_getElem?] at hm
    obtain ⟨i, hij, hi⟩ := hm
    refine ⟨List.mem_of_getElem? hi, ?_⟩
    rintro rfl
    exact hij (nodup_inj h.nodup hi hj)
  refine ⟨⟨Nat.le_trans h.ext.next e.next, fun b hb hX => ?_⟩, fun b c hm => ?_, fun b c hm => ?_, h.nodup.sublist (List.eraseIdx_sublist L j)⟩
  · simp only [List.mem_cons, not_or] at hX
    rw [e.same b (Nat.lt_of_lt_of_le hb h.ext.next) (by simpa using hX.1)]
    exact h.ext.same b hb hX.2
  · obtain ⟨h1, h2⟩ := other b c hm
    exact (h.has b c h1).congr (e.same _ (h.own b c h1).2 (by simpa using h2))
  · obtain ⟨h1, _⟩ := other b c hm
    obtain ⟨h3, h4⟩ := h.own b c h1
    exact ⟨h3.imp id (fun h => List.mem_cons_of_mem _ h), Nat.lt_of_lt_of_le h4 e.next⟩

theorem SlQ.toX {q p : Option Nat × Cont} {v : Value} {z n : Nat} {cs : List Value} {H : Heap} {rb : Nat} {ct : Cont} (h : SlQ O q p v z n cs) (hs : St X H0 H L) (j : Nat) (hj : L[j]? = some (some rb, ct)) (hq : q ∈ L.eraseIdx j) (hp : p ∈ L.eraseIdx j) : SlX [rb] O H v z n cs :=
  fun H' e => h _ _ H' _ (hs.rest hj e) hq hp

/-- what is appended to a list that is full -/
theorem step_append_full {o : Oper} {s x : Operand} {t u e n m b ver z : Nat} {bv : Value} {i : TypeInfo} {l new : List Value} {k : Value → Atoms → Prop} (j : Nat) (ho : o.op = .call { callee := .builtin .append, args := #[s, x], argTypes := #[t, u] }) (hu : appTy T u = true) (hs : lk E s = some (.slice (some ⟨b, 0, some ver⟩) n n)) (hx : lk E x = some bv)
    (ht : T.und t = some (.slice e)) (hi : T.info e = some i) (hz : i.size = z) (hj : L[j]? = some (some b, .cells ver l z e)) (hl : l.length = n * z) (hsrc : ∀ H, St X H0 H L → src O H z bv = some (m, new)) (hb : appOkB i = true) (hall : new.all isCell = true) (hlen : new.length = m * z) (hn' : n + m ≤ 1073741824)
    (h : ∀ a' c' p', SlQ O (some b, .cells ver l z e) p' (.slice a' (n + m) c') z (n + m) (l ++ new) → k (.slice a' (n + m) c') (p' :: L)) : StepS T O X H0 E L o k := by
  subst hz
  have hok := appOk.of hb hall hlen
  by_cases hm : m = 0
  · subst hm
    have hnew : new = [] := by simpa using hlen
    subst hnew
    refine step_w (by rw [ho]; rfl) fun H hst => ⟨_, _, _, by rw [ho, opW_append hu hs hx]; exact append_none ht hi (hsrc H hst) hok (.inr ⟨_, _, _, rfl, rfl⟩), hst.ghost (.map []), Nat.le_refl _, ?_⟩
    refine h (some ⟨b, 0, some ver⟩) n _ fun X' H0' H' L' hst' hq _ => ?_
    obtain ⟨jj, hjj⟩ := List.getElem?_of_mem hq
    rw [List.append_nil]
    exact Sl.own hst' hjj hl n
  · have e0 : Nat.beq m 0 = false := by
      cases hb : Nat.beq m 0 with
      | false => rfl
      | true => have := Nat.eq_of_beq_eq_true hb; omega
    have e1 : Nat.blt 1073741824 (n + m) = false := by
      cases hb : Nat.blt 1073741824 (n + m) with
      | false => rfl
      | true => have := Nat.le_of_ble_eq_true hb; omega
    have e2 : Nat.beq n unk = false := by
      cases hb : Nat.beq n unk with
      | false => rfl
      | true => have := Nat.eq_of_beq_eq_true hb; unfold unk at this; omega
    have e3 : Nat.ble (n + m) n = false := by
      cases hb : Nat.ble (n + m) n with
      | false => rfl
      | true => have := Nat.le_of_ble_eq_true hb; omega
    refine step_w (by rw [ho]; rfl) fun H hst => ?_
    have hold : rdN O H b (some ver) (n * i.size) 0 = some l := by rw [← hl]; exact (hst.get hj).rdN (rdL_full l)
    refine ⟨.slice (some ⟨H.next, 0, some 0⟩) (n + m) unk, H.newCells (l ++ new) i.size e, _, ?_, hst.add (ext_new _ _) (Nat.le_refl _) (Nat.lt_succ_self _) (has_newCells _ _ _ _), Nat.le_succ _, ?_⟩
    · rw [ho, opW_append hu hs hx]
      simp only [append, ht, hi, hsrc H hst, hok.bif, cond_false, e0, e1, e2, e3, hold]
    · refine h _ _ _ fun X' H0' H' L' hst' _ hp => ?_
      obtain ⟨jj, hjj⟩ := List.getElem?_of_mem hp
      refine Sl.own hst' hjj ?_ _
      rw [List.length_append, hl, hlen, Nat.add_mul]
end
end Go.Ev.Wk
