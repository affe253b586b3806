/-
  Walks: what looks at memory, what makes it, what writes it.
-/
import Derived.Test.YtmmojhbboomgoaaGreatEvW
namespace Go.Ev.Wk
set_option linter.unusedSimpArgs false
set_option linter.unusedVariables false

def plain (T : Tab) (t : Nat) : Bool :=
  match T.und t with
  | some d => !isAggD d
  | none => false

def aggN (T : Tab) (t : Nat) : Option Nat :=
  match T.und t with
  | some d => bif isAggD d then T.size t else none
  | none => none

/-- a list, written out -/
def normL {α : Type} : List α → Option (List α)
  | [] => some []
  | x :: l => match normL l with
    | some r => some (x :: r)
    | none => none

theorem normL_eq {α : Type} : ∀ {l r : List α}, normL l = some r → r = l
  | [], _, h => by cases h; rfl
  | x :: l, r, h => by
    simp only [normL] at h
    cases hl : normL l with
    | none => rw [hl] at h; cases h
    | some r' => rw [hl] at h; cases h; rw [normL_eq hl]

/-- so many cells from a place on -/
def rdL (l : List Value) : Nat → Nat → Option (List Value)
  | 0, _ => some []
  | n + 1, off => match l[off]? with
    | none => none
    | some v => match rdL l n (off + 1) with
      | none => none
      | some r => some (v :: r)

theorem Has.rd {O : Old} {H : Heap} {b ver esz ty : Nat} {l : List Value} (h : Has H b (.cells ver l esz ty)) {i : Nat} {v : Value} (hv : l[i]? = some v) : rd O H b i (some ver) = some v := by
  obtain ⟨cs, p, h1, h2⟩ := h
  have hb : Nat.beq ver ver = true := Nat.beq_refl ver
  simp only [Ev.rd, h1, Blk.at, hb, cond_true]
  exact h2 i v hv

theorem Has.rdN {O : Old} {H : Heap} {b ver esz ty : Nat} {l : List Value} (h : Has H b (.cells ver l esz ty)) : ∀ {n off : Nat} {r : List Value}, rdL l n off = some r → rdN O H b (some ver) n off = some r
  | 0, _, _, e => by cases e; rfl
  | n + 1, off, r, e => by
    simp only [rdL] at e
    simp only [Ev.rdN]
    cases hv : l[off]? with
    | none => rw [hv] at e; cases e
    | some v =>
      rw [hv] at e
      simp only at e
      cases hr : rdL l n (off + 1) with
      | none => rw [hr] at e; cases e
      | some r' => rw [hr] at e; rw [h.rd hv, h.rdN hr]; exact e

theorem rdL_all : ∀ (l : List Value) (pre : List Value), rdL (pre ++ l) l.length pre.length = some l
  | [], _ => rfl
  | x :: l, pre => by
    simp only [List.length_cons, rdL]
    have : (pre ++ x :: l)[pre.length]? = some x := by simp
    rw [this]
    have h2 := rdL_all l (pre ++ [x])
    simp only [List.append_assoc, List.singleton_append, List.length_append, List.length_singleton] at h2
    rw [h2]

theorem rdL_full (l : List Value) : rdL l l.length 0 = some l := rdL_all l []

section
variable {T : Tab} {O : Old} {X : List Nat} {H0 : Heap} {N : Nat} {E : Env} {L : Atoms}

theorem load_own {H : Heap} {b off ver esz ty i t : Nat} {l : List Value} {v : Value} (hs : St X H0 H L) (hi : L[i]? = some (some b, .cells ver l esz ty)) (hd : plain T t = true) (hv : l[off]? = some v) : load T O H t (.pointer (some ⟨b, off, some ver⟩)) = some v := by
  unfold plain at hd
  unfold load
  cases hu : T.und t with
  | none => rw [hu] at hd; cases hd
  | some d =>
    rw [hu] at hd
    simp only [Bool.not_eq_true'] at hd
    simp only [hd, cond_false]
    exact (hs.get hi).rd hv

theorem load_agg {H : Heap} {b off ver esz ty i t n : Nat} {l c : List Value} (hs : St X H0 H L) (hi : L[i]? = some (some b, .cells ver l esz ty)) (hd : aggN T t = some n) (hv : rdL l n off = some c) : load T O H t (.pointer (some ⟨b, off, some ver⟩)) = some (.agg c.toArray) := by
  unfold aggN at hd
  unfold load
  cases hu : T.und t with
  | none => rw [hu] at hd; cases hd
  | some d =>
    rw [hu] at hd
    simp only at hd
    cases ha : isAggD d with
    | false => rw [ha] at hd; cases hd
    | true =>
      rw [ha] at hd
      simp only [cond_true] at hd
      simp only [ha, cond_true, hd]
      rw [(hs.get hi).rdN hv]

theorem opL_load {H : Heap} {t : Nat} {a : Operand} {p v : Value} (ha : lk E a = some p) (h : load T O H t p = some v) : opL T O H (lk E) (.load t a) = some v := by
  simp only [opL, ha]; exact h

theorem look_own {b off ver esz ty t : Nat} {a : Operand} {l : List Value} {v : Value} (i : Nat) (ha : lk E a = some (.pointer (some ⟨b, off, some ver⟩))) (hi : L[i]? = some (some b, .cells ver l esz ty)) (hd : plain T t = true) (hv : l[off]? = some v) :
    ∀ H, St X H0 H L → opL T O H (lk E) (.load t a) = some v := fun H hs => opL_load ha (load_own hs hi hd hv)

theorem look_agg {b off ver esz ty t n : Nat} {a : Operand} {l c : List Value} (i : Nat) (ha : lk E a = some (.pointer (some ⟨b, off, some ver⟩))) (hi : L[i]? = some (some b, .cells ver l esz ty)) (hd : aggN T t = some n) (hv : rdL l n off = some c) :
    ∀ H, St X H0 H L → opL T O H (lk E) (.load t a) = some (.agg c.toArray) := fun H hs => opL_load ha (load_agg hs hi hd hv)

/-! Making. -/

theorem step_box {o : Oper} {t : Nat} {x : Operand} {v : Value} {c : List Value} {k : Value → Atoms → Prop} (ho : o.op = .box t x) (hx : lk E x = some v) (hc : normL v.cells.toList = some c)
    (h : ∀ b, k (.pointer (some ⟨b, 0, some 0⟩)) ((some b, .cells 0 c 0 t) :: L)) : StepS T O X H0 E L o k := by
  obtain rfl := normL_eq hc
  exact step_a (f := fun b => .pointer (some ⟨b, 0, some 0⟩)) (by rw [ho]; rfl) (fun H => by rw [ho]; simp only [opA, hx]; rfl) h

theorem step_alloc {o : Oper} {t : Nat} {z : Value} {c : List Value} {k : Value → Atoms → Prop} (ho : o.op = .alloc t) (hz : T.zero t = some z) (hcl : closedC z = true) (hc : normL z.cells.toList = some c)
    (h : ∀ b, k (.pointer (some ⟨b, 0, some 0⟩)) ((some b, .cells 0 c 0 t) :: L)) : StepS T O X H0 E L o k := by
  obtain rfl := normL_eq hc
  exact step_a (f := fun b => .pointer (some ⟨b, 0, some 0⟩)) (by rw [ho]; rfl) (fun H => by rw [ho]; simp only [opA, alloc, hz, hcl, cond_true]; rfl) h

/-- the elements' size, the elements' type, the zeros -/
def sliceInfo (T : Tab) (t len : Nat) : Option (Nat × Nat × List Value) :=
  match T.und t with
  | some (.slice elem) => match T.size elem, T.zero elem with
    | some n, some z => bif closedC z && Nat.beq z.cells.size n && Nat.ble 1 n && Nat.ble (len * n) 16777216 then some (n, elem, reps z.cells.toList len) else none
    | _, _ => none
  | _ => none

theorem buildSlice_of {H : Heap} {t len n elem : Nat} {zs l : List Value} {ps : List (Nat × Value)} (hi : sliceInfo T t len = some (n, elem, zs)) (hl : lay (fun i => some (i * n, n)) zs ps = some l) :
    buildSlice T H t len ps = some (.slice (some ⟨H.next, 0, some 0⟩) len len, H.newCells l n elem) := by
  unfold sliceInfo at hi
  unfold buildSlice
  split at hi
  · rename_i e hu
    rw [hu]
    simp only
    split at hi
    · rename_i n' z hn hz
      rw [hn, hz]
      simp only
      cases hb : (closedC z && Nat.beq z.cells.size n' && Nat.ble 1 n' && Nat.ble (len * n') 16777216) with
      | false => rw [hb] at hi; cases hi
      | true =>
        rw [hb] at hi
        simp only [cond_true] at hi ⊢
        cases hi
        rw [hl]
    · cases hi
  · cases hi

theorem step_buildSlice {o : Oper} {t len n elem : Nat} {ps : Array (Nat × Operand)} {pl : List (Nat × Value)} {zs l c : List Value} {k : Value → Atoms → Prop} (ho : o.op = .buildSlice t len ps) (hp : parts (lk E) ps.toList = some pl)
    (hi : sliceInfo T t len = some (n, elem, zs)) (hl : lay (fun i => some (i * n, n)) zs pl = some l) (hc : normL l = some c)
    (h : ∀ b, k (.slice (some ⟨b, 0, some 0⟩) len len) ((some b, .cells 0 c n elem) :: L)) : StepS T O X H0 E L o k := by
  obtain rfl := normL_eq hc
  exact step_a (f := fun b => .slice (some ⟨b, 0, some 0⟩) len len) (by rw [ho]; rfl) (fun H => by rw [ho]; simp only [opA, hp]; exact buildSlice_of hi hl) h

/-! Writing. -/

/-- cells over cells that are there -/
def wrL : List Value → Nat → List Value → Option (List Value)
  | [], _, l => some l
  | v :: r, i, l => bif isCell v && Nat.blt i l.length then wrL r (i + 1) (l.set i v) else none

theorem wrN_of : ∀ {vs : List Value} {i : Nat} {l l' : List Value} {cs : Tr Value}, wrL vs i l = some l' → (∀ j x, l[j]? = some x → cs.get j = some x) → ∃ cs', wrN vs i cs = some cs' ∧ l'.length = l.length ∧ ∀ j x, l'[j]? = some x → cs'.get j = some x
  | [], i, l, l', cs, h, hc => by cases h; exact ⟨cs, rfl, rfl, hc⟩
  | v :: r, i, l, l', cs, h, hc => by
    simp only [wrL] at h
    cases hb : (isCell v && Nat.blt i l.length) with
    | false => rw [hb] at h; cases h
    | true =>
      rw [hb, cond_true] at h
      simp only [Bool.and_eq_true] at hb
      have hlt : i < l.length := Nat.lt_of_succ_le (Nat.le_of_ble_eq_true hb.2)
      obtain ⟨cs', h1, h2, h3⟩ := wrN_of (cs := cs.put i v) h fun j x hj => by
        rw [Tr.get_put]
        rw [List.getElem?_set] at hj
        by_cases e : i = j
        · subst e; rw [if_pos rfl]; rw [if_pos rfl, if_pos hlt] at hj; exact hj
        · rw [if_neg (fun h => e h.symm)]; rw [if_neg e] at hj; exact hc j x hj
      refine ⟨cs', ?_, by rw [h2, List.length_set], h3⟩
      simp only [wrN, hb.1, cond_true, hc i _ (List.getElem?_eq_getElem hlt)]
      exact h1

theorem store_own {H : Heap} {b off ver esz ty i t n : Nat} {l l' : List Value} {x : Value} (hs : St X H0 H L) (hi : L[i]? = some (some b, .cells ver l esz ty)) (hn : T.size t = some n) (hx : Nat.beq x.cells.size n = true) (hw : wrL x.cells.toList off l = some l') :
    ∃ H', store T H t (.pointer (some ⟨b, off, some ver⟩)) x = some H' ∧ St X H0 H' (L.set i (some b, .cells ver l' esz ty)) ∧ H.next ≤ H'.next := by
  obtain ⟨cs, p, h1, h2⟩ := hs.get hi
  obtain ⟨cs', g1, g2, g3⟩ := wrN_of hw h2
  have hb : Nat.beq ver ver = true := Nat.beq_refl ver
  refine ⟨⟨H.blks.put b (.cells cs' l.length ver none esz ty), H.next⟩, ?_, ?_, Nat.le_refl _⟩
  · simp only [store, hn, h1, hb, hx, Bool.and_true, cond_true, g1]
  · refine hs.change hi ⟨Nat.le_refl _, fun c _ hc => Tr.get_put_ne _ _ (by simpa using hc)⟩ ⟨cs', none, ?_, g3⟩
    rw [g2]; exact Tr.get_put_self _ _ _

theorem step_store {o : Oper} {t n b off ver esz ty : Nat} {a x : Operand} {v : Value} {l l' : List Value} {L' : Atoms} {k : Value → Atoms → Prop} (i : Nat) (ho : o.op = .store t a x) (ha : lk E a = some (.pointer (some ⟨b, off, some ver⟩))) (hx : lk E x = some v)
    (hi : L[i]? = some (some b, .cells ver l esz ty)) (hn : T.size t = some n) (hv : Nat.beq v.cells.size n = true) (hw : wrL v.cells.toList off l = some l') {l2 : List Value} (hc : normL l' = some l2) (hL : normL (L.set i (some b, .cells ver l2 esz ty)) = some L')
    (h : k skipped L') : StepS T O X H0 E L o k := by
  obtain rfl := normL_eq hc
  obtain rfl := normL_eq hL
  refine step_w (by rw [ho]; rfl) fun H hs => ?_
  obtain ⟨H', h1, h2, h3⟩ := store_own (T := T) hs hi hn hv hw
  exact ⟨skipped, H', _, by rw [ho]; simp only [opW, ha, hx, h1], h2, h3, h⟩

/-- the same, the cells not written out -/
theorem step_store' {o : Oper} {t n b off ver esz ty : Nat} {a x : Operand} {v : Value} {l l' : List Value} {k : Value → Atoms → Prop} (i : Nat) (ho : o.op = .store t a x) (ha : lk E a = some (.pointer (some ⟨b, off, some ver⟩))) (hx : lk E x = some v)
    (hi : L[i]? = some (some b, .cells ver l esz ty)) (hn : T.size t = some n) (hv : Nat.beq v.cells.size n = true) (hw : wrL v.cells.toList off l = some l')
    (h : k skipped (L.set i (some b, .cells ver l' esz ty))) : StepS T O X H0 E L o k := by
  refine step_w (by rw [ho]; rfl) fun H hs => ?_
  obtain ⟨H', h1, h2, h3⟩ := store_own (T := T) hs hi hn hv hw
  exact ⟨skipped, H', _, by rw [ho]; simp only [opW, ha, hx, h1], h2, h3, h⟩

/-! Slices that are read. -/

noncomputable def eszOf (H : Heap) (b : Nat) : Option Nat :=
  match H.blks.get b with
  | some (.cells _ _ _ _ esz _) => some esz
  | _ => none

/-- A slice of n elements of z cells each, and what these hold. -/
def Sl (O : Old) (H : Heap) (v : Value) (z n : Nat) (cs : List Value) : Prop :=
  cs.length = n * z ∧ ((v = .slice none 0 0 ∧ n = 0) ∨ ∃ b off s cap, v = .slice (some ⟨b, off, s⟩) n cap ∧ rdN O H b s (n * z) off = some cs ∧ (s = none → n ≤ cap) ∧ ∀ ver, s = some ver → b < H.next ∧ eszOf H b = some z)

/-- the place of an element -/
def elemPtr (v : Value) (z i : Nat) : Value :=
  match v with
  | .slice (some ⟨b, off, s⟩) _ _ => .pointer (some ⟨b, off + i * z, s⟩)
  | _ => .pointer none

theorem rdN_ext {H H' : Heap} {b : Nat} {s : Option Nat} (h : ∀ ver, s = some ver → H'.blks.get b = H.blks.get b) : ∀ (n off : Nat), rdN O H' b s n off = rdN O H b s n off
  | 0, _ => rfl
  | n + 1, off => by
    simp only [rdN]
    have : rd O H' b off s = rd O H b off s := by
      cases s with
      | none => rfl
      | some ver => simp only [rd, h ver rfl]
    rw [this, rdN_ext h n]

theorem Sl.ext {H H' : Heap} {v : Value} {z n : Nat} {cs : List Value} (h : Sl O H v z n cs) (e : Ext H H') : Sl O H' v z n cs := by
  refine ⟨h.1, h.2.imp id ?_⟩
  rintro ⟨b, off, s, cap, h1, h2, h3, h4⟩
  have same : ∀ ver, s = some ver → H'.blks.get b = H.blks.get b := fun ver hv => e.same b (h4 ver hv).1 (by simp)
  refine ⟨b, off, s, cap, h1, (rdN_ext same _ _).trans h2, h3, fun ver hv => ⟨Nat.lt_of_lt_of_le (h4 ver hv).1 e.next, ?_⟩⟩
  unfold eszOf
  rw [same ver hv]
  exact (h4 ver hv).2

theorem Sl.at {H : Heap} {v : Value} {z n : Nat} {cs : List Value} (h : Sl O H0 v z n cs) (hs : St [] H0 H L) : Sl O H v z n cs := h.ext hs.ext

theorem Sl.own {H : Heap} {b ver n z ty i : Nat} {l : List Value} (hs : St X H0 H L) (hi : L[i]? = some (some b, .cells ver l z ty)) (hl : l.length = n * z) (cap : Nat) : Sl O H (.slice (some ⟨b, 0, some ver⟩) n cap) z n l := by
  refine ⟨hl, .inr ⟨b, 0, some ver, cap, rfl, ?_, fun h => (by cases h), fun ver' _ => ⟨(hs.own _ _ (List.mem_of_getElem? hi)).2, ?_⟩⟩⟩
  · rw [← hl]; exact (hs.get hi).rdN (rdL_full l)
  · obtain ⟨cs, p, h1, _⟩ := hs.get hi
    simp only [eszOf, h1]

theorem Sl.nil {H : Heap} {z : Nat} : Sl O H (.slice none 0 0) z 0 [] := ⟨by simp, .inl ⟨rfl, rfl⟩⟩

theorem Sl.len {H H' : Heap} {v : Value} {z n t e : Nat} {cs : List Value} (h : Sl O H v z n cs) (ht : T.und t = some (.slice e)) : lenV T H' t v = some (.int .i64 n) := by
  rcases h.2 with ⟨rfl, rfl⟩ | ⟨b, off, s, cap, rfl, _⟩
  · simp only [lenV, ht]
  · simp only [lenV, ht]

theorem rdN_get {H : Heap} {b : Nat} {s : Option Nat} : ∀ {n off : Nat} {cs : List Value}, rdN O H b s n off = some cs → ∀ {i : Nat} {v : Value}, cs[i]? = some v → rd O H b (off + i) s = some v
  | 0, _, _, h, i, v, hv => by cases h; simp at hv
  | n + 1, off, cs, h, i, v, hv => by
    simp only [rdN] at h
    cases h1 : rd O H b off s with
    | none => rw [h1] at h; cases h
    | some x =>
      rw [h1] at h
      simp only at h
      cases h2 : rdN O H b s n (off + 1) with
      | none => rw [h2] at h; cases h
      | some r =>
        rw [h2] at h; cases h
        cases i with
        | zero => simp at hv; subst hv; exact h1
        | succ i =>
          simp at hv
          have := rdN_get h2 hv
          rwa [Nat.add_assoc, Nat.add_comm 1 i] at this

theorem rdN_length {H : Heap} {b : Nat} {s : Option Nat} : ∀ {n off : Nat} {cs : List Value}, rdN O H b s n off = some cs → cs.length = n
  | 0, _, _, h => by cases h; rfl
  | n + 1, off, cs, h => by
    simp only [rdN] at h
    cases h1 : rd O H b off s with
    | none => rw [h1] at h; cases h
    | some x =>
      rw [h1] at h
      simp only at h
      cases h2 : rdN O H b s n (off + 1) with
      | none => rw [h2] at h; cases h
      | some r => rw [h2] at h; cases h; simp [rdN_length h2]

theorem rdN_of_get {H : Heap} {b : Nat} {s : Option Nat} : ∀ {n off : Nat} {cs : List Value}, cs.length = n → (∀ i v, cs[i]? = some v → rd O H b (off + i) s = some v) → rdN O H b s n off = some cs
  | 0, _, cs, hl, h => by cases cs with | nil => rfl | cons => simp at hl
  | n + 1, off, cs, hl, h => by
    cases cs with
    | nil => simp at hl
    | cons x r =>
      simp only [rdN]
      have h0 := h 0 x (by simp)
      rw [Nat.add_zero] at h0
      rw [h0]
      simp only
      rw [rdN_of_get (cs := r) (by simpa using hl) fun i v hv => by
        have := h (i + 1) v (by simpa using hv)
        rwa [show off + 1 + i = off + (i + 1) by omega]]

theorem Sl.idx {H : Heap} {v : Value} {z n t e : Nat} {cs : List Value} {k : IntKind} {x : Int} (h : Sl O H v z n cs) (ht : T.und t = some (.slice e)) (hz : T.size e = some z) (h0 : 0 ≤ x) (h1 : x < n) : indexAt T t v (.int k x) = some (elemPtr v z x.toNat) := by
  rcases h.2 with ⟨rfl, rfl⟩ | ⟨b, off, s, cap, rfl, _⟩
  · omega
  · simp only [indexAt, ht, hz]
    rw [if_pos ⟨h0, by omega⟩]
    rfl

theorem Sl.ld {H : Heap} {v x : Value} {n e i : Nat} {cs : List Value} (h : Sl O H v 1 n cs) (he : plain T e = true) (hx : cs[i]? = some x) : load T O H e (elemPtr v 1 i) = some x := by
  rcases h.2 with ⟨rfl, rfl⟩ | ⟨b, off, s, cap, rfl, h2, _⟩
  · have := h.1
    have h0 : i < cs.length := (List.getElem?_eq_some_iff.1 hx).1
    omega
  · have := rdN_get h2 hx
    unfold plain at he
    simp only [elemPtr, load]
    cases hu : T.und e with
    | none => rw [hu] at he; cases he
    | some d =>
      rw [hu] at he
      simp only [Bool.not_eq_true'] at he
      simp only [he, cond_false, Nat.mul_one]
      exact this

theorem Sl.ldA {H : Heap} {v : Value} {z n e i : Nat} {cs c : List Value} (h : Sl O H v z n cs) (he : aggN T e = some z) (hz : 0 < z) (hi : i < n) (hx : (cs.drop (i * z)).take z = c) : load T O H e (elemPtr v z i) = some (.agg c.toArray) := by
  rcases h.2 with ⟨rfl, rfl⟩ | ⟨b, off, s, cap, rfl, h2, _⟩
  · omega
  · unfold aggN at he
    simp only [elemPtr, load]
    cases hu : T.und e with
    | none => rw [hu] at he; cases he
    | some d =>
      rw [hu] at he
      simp only at he
      cases ha : isAggD d with
      | false => rw [ha] at he; cases he
      | true =>
        rw [ha] at he
        simp only [cond_true] at he
        simp only [ha, cond_true, he]
        have hle : (i + 1) * z ≤ n * z := Nat.mul_le_mul_right z hi
        have hl := h.1
        have hlen : c.length = z := by
          rw [← hx, List.length_take, List.length_drop]
          rw [Nat.add_mul] at hle
          omega
        rw [rdN_of_get (cs := c) hlen fun j y hj => by
          have : cs[i * z + j]? = some y := by
            rw [← hx, List.getElem?_take] at hj
            split at hj
            · rw [List.getElem?_drop] at hj; exact hj
            · cases hj
          have := rdN_get h2 this
          rwa [← Nat.add_assoc] at this]

theorem Sl.src {H : Heap} {v : Value} {z n : Nat} {cs : List Value} (h : Sl O H v z n cs) : src O H z v = some (n, cs) := by
  rcases h.2 with ⟨rfl, rfl⟩ | ⟨b, off, s, cap, rfl, h2, _⟩
  · have := h.1
    simp at this
    subst this
    rfl
  · simp only [Ev.src, h2]

/-- the part of a slice from one element on up to another one: where it lies, how much room there is -/
def cutAddr (a : Option Addr) (z c lo : Nat) : Option Addr :=
  match a with
  | none => none
  | some ⟨b, off, some ver⟩ => some ⟨b, off + lo * z, some ver⟩
  | some ⟨b, off, none⟩ => some (if c = lo then ⟨b, off, none⟩ else ⟨b, off + lo * z, none⟩)

def cutCap' (a : Option Addr) (c lo : Nat) : Nat :=
  match a with
  | none => 0
  | some ⟨_, _, some _⟩ => bif Nat.beq c unk then unk else c - lo
  | some ⟨_, _, none⟩ => c - lo

/-- a bound as it stands -/
def numO (d : Nat) : Option Value → Option Int
  | none => some d
  | some (.int _ i) => some i
  | _ => none

theorem bounds_of {len cap l h : Nat} {lo hi : Option Value} (h1 : numO 0 lo = some (l : Int)) (h2 : numO len hi = some (h : Int)) (hl : l ≤ h) (hh : h ≤ len) (hc : len ≤ cap) : bounds len cap lo hi none = some (l, h, cap) := by
  have e1 : ∀ i : Int, i = h → (if 0 ≤ i ∧ i ≤ (cap : Int) then some i.toNat else none) = some h := by rintro i rfl; rw [if_pos ⟨by omega, by omega⟩]; simp
  have e2 : ∀ i : Int, i = l → (if 0 ≤ i ∧ i ≤ (h : Int) then some (i.toNat, h, cap) else none) = some (l, h, cap) := by rintro i rfl; rw [if_pos ⟨by omega, by omega⟩]; simp
  have b1 : bounds len cap none none none = some (0, len, cap) := rfl
  have b2 : ∀ k i, bounds len cap (some (.int k i)) none none = if 0 ≤ i ∧ i ≤ (len : Int) then some (i.toNat, len, cap) else none := fun _ _ => rfl
  have b3 : ∀ k j, bounds len cap none (some (.int k j)) none = match (if 0 ≤ j ∧ j ≤ (cap : Int) then some j.toNat else none) with | none => none | some h => some (0, h, cap) := fun _ _ => rfl
  have b4 : ∀ k i k' j, bounds len cap (some (.int k i)) (some (.int k' j)) none = match (if 0 ≤ j ∧ j ≤ (cap : Int) then some j.toNat else none) with | none => none | some h => if 0 ≤ i ∧ i ≤ (h : Int) then some (i.toNat, h, cap) else none := fun _ _ _ _ => rfl
  cases hi with
  | none =>
    simp only [numO, Option.some.injEq] at h2
    have : len = h := by omega
    subst this
    cases lo with
    | none =>
      simp only [numO, Option.some.injEq] at h1
      have : l = 0 := by omega
      subst this
      exact b1
    | some v =>
      cases v with
      | int k i =>
        simp only [numO, Option.some.injEq] at h1
        rw [b2]
        exact e2 i h1
      | _ => simp [numO] at h1
  | some w =>
    cases w with
    | int k' j =>
      simp only [numO, Option.some.injEq] at h2
      cases lo with
      | none =>
        simp only [numO, Option.some.injEq] at h1
        have : l = 0 := by omega
        subst this
        rw [b3, e1 j h2]
      | some v =>
        cases v with
        | int k i =>
          simp only [numO, Option.some.injEq] at h1
          rw [b4, e1 j h2]
          exact e2 i h1
        | _ => simp [numO] at h1
    | _ => simp [numO] at h2

theorem Sl.cutV {H : Heap} {a : Option Addr} {n c z t e l h : Nat} {cs : List Value} {lo hi : Option Value} (hs : Sl O H (.slice a n c) z n cs) (ht : T.und t = some (.slice e)) (hz : T.size e = some z) (h1 : numO 0 lo = some (l : Int)) (h2 : numO n hi = some (h : Int)) (hl : l ≤ h) (hh : h ≤ n) :
    sliceV T H t (.slice a n c) lo hi none = some (.slice (cutAddr a z c l) (h - l) (cutCap' a c l)) := by
  rcases hs.2 with ⟨e0, rfl⟩ | ⟨b, off, s, cap, e0, _, h3, h4⟩
  · cases e0
    have hb := bounds_of (cap := 0) h1 h2 hl hh (Nat.le_refl _)
    have : h = 0 := by omega
    subst this
    simp only [sliceV, ht, hz, hb, cutAddr, cutCap']
    simp
  · cases e0
    cases s with
    | none =>
      have hb := bounds_of (cap := c) h1 h2 hl hh (h3 rfl)
      simp only [sliceV, ht, hz, hb, cutAddr, cutCap']
    | some ver =>
      have hb := bounds_of (cap := n) h1 h2 hl hh (Nat.le_refl _)
      have he := (h4 ver rfl).2
      unfold eszOf at he
      split at he
      · rename_i hg
        cases he
        simp only [sliceV, ht, hz, hg, hb, cutAddr, cutCap', cutCap, if_neg (fun h : ¬ (z = z) => h rfl), ne_eq, not_true, if_false]
      · cases he

theorem Sl.cut {H : Heap} {a : Option Addr} {n c z l h : Nat} {cs : List Value} (hs : Sl O H (.slice a n c) z n cs) (hl : l ≤ h) (hh : h ≤ n) :
    Sl O H (.slice (cutAddr a z c l) (h - l) (cutCap' a c l)) z (h - l) ((cs.drop (l * z)).take ((h - l) * z)) := by
  have hlen : ((cs.drop (l * z)).take ((h - l) * z)).length = (h - l) * z := by
    rw [List.length_take, List.length_drop, hs.1, ← Nat.sub_mul]
    exact Nat.min_eq_left (Nat.mul_le_mul_right z (by omega))
  refine ⟨hlen, ?_⟩
  rcases hs.2 with ⟨e0, rfl⟩ | ⟨b, off, s, cap, e0, h2, h3, h4⟩
  · cases e0
    have : h = 0 := by omega
    subst this
    exact .inl ⟨by simp [cutAddr, cutCap'], by omega⟩
  · cases e0
    right
    have key : ∀ off', off' = off + l * z ∨ (h - l) * z = 0 → rdN O H b s ((h - l) * z) off' = some ((cs.drop (l * z)).take ((h - l) * z)) := by
      intro off' ho
      refine rdN_of_get hlen fun i v hv => ?_
      have hi : i < (h - l) * z := by rw [← hlen]; exact (List.getElem?_eq_some_iff.1 hv).1
      rcases ho with rfl | ho
      · rw [List.getElem?_take, if_pos hi, List.getElem?_drop] at hv
        have := rdN_get h2 hv
        rwa [← Nat.add_assoc] at this
      · omega
    cases s with
    | none =>
      refine ⟨b, if c = l then off else off + l * z, none, c - l, ?_, key _ ?_, fun _ => ?_, fun ver hv => by cases hv⟩
      · simp only [cutAddr, cutCap']; split <;> rfl
      · by_cases hcl : c = l
        · right
          have := h3 rfl
          have : h - l = 0 := by omega
          rw [this, Nat.zero_mul]
        · rw [if_neg hcl]; exact .inl rfl
      · have := h3 rfl; omega
    | some ver =>
      refine ⟨b, off + l * z, some ver, _, rfl, key _ (.inl rfl), fun h => (by cases h), fun ver' hv => ?_⟩
      cases hv
      exact h4 ver rfl

theorem Sl.cutM {α : Type} {f : α → Value} {H : Heap} {a : Option Addr} {n c l h : Nat} {cs : List α} (hs : Sl O H (.slice a n c) 1 n (cs.map f)) (hl : l ≤ h) (hh : h ≤ n) :
    Sl O H (.slice (cutAddr a 1 c l) (h - l) (cutCap' a c l)) 1 (h - l) (((cs.drop l).take (h - l)).map f) := by
  have := hs.cut hl hh
  rwa [Nat.mul_one, Nat.mul_one, ← List.map_drop, ← List.map_take] at this

theorem look_cut {t e z n c l h : Nat} {x : Operand} {lo hi : Option Operand} {vl vh : Option Value} {a : Option Addr} {cs : List Value} {i j : Int} (hx : lk E x = some (.slice a n c)) (hlo : optV (lk E) lo = some vl) (hhi : optV (lk E) hi = some vh) (h1 : numO 0 vl = some i) (hi' : i = l) (h2 : numO n vh = some j) (hj' : j = h)
    (hs : ∀ H, St X H0 H L → Sl O H (.slice a n c) z n cs) (ht : T.und t = some (.slice e)) (hz : T.size e = some z) (hl : l ≤ h) (hh : h ≤ n) :
    ∀ H, St X H0 H L → opL T O H (lk E) (.slice t x lo hi none) = some (.slice (cutAddr a z c l) (h - l) (cutCap' a c l)) := by
  intro H hst
  subst hi'; subst hj'
  have hm : optV (lk E) none = some none := rfl
  simp only [opL, hx, hlo, hhi, hm]
  exact (hs H hst).cutV ht hz h1 h2 hl hh

/-! Appending. -/

/-- what is appended may be -/
def appOk (i : TypeInfo) (n : Nat) (new : List Value) : Prop := new.all isCell = true ∧ 1 ≤ i.size ∧ i.bytes ≤ 65536 ∧ zeroOk i = true ∧ new.length = n * i.size

theorem appOk.bif {i : TypeInfo} {n : Nat} {new : List Value} (h : appOk i n new) : (!(new.all isCell) || !(Nat.ble 1 i.size) || Nat.blt 65536 i.bytes || !(zeroOk i) || !(Nat.beq new.length (n * i.size))) = false := by
  obtain ⟨h1, h2, h3, h4, h5⟩ := h
  have e1 : Nat.ble 1 i.size = true := Nat.ble_eq_true_of_le h2
  have e2 : Nat.blt 65536 i.bytes = false := by
    cases hb : Nat.blt 65536 i.bytes with
    | false => rfl
    | true => have := Nat.le_of_ble_eq_true hb; omega
  have e3 : Nat.beq new.length (n * i.size) = true := by rw [h5]; exact Nat.beq_refl _
  simp [h1, e1, e2, h4, e3]

theorem append_nil {H : Heap} {t e n : Nat} {x : Value} {i : TypeInfo} {new : List Value} (ht : T.und t = some (.slice e)) (hi : T.info e = some i) (hs : src O H i.size x = some (n, new)) (ha : appOk i n new) (hn : 0 < n) (hn' : n ≤ 1073741824) :
    append T O H t (.slice none 0 0) x = some (.slice (some ⟨H.next, 0, some 0⟩) n unk, H.newCells new i.size e) := by
  have e0 : Nat.beq n 0 = false := by
    cases hb : Nat.beq n 0 with
    | false => rfl
    | true => have := Nat.eq_of_beq_eq_true hb; omega
  simp only [append, ht, hi, hs, ha.bif, cond_false, e0, Nat.ble_eq_true_of_le hn', cond_true]

theorem append_none {H : Heap} {t e : Nat} {s x : Value} {i : TypeInfo} {new : List Value} (ht : T.und t = some (.slice e)) (hi : T.info e = some i) (hs : src O H i.size x = some (0, new)) (ha : appOk i 0 new)
    (hv : s = .slice none 0 0 ∨ ∃ a len cap, s = .slice (some a) len cap ∧ (a.spot.isSome || Nat.ble len cap) = true) : append T O H t s x = some (s, H) := by
  have e0 : Nat.beq 0 0 = true := rfl
  rcases hv with rfl | ⟨⟨b, off, spot⟩, len, cap, rfl, h⟩
  · simp only [append, ht, hi, hs, ha.bif, cond_false, e0, cond_true]
  · simp only at h
    simp only [append, ht, hi, hs, ha.bif, cond_false, e0, cond_true, h]

theorem append_own {H : Heap} {t e n b off ver len j : Nat} {x : Value} {i : TypeInfo} {l new : List Value} (hst : St X H0 H L) (hj : L[j]? = some (some b, .cells ver l i.size e)) (ht : T.und t = some (.slice e)) (hi : T.info e = some i) (hs : src O H i.size x = some (n, new)) (ha : appOk i n new) (hn : 0 < n) (hn' : len + n ≤ 1073741824) (hl : off + len * i.size = l.length) :
    ∃ H', append T O H t (.slice (some ⟨b, off, some ver⟩) len unk) x = some (.slice (some ⟨b, off, some (ver + 1)⟩) (len + n) unk, H') ∧ St X H0 H' (L.set j (some b, .cells (ver + 1) (l ++ new) i.size e)) ∧ H.next ≤ H'.next := by
  obtain ⟨cs, p, h1, h2⟩ := hst.get hj
  have e0 : Nat.beq n 0 = false := by
    cases hb : Nat.beq n 0 with
    | false => rfl
    | true => have := Nat.eq_of_beq_eq_true hb; omega
  have e1 : Nat.blt 1073741824 (len + n) = false := by
    cases hb : Nat.blt 1073741824 (len + n) with
    | false => rfl
    | true => have := Nat.le_of_ble_eq_true hb; omega
  have e2 : Nat.beq unk unk = true := Nat.beq_refl _
  have e3 : (Nat.beq ver ver && Nat.beq i.size i.size && Nat.beq e e && Nat.beq (off + len * i.size) l.length) = true := by
    rw [hl]; simp only [Nat.beq_refl, Bool.and_self]
  refine ⟨⟨H.blks.put b (.cells (Tr.fill new l.length cs) (l.length + new.length) (ver + 1) (some l.length) i.size e), H.next⟩, ?_, ?_, Nat.le_refl _⟩
  · simp only [append, ht, hi, hs, ha.bif, cond_false, e0, e1, e2, cond_true, h1, e3]
  · refine hst.change hj ⟨Nat.le_refl _, fun c _ hc => Tr.get_put_ne _ _ (by simpa using hc)⟩ ⟨Tr.fill new l.length cs, some l.length, ?_, fun k y hk => ?_⟩
    · rw [List.length_append]; exact Tr.get_put_self _ _ _
    · rw [Tr.get_fill]
      by_cases hlt : k < l.length
      · rw [if_neg (by omega)]
        rw [List.getElem?_append_left hlt] at hk
        exact h2 k y hk
      · have hk' := (List.getElem?_eq_some_iff.1 hk).1
        rw [List.length_append] at hk'
        rw [if_pos ⟨by omega, by omega⟩]
        rw [List.getElem?_append_right (by omega)] at hk
        exact hk

/-- no list of numbers is appended as bytes -/
def appTy (T : Tab) (u : Nat) : Bool :=
  match T.und u with
  | some (.int _) => false
  | some _ => true
  | none => false

theorem opW_append {H : Heap} {call : Ev.Call} {s x : Operand} {t u : Nat} {a b : Value} (hu : appTy T u = true) (hs : lk E s = some a) (hx : lk E x = some b) : opW T O call H (lk E) (.call { callee := .builtin .append, args := #[s, x], argTypes := #[t, u] }) = append T O H t a b := by
  unfold appTy at hu
  simp only [opW, hs, hx]
  cases h : T.und u with
  | none => rw [h] at hu; cases hu
  | some d => rw [h] at hu; cases d <;> first | rfl | (simp at hu; done) | (simp only [h])

theorem step_append_nil {o : Oper} {s x : Operand} {t u e n : Nat} {b : Value} {i : TypeInfo} {new : List Value} {k : Value → Atoms → Prop} (ho : o.op = .call { callee := .builtin .append, args := #[s, x], argTypes := #[t, u] }) (hu : appTy T u = true) (hs : lk E s = some (.slice none 0 0)) (hx : lk E x = some b)
    (ht : T.und t = some (.slice e)) (hi : T.info e = some i) (hsrc : ∀ H, St X H0 H L → src O H i.size b = some (n, new)) (ha : appOk i n new) (hn : 0 < n) (hn' : n ≤ 1073741824)
    (h : ∀ c, k (.slice (some ⟨c, 0, some 0⟩) n unk) ((some c, .cells 0 new i.size e) :: L)) : StepS T O X H0 E L o k :=
  step_w (by rw [ho]; rfl) fun H hst => ⟨_, _, _, by rw [ho, opW_append hu hs hx]; exact append_nil ht hi (hsrc H hst) ha hn hn', hst.add (ext_new _ _) (Nat.le_refl _) (Nat.lt_succ_self _) (has_newCells _ _ _ _), Nat.le_succ _, h H.next⟩

theorem step_append_none {o : Oper} {s x : Operand} {t u e : Nat} {a b : Value} {i : TypeInfo} {new : List Value} {k : Value → Atoms → Prop} (ho : o.op = .call { callee := .builtin .append, args := #[s, x], argTypes := #[t, u] }) (hu : appTy T u = true) (hs : lk E s = some a) (hx : lk E x = some b)
    (ht : T.und t = some (.slice e)) (hi : T.info e = some i) (hsrc : ∀ H, St X H0 H L → src O H i.size b = some (0, new)) (ha : appOk i 0 new)
    (hv : a = .slice none 0 0 ∨ ∃ c len cap, a = .slice (some c) len cap ∧ (c.spot.isSome || Nat.ble len cap) = true) (h : k a L) : StepS T O X H0 E L o k :=
  step_w (by rw [ho]; rfl) fun H hst => ⟨_, _, _, by rw [ho, opW_append hu hs hx]; exact append_none ht hi (hsrc H hst) ha hv, hst, Nat.le_refl _, h⟩

theorem step_append_own {o : Oper} {s x : Operand} {t u e n c off ver len : Nat} {b : Value} {i : TypeInfo} {l new : List Value} {k : Value → Atoms → Prop} (j : Nat) (ho : o.op = .call { callee := .builtin .append, args := #[s, x], argTypes := #[t, u] }) (hu : appTy T u = true) (hs : lk E s = some (.slice (some ⟨c, off, some ver⟩) len unk)) (hx : lk E x = some b)
    (ht : T.und t = some (.slice e)) (hi : T.info e = some i) (hj : L[j]? = some (some c, .cells ver l i.size e)) (hsrc : ∀ H, St X H0 H L → src O H i.size b = some (n, new)) (ha : appOk i n new) (hn : 0 < n) (hn' : len + n ≤ 1073741824) (hl : off + len * i.size = l.length)
    (h : k (.slice (some ⟨c, off, some (ver + 1)⟩) (len + n) unk) (L.set j (some c, .cells (ver + 1) (l ++ new) i.size e))) : StepS T O X H0 E L o k :=
  step_w (by rw [ho]; rfl) fun H hst => by
    obtain ⟨H', h1, h2, h3⟩ := append_own (T := T) (O := O) hst hj ht hi (hsrc H hst) ha hn hn' hl
    exact ⟨_, _, _, by rw [ho, opW_append hu hs hx]; exact h1, h2, h3, h⟩

theorem src_own {H : Heap} {b ver n z ty j : Nat} {l : List Value} (hst : St X H0 H L) (hj : L[j]? = some (some b, .cells ver l z ty)) (hl : l.length = n * z) (cap : Nat) : src O H z (.slice (some ⟨b, 0, some ver⟩) n cap) = some (n, l) := (Sl.own hst hj hl cap).src

/-- A list that is the walk's own, with nothing behind it: none yet, or a block. -/
inductive OwnA (z ty : Nat) : Option Addr → Nat → Nat → List Value → Option Nat × Cont → Prop
  | nil (c : Cont) : OwnA z ty none 0 0 [] (none, c)
  | own {b ver n : Nat} {l : List Value} (hl : l.length = n * z) : OwnA z ty (some ⟨b, 0, some ver⟩) n unk l (some b, .cells ver l z ty)

theorem OwnA.sl {z ty n c i : Nat} {a : Option Addr} {l : List Value} {p : Option Nat × Cont} {H : Heap} (h : OwnA z ty a n c l p) (hst : St X H0 H L) (hi : L[i]? = some p) : Sl O H (.slice a n c) z n l := by
  cases h with
  | nil c => exact Sl.nil
  | own hl => exact Sl.own hst hi hl _

theorem OwnA.len {z ty n c : Nat} {a : Option Addr} {l : List Value} {p : Option Nat × Cont} (h : OwnA z ty a n c l p) : l.length = n * z := by
  cases h with
  | nil c => simp
  | own hl => exact hl

theorem step_append' {o : Oper} {s x : Operand} {t u e n m c : Nat} {a : Option Addr} {b : Value} {i : TypeInfo} {l new : List Value} {p : Option Nat × Cont} {k : Value → Atoms → Prop} (j : Nat) (ho : o.op = .call { callee := .builtin .append, args := #[s, x], argTypes := #[t, u] }) (hu : appTy T u = true) (hs : lk E s = some (.slice a n c)) (hx : lk E x = some b)
    (ht : T.und t = some (.slice e)) (hi : T.info e = some i) (hj : L[j]? = some p) (hown : OwnA i.size e a n c l p) (hsrc : ∀ H, St X H0 H L → src O H i.size b = some (m, new)) (ha : appOk i m new) (hn' : n + m ≤ 1073741824)
    (h : ∀ a' c' p', OwnA i.size e a' (n + m) c' (l ++ new) p' → k (.slice a' (n + m) c') (L.set j p')) : StepS T O X H0 E L o k := by
  have hlen : new.length = m * i.size := ha.2.2.2.2
  have hset : L.set j p = L := by
    apply List.ext_getElem?
    intro q
    rw [List.getElem?_set]
    by_cases hq : j = q
    · subst hq
      rw [if_pos rfl, if_pos (List.getElem?_eq_some_iff.1 hj).1, hj]
    · rw [if_neg hq]
  by_cases hm : m = 0
  · subst hm
    have hnew : new = [] := by simpa using hlen
    subst hnew
    have hk := h a c p (by simpa using hown)
    rw [hset, Nat.add_zero] at hk
    refine step_append_none ho hu hs hx ht hi hsrc ha ?_ hk
    cases hown with
    | nil c => exact .inl rfl
    | own hl => exact .inr ⟨_, _, _, rfl, rfl⟩
  · cases hown with
    | nil c0 =>
      refine step_w (by rw [ho]; rfl) fun H hst => ?_
      have hk := h (some ⟨H.next, 0, some 0⟩) unk (some H.next, .cells 0 new i.size e) (by rw [Nat.zero_add]; exact .own hlen)
      rw [Nat.zero_add] at hk
      exact ⟨_, _, _, by rw [ho, opW_append hu hs hx]; exact append_nil ht hi (hsrc H hst) ha (by omega) (by omega), hst.put hj (.inr ⟨rfl, Nat.le_refl _⟩) (Nat.lt_succ_self _) ((ext_new _ _).to) (has_newCells _ _ _ _), Nat.le_succ _, hk⟩
    | own hl =>
      rename_i bb ver
      refine step_append_own j ho hu hs hx ht hi hj hsrc ha (by omega) hn' (by omega) (h _ _ _ (.own ?_))
      rw [List.length_append, hl, hlen, Nat.add_mul]

def appOkB (i : TypeInfo) : Bool := Nat.ble 1 i.size && Nat.ble i.bytes 65536 && zeroOk i

theorem appOk.of {i : TypeInfo} {n : Nat} {new : List Value} (h : appOkB i = true) (h1 : new.all isCell = true) (h2 : new.length = n * i.size) : appOk i n new := by
  simp only [appOkB, Bool.and_eq_true] at h
  exact ⟨h1, Nat.le_of_ble_eq_true h.1.1, Nat.le_of_ble_eq_true h.1.2, h.2, h2⟩

theorem step_append {o : Oper} {s x : Operand} {t u e n m c : Nat} {a : Option Addr} {b : Value} {i : TypeInfo} {l new : List Value} {p : Option Nat × Cont} {k : Value → Atoms → Prop} (j z : Nat) (ho : o.op = .call { callee := .builtin .append, args := #[s, x], argTypes := #[t, u] }) (hu : appTy T u = true) (hs : lk E s = some (.slice a n c)) (hx : lk E x = some b)
    (ht : T.und t = some (.slice e)) (hi : T.info e = some i) (hz : i.size = z) (hj : L[j]? = some p) (hown : OwnA z e a n c l p) (hsrc : ∀ H, St X H0 H L → src O H z b = some (m, new)) (hb : appOkB i = true) (hall : new.all isCell = true) (hlen : new.length = m * z) (hn' : n + m ≤ 1073741824)
    (h : ∀ a' c' p', OwnA z e a' (n + m) c' (l ++ new) p' → k (.slice a' (n + m) c') (L.set j p')) : StepS T O X H0 E L o k := by
  subst hz
  exact step_append' j ho hu hs hx ht hi hj hown hsrc (appOk.of hb hall hlen) hn' h

theorem allCell_map {α : Type} {f : α → Value} (hf : ∀ x, isCell (f x) = true) (l : List α) : (l.map f).all isCell = true := by
  simp only [List.all_map, List.all_eq_true]
  intro x _
  exact hf x

theorem look_cut0 {t e z n c h : Nat} {x : Operand} {lo hi : Option Operand} {vl vh : Option Value} {a : Option Addr} {cs : List Value} {i j : Int} (hx : lk E x = some (.slice a n c)) (hlo : optV (lk E) lo = some vl) (hhi : optV (lk E) hi = some vh) (h1 : numO 0 vl = some i) (hi' : i = 0) (h2 : numO n vh = some j) (hj' : j = h)
    (hs : ∀ H, St X H0 H L → Sl O H (.slice a n c) z n cs) (ht : T.und t = some (.slice e)) (hz : T.size e = some z) (hh : h ≤ n) :
    ∀ H, St X H0 H L → opL T O H (lk E) (.slice t x lo hi none) = some (.slice (cutAddr a z c 0) h (cutCap' a c 0)) :=
  look_cut (l := 0) hx hlo hhi h1 (by omega) h2 hj' hs ht hz (Nat.zero_le _) hh

theorem Sl.cutM0 {α : Type} {f : α → Value} {H : Heap} {a : Option Addr} {n c h : Nat} {cs : List α} (hs : Sl O H (.slice a n c) 1 n (cs.map f)) (hh : h ≤ n) :
    Sl O H (.slice (cutAddr a 1 c 0) h (cutCap' a c 0)) 1 h ((cs.take h).map f) := hs.cutM (Nat.zero_le h) hh

theorem Sl.cast {H : Heap} {v : Value} {z n n' : Nat} {cs cs' : List Value} (h : Sl O H v z n cs) (e : cs = cs') (en : n = n') : Sl O H v z n' cs' := en ▸ e ▸ h

theorem OpsS.ghost {all ops : List Oper} {Q : Env → Atoms → Prop} (h : OpsS T O X H0 N all ops E ((none, .map []) :: L) Q) : OpsS T O X H0 N all ops E L Q :=
  .mk fun H hs τ ht => h.run H (hs.ghost _) τ ht

theorem ExecS.ghost {c : Code} {Q : Ex → Env → Atoms → Prop} (h : ExecS T O X H0 N c E ((none, .map []) :: L) Q) : ExecS T O X H0 N c E L Q :=
  .mk fun H hs τ ht => h.run H (hs.ghost _) τ ht

theorem tmodN {a b : Int} {m : Nat} (h0 : 0 ≤ a) (hb : b = (m : Int)) : a.tmod b = ((a.toNat % m : Nat) : Int) := by
  obtain ⟨n, rfl⟩ := Int.eq_ofNat_of_zero_le h0
  subst hb
  simp [Int.tmod]

theorem tdivN {a b : Int} {m : Nat} (h0 : 0 ≤ a) (hb : b = (m : Int)) : a.tdiv b = ((a.toNat / m : Nat) : Int) := by
  obtain ⟨n, rfl⟩ := Int.eq_ofNat_of_zero_le h0
  subst hb
  simp [Int.tdiv]

/-- a text out of bytes that are the walk's own -/
theorem look_str {b off ver n cap ty src dst e : Nat} {x : Operand} {l c : List Value} {r : List UInt8} (i : Nat) (hx : lk E x = some (.slice (some ⟨b, off, some ver⟩) n cap)) (hi : L[i]? = some (some b, .cells ver l 1 ty)) (hs : T.und src = some (.slice e)) (hd : T.und dst = some .string) (he : T.und e = some (.int .u8)) (hr : rdL l n off = some c) (hb : bytesOf c = some r) :
    ∀ H, St X H0 H L → opL T O H (lk E) (.convert src dst x) = some (.string ⟨⟨r⟩⟩) := by
  intro H hst
  simp only [opL, hx, convV, hs, hd, he, (hst.get hi).rdN hr, hb]

/-- a text out of bytes -/
theorem look_strS {n c src dst e : Nat} {x : Operand} {a : Option Addr} {cs : List Value} {r : List UInt8} (hx : lk E x = some (.slice a n c)) (h : ∀ H, St X H0 H L → Sl O H (.slice a n c) 1 n cs) (hs : T.und src = some (.slice e)) (hd : T.und dst = some .string) (he : T.und e = some (.int .u8)) (hb : bytesOf cs = some r) :
    ∀ H, St X H0 H L → opL T O H (lk E) (.convert src dst x) = some (.string ⟨⟨r⟩⟩) := by
  intro H hst
  rcases (h H hst).2 with ⟨e0, hn⟩ | ⟨b, off, s, cap, e0, h2, _⟩
  · cases e0
    have hcs : cs = [] := by have := (h H hst).1; simp at this; exact this
    subst hcs
    cases hb
    simp only [opL, hx, convV, hs, hd, he]
  · cases e0
    rw [Nat.mul_one] at h2
    simp only [opL, hx, convV, hs, hd, he, h2, hb]

theorem wrL_one {v : Value} {i : Nat} {l : List Value} (hv : isCell v = true) (hi : i < l.length) : wrL [v] i l = some (l.set i v) := by
  have : Nat.blt i l.length = true := Nat.ble_eq_true_of_le hi
  simp only [wrL, hv, this, Bool.and_self, cond_true]

theorem OwnA.inv {z ty n c : Nat} {a : Option Addr} {l : List Value} {p : Option Nat × Cont} (h : OwnA z ty a n c l p) (hn : 0 < n) : ∃ b ver, a = some ⟨b, 0, some ver⟩ ∧ c = unk ∧ p = (some b, .cells ver l z ty) ∧ l.length = n * z := by
  cases h with
  | nil c => omega
  | own hl => exact ⟨_, _, rfl, rfl, rfl, hl⟩

theorem OwnA.slM {z ty n c : Nat} {a : Option Addr} {l : List Value} {p : Option Nat × Cont} {H : Heap} (h : OwnA z ty a n c l p) (hst : St X H0 H L) (hi : p ∈ L) : Sl O H (.slice a n c) z n l := by
  obtain ⟨i, hi⟩ := List.getElem?_of_mem hi
  exact h.sl hst hi

/-- the place of a cell of a slice -/
def partPtr (v : Value) (o : Nat) : Value :=
  match v with
  | .slice (some ⟨b, off, s⟩) _ _ => .pointer (some ⟨b, off + o, s⟩)
  | _ => .pointer none

/-- an element's part -/
def partOf (T : Tab) (t j : Nat) : Option Nat :=
  match T.und t with
  | some (.struct fields) => match fields.toList[j]? with
    | none => none
    | some f => match T.size f.type with
      | some (_ + 1) => some f.offset
      | _ => none
  | _ => none

theorem Sl.part {H : Heap} {v : Value} {z n t i j o : Nat} {cs : List Value} (h : Sl O H v z n cs) (hi : i < n) (ho : partOf T t j = some o) : fieldAt T t (elemPtr v z i) j = some (partPtr v (i * z + o)) := by
  unfold partOf at ho
  rcases h.2 with ⟨rfl, rfl⟩ | ⟨b, off, s, cap, rfl, _⟩
  · omega
  · simp only [elemPtr, fieldAt, partPtr]
    split at ho
    · rename_i fields hu
      rw [hu]
      simp only
      split at ho
      · cases ho
      · rename_i f hf
        rw [hf]
        simp only
        split at ho
        · rename_i m hm
          cases ho
          rw [hm]
          simp only [Nat.add_assoc]
        · cases ho
    · cases ho

theorem Sl.ldP {H : Heap} {v x : Value} {z n e o : Nat} {cs : List Value} (h : Sl O H v z n cs) (he : plain T e = true) (hx : cs[o]? = some x) : load T O H e (partPtr v o) = some x := by
  rcases h.2 with ⟨rfl, rfl⟩ | ⟨b, off, s, cap, rfl, h2, _⟩
  · have := h.1
    have h0 : o < cs.length := (List.getElem?_eq_some_iff.1 hx).1
    rw [Nat.zero_mul] at this
    omega
  · have := rdN_get h2 hx
    unfold plain at he
    simp only [partPtr, load]
    cases hu : T.und e with
    | none => rw [hu] at he; cases he
    | some d =>
      rw [hu] at he
      simp only [Bool.not_eq_true'] at he
      simp only [he, cond_false]
      exact this

theorem opP_part {t z n i j o : Nat} {x : Operand} {v : Value} {cs : List Value} {H : Heap} (hx : lk E x = some (elemPtr v z i)) (h : Sl O H v z n cs) (hi : i < n) (ho : partOf T t j = some o) :
    opP T (lk E) (.fieldAddr t x j) = some (partPtr v (i * z + o)) := by
  simp only [opP, hx]; exact h.part hi ho
end
end Go.Ev.Wk
