/-
  Walks: calls that change some of the caller's blocks (a footprint); maps whose keys are texts.
-/
import Derived.Test.YtmmojhbboomgoaaGreatEvNum
import Derived.Test.YtmmojhbboomgoaaGreatEvWC
import Derived.Test.YtmmojhbboomgoaaGreatEvArg
namespace Go.Ev.Wk
set_option linter.unusedSimpArgs false
set_option linter.unusedVariables false

section
variable {T : Tab} {O : Old} {X : List Nat} {H0 : Heap} {N : Nat} {E : Env} {L : Atoms}

/-- the blocks of some entries -/
def blksOf : Atoms → List Nat
  | [] => []
  | (some b, _) :: l => b :: blksOf l
  | (none, _) :: l => blksOf l

theorem mem_blksOf {b : Nat} : ∀ {F : Atoms}, b ∈ blksOf F ↔ ∃ c, (some b, c) ∈ F
  | [] => by simp [blksOf]
  | (some x, c) :: l => by
    have ih := mem_blksOf (b := b) (F := l)
    simp only [blksOf, List.mem_cons, ih]
    constructor
    · rintro (rfl | ⟨c', h⟩)
      · exact ⟨c, .inl rfl⟩
      · exact ⟨c', .inr h⟩
    · rintro ⟨c', h | h⟩
      · cases h; exact .inl rfl
      · exact .inr ⟨c', h⟩
  | (none, c) :: l => by
    have ih := mem_blksOf (b := b) (F := l)
    simp only [blksOf, List.mem_cons, ih]
    constructor
    · rintro ⟨c', h⟩; exact ⟨c', .inr h⟩
    · rintro ⟨c', h | h⟩
      · cases h
      · exact ⟨c', h⟩

theorem St.perm {H : Heap} {L' : Atoms} (h : St X H0 H L) (p : L.Perm L') : St X H0 H L' where
  ext := h.ext
  has := fun b c hm => h.has b c (p.mem_iff.2 hm)
  own := fun b c hm => h.own b c (p.mem_iff.2 hm)
  nodup := by
    refine (p.pairwise_iff ?_).1 h.nodup
    intro x y hxy b hy hx
    exact hxy b hx hy

/-- a walk that begins with some of the caller's entries -/
theorem St.beginF {H : Heap} {F R : Atoms} (h : St X H0 H (F ++ R)) : St (blksOf F) H H F where
  ext := ExtBut.refl _ _
  has := fun b c hm => h.has b c (List.mem_append.2 (.inl hm))
  own := fun b c hm => ⟨.inr (mem_blksOf.2 ⟨c, hm⟩), (h.own b c (List.mem_append.2 (.inl hm))).2⟩
  nodup := (List.pairwise_append.1 h.nodup).1

/-- the other entries are none of these -/
theorem St.apart {H : Heap} {F R : Atoms} (h : St X H0 H (F ++ R)) {b : Nat} {c : Cont} (hm : (some b, c) ∈ R) : b ∉ blksOf F := fun hb => by
  obtain ⟨c', hc⟩ := mem_blksOf.1 hb
  exact (List.pairwise_append.1 h.nodup).2.2 _ hc _ hm b rfl rfl

theorem St.endF {H H' : Heap} {F R F' : Atoms} (h : St X H0 H (F ++ R)) (h' : St (blksOf F) H H' F') : St X H0 H' (F' ++ R) where
  ext := by
    refine ⟨Nat.le_trans h.ext.next h'.ext.next, fun b hb hX => ?_⟩
    rw [h'.ext.same b (Nat.lt_of_lt_of_le hb h.ext.next) ?_]
    · exact h.ext.same b hb hX
    · intro hm
      obtain ⟨c, hc⟩ := mem_blksOf.1 hm
      rcases (h.own b c (List.mem_append.2 (.inl hc))).1 with h1 | h1
      · omega
      · exact hX h1
  has := fun b c hm => by
    rcases List.mem_append.1 hm with hm | hm
    · exact h'.has b c hm
    · have hb := h.own b c (List.mem_append.2 (.inr hm))
      exact (h.has b c (List.mem_append.2 (.inr hm))).congr (h'.ext.same b hb.2 (h.apart hm))
  own := fun b c hm => by
    rcases List.mem_append.1 hm with hm | hm
    · obtain ⟨h1, h2⟩ := h'.own b c hm
      refine ⟨?_, h2⟩
      rcases h1 with h1 | h1
      · exact .inl (Nat.le_trans h.ext.next h1)
      · obtain ⟨c', hc⟩ := mem_blksOf.1 h1
        exact (h.own b c' (List.mem_append.2 (.inl hc))).1
    · have hb := h.own b c (List.mem_append.2 (.inr hm))
      exact ⟨hb.1, Nat.lt_of_lt_of_le hb.2 h'.ext.next⟩
  nodup := by
    refine List.pairwise_append.2 ⟨h'.nodup, (List.pairwise_append.1 h.nodup).2.1, fun p hp q hq b hb hq' => ?_⟩
    obtain ⟨p1, p2⟩ := p
    obtain ⟨q1, q2⟩ := q
    simp only at hb hq'
    subst hb; subst hq'
    rcases (h'.own b _ hp).1 with h1 | h1
    · have := (h.own b _ (List.mem_append.2 (.inr hq))).2
      omega
    · exact h.apart hq h1

/-- what a call comes to that changes a footprint -/
def FpC (T : Tab) (O : Old) (f : Nat) (l : List Value) (H : Heap) (F : Atoms) (R : Value → Atoms → Prop) : Prop :=
  CallC T O f l H fun v H' => ∃ F', St (blksOf F) H H' F' ∧ R v F'

theorem FpC.mono {f : Nat} {l : List Value} {H : Heap} {F : Atoms} {R R' : Value → Atoms → Prop} (h : FpC T O f l H F R) (hr : ∀ v F', R v F' → R' v F') : FpC T O f l H F R' :=
  CallC.mono h fun v H' ⟨F', h1, h2⟩ => ⟨F', h1, hr _ _ h2⟩

theorem call_fp {f : Nat} {fn : Func} {c : Code} {l : List Value} {E0 : Env} {H : Heap} {F : Atoms} {R : Value → Atoms → Prop} (hp : T.prim f = none) (hf : T.fn f = some fn) (hb : fn.body = some c) (hn : Nat.ble l.length fn.ntmps = true) (he : enumN l 0 = some E0)
    (hst : St (blksOf F) H H F) (h : ExecS T O (blksOf F) H fn.ntmps c E0 F (endS fn.results.toList fun v L' => ∃ F' R', L'.Perm (F' ++ R') ∧ R v F')) : FpC T O f l H F R :=
  (call_intro hp hf hb hn hst he h).mono fun v H' ⟨L', h1, F', R', hp, h2⟩ => ⟨F', (h1.perm hp).sublist (List.sublist_append_left _ _), h2⟩

theorem step_call_fp {o : Oper} {f : Operand} {xa : Array Operand} {ts : Array TypeId} {g : Nat} {a b : Array Value} {l : List Value} {R : Value → Atoms → Prop} {k : Value → Atoms → Prop} (F Rest : Atoms) (ho : o.op = .call { callee := .value f, args := xa, argTypes := ts })
    (hf : lk E f = some (.func (.func g) a b)) (hx : args (lk E) xa.toList = some l) (hL : L.Perm (F ++ Rest))
    (h : ∀ H, St X H0 H (F ++ Rest) → St (blksOf F) H H F → FpC T O g (a.toList ++ l ++ b.toList) H F R)
    (hk : ∀ v F', R v F' → k v (F' ++ Rest)) : StepS T O X H0 E L o k :=
  step_call ho hf hx fun H hs => CallC.mono (h H (hs.perm hL) (hs.perm hL).beginF) fun v H' ⟨F', h1, h2⟩ => ⟨_, (hs.perm hL).endF h1, hk v F' h2⟩

theorem ExecS.perm {c : Code} {L' : Atoms} {Q : Ex → Env → Atoms → Prop} (p : L.Perm L') (h : ExecS T O X H0 N c E L' Q) : ExecS T O X H0 N c E L Q := .mk fun H hs τ ht => h.run H (hs.perm p) τ ht
theorem OpsS.perm {all ops : List Oper} {L' : Atoms} {Q : Env → Atoms → Prop} (p : L.Perm L') (h : OpsS T O X H0 N all ops E L' Q) : OpsS T O X H0 N all ops E L Q := .mk fun H hs τ ht => h.run H (hs.perm p) τ ht
theorem DrawS.perm {all : List Oper} {ms : Tr Nat} {full : Nat} {lst : List (Nat × Nat)} {pend : List PendE} {L' : Atoms} {Q : Env → Atoms → Prop} (p : L.Perm L') (h : DrawS T O X H0 N all ms full lst pend E L' Q) : DrawS T O X H0 N all ms full lst pend E L Q := .mk fun Em Xm hk H hs τ pd ht hp => h.run Em Xm hk H (hs.perm p) τ pd ht hp

theorem ExecS.weakL {c : Code} {L' : Atoms} {Q : Ex → Env → Atoms → Prop} (hl : L'.Sublist L) (h : ExecS T O X H0 N c E L' Q) : ExecS T O X H0 N c E L Q := .mk fun H hs τ ht => h.run H (hs.sublist hl) τ ht
theorem OpsS.weakL {all ops : List Oper} {L' : Atoms} {Q : Env → Atoms → Prop} (hl : L'.Sublist L) (h : OpsS T O X H0 N all ops E L' Q) : OpsS T O X H0 N all ops E L Q := .mk fun H hs τ ht => h.run H (hs.sublist hl) τ ht
theorem DrawS.weakL {all : List Oper} {ms : Tr Nat} {full : Nat} {lst : List (Nat × Nat)} {pend : List PendE} {L' : Atoms} {Q : Env → Atoms → Prop} (hl : L'.Sublist L) (h : DrawS T O X H0 N all ms full lst pend E L' Q) : DrawS T O X H0 N all ms full lst pend E L Q := .mk fun Em Xm hk H hs τ pd ht hp => h.run Em Xm hk H (hs.sublist hl) τ pd ht hp

/-- a slice of a list that is none of the footprint's -/
theorem SlX.ofOwn {H : Heap} {F R : Atoms} {z ty n c : Nat} {a : Option Addr} {l : List Value} {p : Option Nat × Cont} (h : OwnA z ty a n c l p) (hst : St X H0 H (F ++ R)) (hp : p ∈ R) : SlX (blksOf F) O H (.slice a n c) z n l := by
  intro H' e
  cases h with
  | nil c => exact Sl.nil
  | own hl =>
    rename_i b ver
    have hlt := (hst.own _ _ (List.mem_append.2 (.inr hp))).2
    have hc : Has H' b (.cells ver l z ty) := (hst.has _ _ (List.mem_append.2 (.inr hp))).congr (e.same b hlt (hst.apart hp))
    refine ⟨hl, .inr ⟨b, 0, some ver, unk, rfl, ?_, fun h => (by cases h), fun ver' _ => ⟨Nat.lt_of_lt_of_le hlt e.next, ?_⟩⟩⟩
    · rw [← hl]; exact hc.rdN (rdL_full l)
    · obtain ⟨cs, q, h1, _⟩ := hc
      simp only [eszOf, h1]

/-- the same of what reads so as long as two entries stay -/
theorem SlX.ofQ {H : Heap} {F R : Atoms} {q p : Option Nat × Cont} {v : Value} {z n : Nat} {cs : List Value} (h : SlQ O q p v z n cs) (hst : St X H0 H (F ++ R)) (hq : q ∈ R) (hp : p ∈ R) : SlX (blksOf F) O H v z n cs := by
  intro H' e
  refine h (blksOf F ++ X) H0 H' R ⟨⟨Nat.le_trans hst.ext.next e.next, fun b hb hX => ?_⟩, fun b c hm => ?_, fun b c hm => ?_, (List.pairwise_append.1 hst.nodup).2.1⟩ hq hp
  · simp only [List.mem_append, not_or] at hX
    rw [e.same b (Nat.lt_of_lt_of_le hb hst.ext.next) hX.1]
    exact hst.ext.same b hb hX.2
  · exact (hst.has b c (List.mem_append.2 (.inr hm))).congr (e.same b (hst.own b c (List.mem_append.2 (.inr hm))).2 (hst.apart hm))
  · obtain ⟨h1, h2⟩ := hst.own b c (List.mem_append.2 (.inr hm))
    exact ⟨h1.imp id fun h => List.mem_append.2 (.inr h), Nat.lt_of_lt_of_le h2 e.next⟩

theorem opP_idxA {t z n e c ty : Nat} {a : Option Addr} {l : List Value} {p : Option Nat × Cont} {x i : Operand} {kd : IntKind} {j : Int} (own : OwnA z ty a n c l p) (hx : lk E x = some (.slice a n c)) (hi : lk E i = some (.int kd j)) (ht : T.und t = some (.slice e)) (hz : T.size e = some z) (h0 : 0 ≤ j) (h1 : j < n) :
    opP T (lk E) (.indexAddr t x i) = some (elemPtr (.slice a n c) z j.toNat) := by
  cases own with
  | nil c => omega
  | own hl =>
    rw [opP_idxo hx hi ht hz h0 h1]
    rfl

/-! Maps whose keys are texts. -/

/-- all keys are texts -/
def strKeys : List (Value × Value) → Prop
  | [] => True
  | (k, _) :: es => (∃ t, k = str t) ∧ strKeys es

theorem sameKey_str (s t : List UInt8) : sameKey (str s) (str t) = some (s == t) := rfl

theorem find_upd {v : Value} {s : List UInt8} : ∀ {es : List (Value × Value)}, strKeys es → ∃ es', upd (str s) v es = some es' ∧ strKeys es' ∧ ∀ s', find (str s') es' = if s' = s then some (some v) else find (str s') es
  | [], _ => by
    refine ⟨[(str s, v)], rfl, ⟨⟨s, rfl⟩, trivial⟩, fun s' => ?_⟩
    simp only [find, sameKey_str]
    by_cases h : s' = s
    · simp [h]
    · rw [show (s' == s) = false from beq_eq_false_iff_ne.2 h]
      simp [h]
  | (k, w) :: es, h => by
    obtain ⟨⟨t, rfl⟩, h⟩ := h
    by_cases hst : s = t
    · subst hst
      refine ⟨(str s, v) :: es, by simp [upd, sameKey_str], ⟨⟨s, rfl⟩, h⟩, fun s' => ?_⟩
      simp only [find, sameKey_str]
      by_cases h : s' = s
      · simp [h]
      · rw [show (s' == s) = false from beq_eq_false_iff_ne.2 h]
        simp [h]
    · obtain ⟨es', h1, h2, h3⟩ := find_upd (v := v) (s := s) h
      refine ⟨(str t, w) :: es', by simp only [upd, sameKey_str, show (s == t) = false from beq_eq_false_iff_ne.2 hst, h1], ⟨⟨t, rfl⟩, h2⟩, fun s' => ?_⟩
      simp only [find, sameKey_str]
      by_cases h : s' = t
      · have : ¬ t = s := fun e => hst e.symm
        simp [h, this]
      · rw [show (s' == t) = false from beq_eq_false_iff_ne.2 h]
        exact h3 s'

/-- what a map says of each text -/
structure Says (es : List (Value × Value)) (f : List UInt8 → Option Value) : Prop where
  keys : strKeys es
  find : ∀ s, find (str s) es = some (f s)

theorem Says.nil : Says [] fun _ => none := ⟨trivial, fun _ => rfl⟩

theorem Says.upd {es : List (Value × Value)} {f : List UInt8 → Option Value} (h : Says es f) (s : List UInt8) (v : Value) : ∃ es', upd (str s) v es = some es' ∧ Says es' fun s' => if s' = s then some v else f s' := by
  obtain ⟨es', h1, h2, h3⟩ := find_upd (v := v) (s := s) h.keys
  refine ⟨es', h1, h2, fun s' => ?_⟩
  rw [h3, h.find]
  split <;> rfl

theorem Says.cast {es : List (Value × Value)} {f g : List UInt8 → Option Value} (h : Says es f) (e : ∀ s, f s = g s) : Says es g := ⟨h.keys, fun s => by rw [h.find, e]⟩

def mapOk (T : Tab) (t : Nat) : Option (Option Value) :=
  match T.und t with
  | some (.map kt et) => match T.und kt, T.zero et with
    | some .string, some z => bif closedC z then some (some z) else none
    | _, _ => none
  | _ => none

theorem lookup_says {H : Heap} {t m i : Nat} {s : List UInt8} {z : Value} {es : List (Value × Value)} {f : List UInt8 → Option Value} {ok : Bool} (hs : St X H0 H L) (hi : L[i]? = some (some m, .map es)) (hf : Says es f) (ht : mapOk T t = some (some z)) :
    lookup T H t (.map (some m)) (str s) ok = some (match f s with | some v => bif ok then .tuple #[v, .bool true] else v | none => bif ok then .tuple #[z, .bool false] else z) := by
  unfold mapOk at ht
  split at ht
  · rename_i kt et hu
    split at ht
    · rename_i z' hk hz
      cases hc : closedC z' with
      | false => rw [hc] at ht; cases ht
      | true =>
        rw [hc] at ht
        cases ht
        have hb : H.blks.get m = some (.map es) := hs.get hi
        simp only [lookup, lookup0, hu, hk, hz, entries, hb, isKey, hc, Bool.and_self, cond_true, hf.find]
        cases f s <;> rfl
    · cases ht
  · cases ht

theorem look_map {t m : Nat} {x kx : Operand} {s : List UInt8} {z : Value} {es : List (Value × Value)} {f : List UInt8 → Option Value} {ok : Bool} (i : Nat) (hx : lk E x = some (.map (some m))) (hk : lk E kx = some (str s)) (hi : L[i]? = some (some m, .map es)) (hf : Says es f) (ht : mapOk T t = some (some z))
    {r : Value} (hr : (match f s with | some v => bif ok then Value.tuple #[v, .bool true] else v | none => bif ok then .tuple #[z, .bool false] else z) = r) :
    ∀ H, St X H0 H L → opL T O H (lk E) (.lookup t x kx ok) = some r := fun H hs => by
  simp only [opL, hx, hk]
  rw [lookup_says hs hi hf ht, hr]

theorem step_mapUpdate {o : Oper} {t m kt et : Nat} {x kx vx : Operand} {s : List UInt8} {v : Value} {es : List (Value × Value)} {f : List UInt8 → Option Value} {k : Value → Atoms → Prop} (i : Nat) (ho : o.op = .mapUpdate t x kx vx) (hx : lk E x = some (.map (some m))) (hkx : lk E kx = some (str s)) (hv : lk E vx = some v)
    (hi : L[i]? = some (some m, .map es)) (hf : Says es f) (ht : T.und t = some (.map kt et)) (hkt : T.und kt = some .string)
    (h : ∀ es', Says es' (fun s' => if s' = s then some v else f s') → k skipped (L.set i (some m, .map es'))) : StepS T O X H0 E L o k := by
  obtain ⟨es', h1, h2⟩ := hf.upd s v
  refine step_w (by rw [ho]; rfl) fun H hs => ?_
  have hb : H.blks.get m = some (.map es) := hs.get hi
  refine ⟨skipped, ⟨H.blks.put m (.map es'), H.next⟩, _, ?_, hs.change hi ⟨Nat.le_refl _, fun c _ hc => Tr.get_put_ne _ _ (by simpa using hc)⟩ (show Has _ _ (.map es') from Tr.get_put_self _ _ _), Nat.le_refl _, h es' h2⟩
  rw [ho]
  simp only [opW, hx, hkx, hv, mapUpdate, ht, hkt, hb, isKey, cond_true, h1]

theorem StabS.perm {m : Nat} {L' : Atoms} (p : L.Perm L') : ∀ {pend : List PendE}, StabS T O X H0 m L' pend → StabS T O X H0 m L pend
  | [], _ => trivial
  | ⟨j, E, op, v⟩ :: l, h => ⟨h.1.imp id fun h => ⟨h.1, fun H hs => h.2 H (hs.perm p)⟩, StabS.perm p h.2⟩

theorem SlX.base {H0 H : Heap} {F R : Atoms} {v : Value} {z n : Nat} {cs : List Value} (h : SlX [] O H0 v z n cs) (hst : St [] H0 H (F ++ R)) : SlX (blksOf F) O H v z n cs := fun H' e =>
  h H' ⟨Nat.le_trans hst.ext.next e.next, fun b hb _ => by
    rw [e.same b (Nat.lt_of_lt_of_le hb hst.ext.next) ?_]
    · exact hst.ext.same b hb (by simp)
    · intro hm
      obtain ⟨c, hc⟩ := mem_blksOf.1 hm
      rcases (hst.own b c (List.mem_append.2 (.inl hc))).1 with h1 | h1
      · omega
      · cases h1⟩

theorem step_makeSlice {T : Tab} {X : List Nat} {H0 : Heap} {E : Env} {L : Atoms} {o : Oper} {t e k : Nat} {kd kd' : IntKind} {lx cx : Operand} {i : TypeInfo} {z : Value} {kk : Value → Atoms → Prop} (ho : o.op = .makeSlice t lx cx) (hl : lk E lx = some (.int kd (k : Int))) (hc : lk E cx = some (.int kd' (k : Int))) (ht : T.und t = some (.slice e)) (hi : T.info e = some i) (hz : i.zero = some z)
    (hok : (closedC z && Nat.beq z.cells.size i.size && Nat.ble 1 i.size && Nat.ble i.bytes 65536) = true) (hk : k ≤ 1073741824) (h : ∀ b, kk (.slice (some ⟨b, 0, some 0⟩) k unk) ((some b, .cells 0 (reps z.cells.toList k) i.size e) :: L)) : StepS T O X H0 E L o kk := by
  simp only [Bool.and_eq_true] at hok
  obtain ⟨⟨⟨h1, h2⟩, h3⟩, h4⟩ := hok
  have h2 := Nat.eq_of_beq_eq_true h2
  have h3 := Nat.le_of_ble_eq_true h3
  have h4 := Nat.le_of_ble_eq_true h4
  refine step_a (f := fun b => .slice (some ⟨b, 0, some 0⟩) k unk) (by rw [ho]; rfl) (fun H => ?_) h
  rw [ho]
  simp only [opA, hl, hc, makeSlice, ht, hi, hz]
  rw [if_pos ⟨h1, h2, h3, by omega, by omega, by omega, h4⟩]
  rfl

theorem reps_one (v : Value) : ∀ k, reps [v] k = List.replicate k v
  | 0 => rfl
  | k + 1 => by rw [reps, reps_one v k, List.replicate_succ]; rfl

theorem strOp_add {a b : List UInt8} (h : a.length + b.length ≤ 9223372036854775807) : strOp .add ⟨⟨a⟩⟩ ⟨⟨b⟩⟩ = some (str (a ++ b)) := by
  have e : Nat.ble ((⟨⟨a⟩⟩ : ByteArray).size + (⟨⟨b⟩⟩ : ByteArray).size) 9223372036854775807 = true := Nat.ble_eq_true_of_le h
  simp only [strOp, e, cond_true]
  congr 2

theorem PL.cat {T : Tab} {X : List Nat} {H0 : Heap} {E : Env} {L : Atoms} {o : Oper} {t yt : Nat} {x y : Operand} {a b : List UInt8} (ho : o.op = .binOp .add t x y yt) (hx : lk E x = some (str a)) (hy : lk E y = some (str b)) (h : a.length + b.length ≤ 9223372036854775807) : PL T O X H0 E L o (str (a ++ b)) := by
  refine .p (by rw [ho]; rfl) ?_
  rw [ho]
  simp only [opP, hx, hy, binV, strOp_add h]

theorem wU {m : Nat} (h : m < 18446744073709551616) : IntKind.u64.wrap (m : Int) = (m : Int) :=
  wrap_id .u64 (by simp [IntKind.min, IntKind.signed]) (by simp [IntKind.max, IntKind.signed, IntKind.bits]; omega)

theorem PL.shlU {T : Tab} {X : List Nat} {H0 : Heap} {E : Env} {L : Atoms} {o : Oper} {t yt : Nat} {x y : Operand} {k' : IntKind} {a s : Nat} {b : Int} (ho : o.op = .binOp .shl t x y yt) (hx : lk E x = some (.int .u64 (a : Int))) (hy : lk E y = some (.int k' b)) (hb : b = (s : Int)) (hs : s ≤ 63) (h : a * 2 ^ s < 18446744073709551616) : PL T O X H0 E L o (.int .u64 ((a * 2 ^ s : Nat) : Int)) := by
  subst hb
  refine .p (by rw [ho]; rfl) ?_
  rw [ho]
  have e1 : ¬ ((s : Int) < 0) := by omega
  have e2 : min ((s : Int).toNat) IntKind.u64.bits = s := by show min s 64 = s; omega
  have e3 : ((a : Int) * 2 ^ s) = ((a * 2 ^ s : Nat) : Int) := by norm_cast
  have key : intOp .shl .u64 (a : Int) (s : Int) = some (.int .u64 ((a * 2 ^ s : Nat) : Int)) := by
    simp only [intOp, if_neg e1, e2]
    rw [e3, wU h]
  simp only [opP, hx, hy, binV, isShift, if_true]
  exact key

theorem PL.orU {T : Tab} {X : List Nat} {H0 : Heap} {E : Env} {L : Atoms} {o : Oper} {t yt : Nat} {x y : Operand} {v z s : Nat} (ho : o.op = .binOp .or t x y yt) (hx : lk E x = some (.int .u64 (v : Int))) (hy : lk E y = some (.int .u64 ((z * 2 ^ s : Nat) : Int))) (hv : v < 2 ^ s) (h : v + z * 2 ^ s < 18446744073709551616) : PL T O X H0 E L o (.int .u64 ((v + z * 2 ^ s : Nat) : Int)) := by
  refine .p (by rw [ho]; rfl) ?_
  rw [ho]
  have h1 : v < 2 ^ IntKind.u64.bits := by show v < 18446744073709551616; omega
  have h2 : z * 2 ^ s < 2 ^ IntKind.u64.bits := by show z * 2 ^ s < 18446744073709551616; omega
  have key : intOp .or .u64 (v : Int) ((z * 2 ^ s : Nat) : Int) = some (.int .u64 ((v + z * 2 ^ s : Nat) : Int)) := by
    simp only [intOp]
    rw [or_raw h1 h2, or_add hv, wU h]
  simp only [opP, hx, hy]
  exact key

theorem opL_max2 {T : Tab} {H : Heap} {E : Env} {x y : Operand} {ts : Array TypeId} {k k' : IntKind} {a b : Int} (hx : lk E x = some (.int k a)) (hy : lk E y = some (.int k' b)) : opL T O H (lk E) (.call { callee := .builtin .max, args := #[x, y], argTypes := ts }) = some (.int k (max a b)) := by
  simp only [opL, args, hx, hy, mm, cond_true]
  congr 2
  split <;> omega

/-- what is appended to a list of the walk's own, which stays, too -/
theorem step_append_keep {o : Oper} {s x : Operand} {t u e n m c : Nat} {a : Option Addr} {bv : Value} {i : TypeInfo} {l new : List Value} {p : Option Nat × Cont} {k : Value → Atoms → Prop} (j z : Nat) (ho : o.op = .call { callee := .builtin .append, args := #[s, x], argTypes := #[t, u] }) (hu : appTy T u = true) (hs : lk E s = some (.slice a n c)) (hx : lk E x = some bv)
    (ht : T.und t = some (.slice e)) (hi : T.info e = some i) (hz : i.size = z) (hj : L[j]? = some p) (hown : OwnA z e a n c l p) (hsrc : ∀ H, St X H0 H L → src O H z bv = some (m, new)) (hb : appOkB i = true) (hall : new.all isCell = true) (hlen : new.length = m * z) (hn' : n + m ≤ 1073741824) (hn0 : 0 < n)
    (h : ∀ a' c' p', SlQ O p' p' (.slice a n c) z n l → SlQ O p' p' (.slice a' (n + m) c') z (n + m) (l ++ new) → k (.slice a' (n + m) c') (L.set j p')) : StepS T O X H0 E L o k := by
  subst hz
  have hok := appOk.of hb hall hlen
  obtain ⟨b, ver, rfl, rfl, rfl, hl⟩ := hown.inv hn0
  by_cases hm : m = 0
  · subst hm
    have hnew : new = [] := by simpa using hlen
    subst hnew
    have hset : L.set j (some b, Cont.cells ver l i.size e) = L := by
      apply List.ext_getElem?
      intro q
      rw [List.getElem?_set]
      by_cases hq : j = q
      · subst hq
        rw [if_pos rfl, if_pos (List.getElem?_eq_some_iff.1 hj).1, hj]
      · rw [if_neg hq]
    have hk := h (some ⟨b, 0, some ver⟩) unk _ (SlQ.own hown) (by rw [List.append_nil]; exact SlQ.own hown)
    rw [hset] at hk
    exact step_w (by rw [ho]; rfl) fun H hst => ⟨_, H, L, by rw [ho, opW_append hu hs hx]; exact append_none ht hi (hsrc H hst) hok (.inr ⟨_, _, _, rfl, rfl⟩), hst, Nat.le_refl _, hk⟩
  · have hold : ∀ (X' : List Nat) (H0' H' : Heap) (L' : Atoms), St X' H0' H' L' → (some b, Cont.grown ver l.length (l ++ new) i.size e) ∈ L' → Sl O H' (.slice (some ⟨b, 0, some ver⟩) n unk) i.size n l := by
      intro X' H0' H' L' hst hp
      obtain ⟨cs, h1, h2⟩ := hst.has _ _ hp
      have hlt := (hst.own _ _ hp).2
      refine ⟨hl, .inr ⟨b, 0, some ver, unk, rfl, ?_, fun h => (by cases h), fun _ _ => ⟨hlt, by simp only [eszOf, h1]⟩⟩⟩
      refine rdN_of_get hl fun q y hq => ?_
      have hq' := (List.getElem?_eq_some_iff.1 hq).1
      have e4 : Nat.beq ver (ver + 1) = false := by
        cases hb : Nat.beq ver (ver + 1) with
        | false => rfl
        | true => have := Nat.eq_of_beq_eq_true hb; omega
      have e5 : Nat.blt (0 + q) l.length = true := Nat.ble_eq_true_of_le (by omega)
      have e6 : Nat.beq (ver + 1) (ver + 1) = true := Nat.beq_refl _
      simp only [rd, h1, Blk.at, e4, cond_false, e6, cond_true, e5]
      rw [Nat.zero_add]
      exact h2 q y (by rw [List.getElem?_append_left hq']; exact hq)
    have hnew : ∀ (X' : List Nat) (H0' H' : Heap) (L' : Atoms), St X' H0' H' L' → (some b, Cont.grown ver l.length (l ++ new) i.size e) ∈ L' → Sl O H' (.slice (some ⟨b, 0, some (ver + 1)⟩) (n + m) unk) i.size (n + m) (l ++ new) := by
      intro X' H0' H' L' hst hp
      obtain ⟨cs, h1, h2⟩ := hst.has _ _ hp
      have hlt := (hst.own _ _ hp).2
      have hl2 : (l ++ new).length = (n + m) * i.size := by rw [List.length_append, hl, hlen, Nat.add_mul]
      refine ⟨hl2, .inr ⟨b, 0, some (ver + 1), unk, rfl, ?_, fun h => (by cases h), fun _ _ => ⟨hlt, by simp only [eszOf, h1]⟩⟩⟩
      refine rdN_of_get hl2 fun q y hq => ?_
      have e6 : Nat.beq (ver + 1) (ver + 1) = true := Nat.beq_refl _
      simp only [rd, h1, Blk.at, e6, cond_true]
      rw [Nat.zero_add]
      exact h2 q y hq
    refine step_w (by rw [ho]; rfl) fun H hst => ?_
    obtain ⟨cs, p, h1, h2⟩ := hst.get hj
    have e0 : Nat.beq m 0 = false := by
      cases hb : Nat.beq m 0 with
      | false => rfl
      | true => have := Nat.eq_of_beq_eq_true hb; omega
    have e1 : Nat.blt 1073741824 (n + m) = false := by
      cases hb : Nat.blt 1073741824 (n + m) with
      | false => rfl
      | true => have := Nat.le_of_ble_eq_true hb; omega
    have e2 : Nat.beq unk unk = true := Nat.beq_refl _
    have e3 : (Nat.beq ver ver && Nat.beq i.size i.size && Nat.beq e e && Nat.beq (0 + n * i.size) l.length) = true := by
      rw [hl, Nat.zero_add]; simp only [Nat.beq_refl, Bool.and_self]
    refine ⟨_, ⟨H.blks.put b (.cells (Tr.fill new l.length cs) (l.length + new.length) (ver + 1) (some l.length) i.size e), H.next⟩, _, ?_, ?_, Nat.le_refl _, h (some ⟨b, 0, some (ver + 1)⟩) unk (some b, Cont.grown ver l.length (l ++ new) i.size e) (fun X' H0' H' L' hst _ hp => hold X' H0' H' L' hst hp) (fun X' H0' H' L' hst _ hp => hnew X' H0' H' L' hst hp)⟩
    · rw [ho, opW_append hu hs hx]
      simp only [append, ht, hi, hsrc H hst, hok.bif, cond_false, e0, e1, e2, cond_true, h1, e3]
    · refine hst.change hj ⟨Nat.le_refl _, fun c _ hc => Tr.get_put_ne _ _ (by simpa using hc)⟩ ⟨Tr.fill new l.length cs, ?_, fun k y hk => ?_⟩
      · rw [List.length_append]; exact Tr.get_put_self _ _ _
      · rw [Tr.get_fill]
        by_cases hlt : k < l.length
        · rw [if_neg (by omega)]
          rw [List.getElem?_append_left hlt] at hk
          exact h2 k y hk
        · have hk' := (List.getElem?_eq_some_iff.1 hk).1
          rw [List.length_append] at hk'
          rw [if_pos ⟨by omega, by omega⟩]
          rw [List.getElem?_append_right (by omega)] at hk
          exact hk

end
end Go.Ev.Wk
