/-
  Walks: memory that was there already, read by a callee; what holds as long as some blocks stay.
-/
import Derived.Test.YtmmojhbboomgoaaGreatEvWF
import Derived.Test.YtmmojhbboomgoaaGreatEvWR
namespace Go.Ev.Wk
set_option linter.unusedSimpArgs false
set_option linter.unusedVariables false

/-- what holds in a memory, and in each one behind it in which all but X stay -/
def Keep (X : List Nat) (H0 : Heap) (P : Heap → Prop) : Prop := ∀ H', ExtBut X H0 H' → P H'

/-- what holds wherever these blocks are as they are -/
def Rd (Z : Atoms) (P : Heap → Prop) : Prop := ∀ (X : List Nat) (H0 H : Heap), St X H0 H Z → P H

section
variable {T : Tab} {O : Old} {X : List Nat} {H0 : Heap} {N : Nat} {E : Env} {L : Atoms} {P Q : Heap → Prop}

theorem Keep.at {H : Heap} (h : Keep X H0 P) (hs : St X H0 H L) : P H := h H hs.ext

theorem Keep.mono (h : Keep X H0 P) (f : ∀ H, P H → Q H) : Keep X H0 Q := fun H' e => f _ (h H' e)

theorem St.extF {H H' : Heap} {F R : Atoms} (hst : St X H0 H (F ++ R)) (e : ExtBut (blksOf F) H H') : ExtBut X H0 H' :=
  ⟨Nat.le_trans hst.ext.next e.next, fun b hb hx => by
    rw [e.same b (Nat.lt_of_lt_of_le hb hst.ext.next) ?_]
    · exact hst.ext.same b hb hx
    · intro hm
      obtain ⟨c, hc⟩ := mem_blksOf.1 hm
      rcases (hst.own b c (List.mem_append.2 (.inl hc))).1 with h1 | h1
      · omega
      · exact hx h1⟩

theorem Keep.base {H : Heap} {F R : Atoms} (h : Keep X H0 P) (hst : St X H0 H (F ++ R)) : Keep (blksOf F) H P := fun H' e => h H' (hst.extF e)

theorem Keep.pure {H : Heap} (h : Keep X H0 P) (hst : St X H0 H L) : Keep [] H P := fun H' e => h H' (hst.ext.trans (Ext.to e))

theorem St.restF {H H' : Heap} {F R : Atoms} (hst : St X H0 H (F ++ R)) (e : ExtBut (blksOf F) H H') : St (blksOf F ++ X) H0 H' R := by
  refine ⟨⟨Nat.le_trans hst.ext.next e.next, fun b hb hX => ?_⟩, fun b c hm => ?_, fun b c hm => ?_, (List.pairwise_append.1 hst.nodup).2.1⟩
  · simp only [List.mem_append, not_or] at hX
    rw [e.same b (Nat.lt_of_lt_of_le hb hst.ext.next) hX.1]
    exact hst.ext.same b hb hX.2
  · exact (hst.has b c (List.mem_append.2 (.inr hm))).congr (e.same b (hst.own b c (List.mem_append.2 (.inr hm))).2 (hst.apart hm))
  · obtain ⟨h1, h2⟩ := hst.own b c (List.mem_append.2 (.inr hm))
    exact ⟨h1.imp id fun h => List.mem_append.2 (.inr h), Nat.lt_of_lt_of_le h2 e.next⟩

theorem Rd.at {H : Heap} {Z : Atoms} (h : Rd Z P) (hst : St X H0 H Z) : P H := h _ _ _ hst
theorem Rd.mono {Z Z' : Atoms} (h : Rd Z P) (s : Z.Sublist Z') : Rd Z' P := fun X H0 H hst => h X H0 H (hst.sublist s)
theorem Rd.imp {Z : Atoms} (h : Rd Z P) (f : ∀ H, P H → Q H) : Rd Z Q := fun X H0 H hst => f _ (h X H0 H hst)
theorem Rd.and {Z : Atoms} (h : Rd Z P) (h' : Rd Z Q) : Rd Z fun H => P H ∧ Q H := fun X H0 H hst => ⟨h X H0 H hst, h' X H0 H hst⟩
theorem Rd.perm {Z Z' : Atoms} (h : Rd Z P) (p : Z'.Perm Z) : Rd Z' P := fun X H0 H hst => h X H0 H (hst.perm p)

theorem Rd.keep {H : Heap} {F R : Atoms} (h : Rd R P) (hst : St X H0 H (F ++ R)) : Keep (blksOf F) H P := fun H' e => h _ _ _ (hst.restF e)
theorem Rd.pure {H : Heap} (h : Rd L P) (hst : St X H0 H L) : Keep [] H P := fun H' e => h _ _ _ (hst.extend e)

theorem Rd.has {b : Nat} {c : Cont} {Z : Atoms} (h : (some b, c) ∈ Z) : Rd Z fun H => Has H b c := fun _ _ _ hst => hst.has _ _ h
theorem Rd.own {z ty n c : Nat} {a : Option Addr} {l : List Value} {p : Option Nat × Cont} {Z : Atoms} (h : OwnA z ty a n c l p) (hp : p ∈ Z) : Rd Z fun H => Sl O H (.slice a n c) z n l := fun _ _ _ hst => h.slM hst hp
theorem Rd.sl {b ver n z ty i : Nat} {l : List Value} {Z : Atoms} (hi : Z[i]? = some (some b, .cells ver l z ty)) (hl : l.length = n * z) (cap : Nat) : Rd Z fun H => Sl O H (.slice (some ⟨b, 0, some ver⟩) n cap) z n l := fun _ _ _ hst => Sl.own hst hi hl cap

/-! Fewer temporaries, fewer blocks. -/

def pickE (E : Env) : List Nat → Option Env
  | [] => some []
  | k :: ks => match look E k with
    | some v => match pickE E ks with
      | some r => some ((k, v) :: r)
      | none => none
    | none => none

theorem pickE_sub {E : Env} : ∀ {ks : List Nat} {E' : Env}, pickE E ks = some E' → SubE E' E
  | [], _, h => by cases h; trivial
  | k :: ks, E', h => by
    simp only [pickE] at h
    cases hk : look E k with
    | none => rw [hk] at h; cases h
    | some v =>
      rw [hk] at h
      cases hr : pickE E ks with
      | none => rw [hr] at h; cases h
      | some r =>
        rw [hr] at h
        cases h
        exact ⟨hk, pickE_sub hr⟩

def pickL : Atoms → List Bool → Option Atoms
  | _, [] => some []
  | [], _ :: _ => none
  | a :: l, b :: bs => match pickL l bs with
    | some r => match b with
      | true => some (a :: r)
      | false => some r
    | none => none

theorem pickL_sub : ∀ {l : Atoms} {bs : List Bool} {l' : Atoms}, pickL l bs = some l' → l'.Sublist l
  | l, [], _, h => by cases l <;> (simp only [pickL] at h; cases h; exact List.nil_sublist _)
  | [], _ :: _, _, h => by cases h
  | a :: l, b :: bs, l', h => by
    simp only [pickL] at h
    cases hr : pickL l bs with
    | none => rw [hr] at h; cases h
    | some r =>
      rw [hr] at h
      cases b with
      | true => cases h; exact List.Sublist.cons_cons _ (pickL_sub hr)
      | false => cases h; exact List.Sublist.cons _ (pickL_sub hr)

theorem OpsS.pick {all ops : List Oper} {E' : Env} {L' : Atoms} {Q : Env → Atoms → Prop} (ks : List Nat) (bs : List Bool) (he : pickE E ks = some E') (hl : pickL L bs = some L') (h : OpsS T O X H0 N all ops E' L' Q) : OpsS T O X H0 N all ops E L Q := h.weak (pickE_sub he) (pickL_sub hl)
theorem ExecS.pick {c : Code} {E' : Env} {L' : Atoms} {Q : Ex → Env → Atoms → Prop} (ks : List Nat) (bs : List Bool) (he : pickE E ks = some E') (hl : pickL L bs = some L') (h : ExecS T O X H0 N c E' L' Q) : ExecS T O X H0 N c E L Q := h.weak (pickE_sub he) (pickL_sub hl)

/-! Lists written out, part by part. -/

def appN : List Value → List Value → Option (List Value)
  | [], r => some r
  | x :: l, r => match appN l r with
    | some q => some (x :: q)
    | none => none

theorem appN_eq : ∀ {l r q : List Value}, appN l r = some q → q = l ++ r
  | [], _, _, h => by cases h; rfl
  | x :: l, r, q, h => by
    simp only [appN] at h
    cases hq : appN l r with
    | none => rw [hq] at h; cases h
    | some q' => rw [hq] at h; cases h; rw [appN_eq hq]; rfl

def flatN (n : Nat) : Nat → List (Nat × Value) → Option (List Value)
  | _, [] => some []
  | i, (j, v) :: r => match Nat.beq i j && Nat.beq v.cells.size n with
    | true => match flatN n (i + 1) r with
      | some q => appN v.cells.toList q
      | none => none
    | false => none

theorem lay_flat {n : Nat} : ∀ {pl : List (Nat × Value)} {i : Nat} {q pre zs : List Value}, flatN n i pl = some q → pre.length = i * n → zs.length = pl.length * n → lay (fun i => some (i * n, n)) (pre ++ zs) pl = some (pre ++ q)
  | [], i, q, pre, zs, h, hp, hz => by
    cases h
    have : zs = [] := List.length_eq_zero_iff.1 (by simpa using hz)
    rw [this]; rfl
  | (j, v) :: r, i, q, pre, zs, h, hp, hz => by
    simp only [flatN] at h
    cases hb : (Nat.beq i j && Nat.beq v.cells.size n) with
    | false => rw [hb] at h; cases h
    | true =>
      rw [hb] at h
      simp only at h
      simp only [Bool.and_eq_true] at hb
      obtain rfl := Nat.eq_of_beq_eq_true hb.1
      cases hq : flatN n (i + 1) r with
      | none => rw [hq] at h; cases h
      | some q' =>
        rw [hq] at h
        have e := appN_eq h
        have hv : v.cells.toList.length = n := by have := Nat.eq_of_beq_eq_true hb.2; simpa using this
        simp only [List.length_cons, Nat.add_mul, Nat.one_mul] at hz
        have hble : Nat.ble (i * n + n) (pre ++ zs).length = true := Nat.ble_eq_true_of_le (by rw [List.length_append]; omega)
        simp only [lay, hb.2, hble, Bool.and_self, cond_true]
        rw [show (pre ++ zs).take (i * n) = pre from by rw [← hp, List.take_left'] ; rfl]
        rw [show (pre ++ zs).drop (i * n + n) = zs.drop n from by rw [← hp, List.drop_append, List.drop_of_length_le (by omega), List.nil_append]; congr 1; omega]
        rw [lay_flat (i := i + 1) (q := q') hq (by rw [List.length_append, hv, hp, Nat.add_mul, Nat.one_mul]) (by rw [List.length_drop]; omega), e, List.append_assoc]

/-- the elements' size, the elements' type -/
def sliceInfo2 (T : Tab) (t len : Nat) : Option (Nat × Nat) :=
  match T.und t with
  | some (.slice elem) => match T.size elem, T.zero elem with
    | some n, some z => bif closedC z && Nat.beq z.cells.size n && Nat.ble 1 n && Nat.ble (len * n) 16777216 then some (n, elem) else none
    | _, _ => none
  | _ => none

theorem reps_length (l : List Value) : ∀ k, (reps l k).length = k * l.length
  | 0 => by simp [reps]
  | k + 1 => by simp only [reps, List.length_append, reps_length l k, Nat.add_mul, Nat.one_mul]; omega

theorem sliceInfo2_of {T : Tab} {t len n elem : Nat} (h : sliceInfo2 T t len = some (n, elem)) : ∃ zs, sliceInfo T t len = some (n, elem, zs) ∧ zs.length = len * n := by
  unfold sliceInfo2 at h
  unfold sliceInfo
  split at h
  · rename_i e hu
    rw [hu]
    simp only
    split at h
    · rename_i n' z hn hz
      rw [hn, hz]
      simp only
      cases hb : (closedC z && Nat.beq z.cells.size n' && Nat.ble 1 n' && Nat.ble (len * n') 16777216) with
      | false => rw [hb] at h; cases h
      | true =>
        rw [hb] at h
        simp only [cond_true] at h ⊢
        cases h
        refine ⟨_, rfl, ?_⟩
        simp only [Bool.and_eq_true] at hb
        have := Nat.eq_of_beq_eq_true hb.1.1.2
        rw [reps_length, Array.length_toList, this]
    · cases h
  · cases h

theorem step_buildSliceF {o : Oper} {t len n elem : Nat} {ps : Array (Nat × Operand)} {pl : List (Nat × Value)} {l c : List Value} {k : Value → Atoms → Prop} (ho : o.op = .buildSlice t len ps) (hp : parts (lk E) ps.toList = some pl)
    (hi : sliceInfo2 T t len = some (n, elem)) (hpl : Nat.beq pl.length len = true) (hl : flatN n 0 pl = some l) (hc : normL l = some c)
    (h : ∀ b, k (.slice (some ⟨b, 0, some 0⟩) len len) ((some b, .cells 0 c n elem) :: L)) : StepS T O X H0 E L o k := by
  obtain ⟨zs, hi, hz⟩ := sliceInfo2_of hi
  have e := Nat.eq_of_beq_eq_true hpl
  have := lay_flat (pre := []) (zs := zs) hl (by simp) (by rw [hz, e])
  exact step_buildSlice ho hp hi this hc h

/-! What only says that an operation is left. -/

theorem ops_more {all l : List Oper} {o : Oper} {Q : Env → Atoms → Prop} (h : OpsS T O X H0 N all (o :: l) E L Q) : OpsS T O X H0 N all (o :: l) E L Q := h
theorem draw_more {all : List Oper} {ms : Tr Nat} {full : Nat} {x : Nat × Nat} {lst : List (Nat × Nat)} {pend : List PendE} {Q : Env → Atoms → Prop} (h : DrawS T O X H0 N all ms full (x :: lst) pend E L Q) : DrawS T O X H0 N all ms full (x :: lst) pend E L Q := h
theorem exec_more {c : Code} {Q : Ex → Env → Atoms → Prop} (h : ExecS T O X H0 N c E L Q) : ExecS T O X H0 N c E L Q := h

/-! Looks at memory that was there. -/

theorem look_hasO {b off ver esz ty t : Nat} {a : Operand} {l : List Value} {v : Value} (hh : ∀ H, St X H0 H L → Has H b (.cells ver l esz ty)) (ha : lk E a = some (.pointer (some ⟨b, off, some ver⟩))) (hd : plain T t = true) (hv : l[off]? = some v) :
    ∀ H, St X H0 H L → opL T O H (lk E) (.load t a) = some v := fun H hs => opL_load ha (by
  unfold plain at hd
  unfold load
  cases hu : T.und t with
  | none => rw [hu] at hd; cases hd
  | some d =>
    rw [hu] at hd
    simp only [Bool.not_eq_true'] at hd
    simp only [hd, cond_false]
    exact (hh H hs).rd hv)

theorem look_hasA {b off ver esz ty t n : Nat} {a : Operand} {l c : List Value} (hh : ∀ H, St X H0 H L → Has H b (.cells ver l esz ty)) (ha : lk E a = some (.pointer (some ⟨b, off, some ver⟩))) (hd : aggN T t = some n) (hv : rdL l n off = some c) :
    ∀ H, St X H0 H L → opL T O H (lk E) (.load t a) = some (.agg c.toArray) := fun H hs => opL_load ha (by
  unfold aggN at hd
  unfold load
  cases hu : T.und t with
  | none => rw [hu] at hd; cases hd
  | some d =>
    rw [hu] at hd
    simp only at hd
    cases ha : isAggD d with
    | false => rw [ha] at hd; cases hd
    | true =>
      rw [ha] at hd
      simp only [cond_true] at hd
      simp only [ha, cond_true, hd]
      rw [(hh H hs).rdN hv])

theorem lookup_has {H : Heap} {t m : Nat} {s : List UInt8} {z : Value} {es : List (Value × Value)} {f : List UInt8 → Option Value} {ok : Bool} (hb : Has H m (.map es)) (hf : Says es f) (ht : mapOk T t = some (some z)) :
    lookup T H t (.map (some m)) (str s) ok = some (match f s with | some v => bif ok then .tuple #[v, .bool true] else v | none => bif ok then .tuple #[z, .bool false] else z) := by
  unfold mapOk at ht
  split at ht
  · rename_i kt et hu
    split at ht
    · rename_i z' hk hz
      cases hc : closedC z' with
      | false => rw [hc] at ht; cases ht
      | true =>
        rw [hc] at ht
        cases ht
        have hb : H.blks.get m = some (.map es) := hb
        simp only [lookup, lookup0, hu, hk, hz, entries, hb, isKey, hc, Bool.and_self, cond_true, hf.find]
        cases f s <;> rfl
    · cases ht
  · cases ht

theorem look_mapO {t m : Nat} {x kx : Operand} {s : List UInt8} {z : Value} {f : List UInt8 → Option Value} {ok : Bool} (hh : ∀ H, St X H0 H L → ∃ es, Has H m (.map es) ∧ Says es f) (hx : lk E x = some (.map (some m))) (hk : lk E kx = some (str s)) (ht : mapOk T t = some (some z))
    {r : Value} (hr : (match f s with | some v => bif ok then Value.tuple #[v, .bool true] else v | none => bif ok then .tuple #[z, .bool false] else z) = r) :
    ∀ H, St X H0 H L → opL T O H (lk E) (.lookup t x kx ok) = some r := fun H hs => by
  obtain ⟨es, h1, h2⟩ := hh H hs
  simp only [opL, hx, hk]
  rw [lookup_has h1 h2 ht, hr]

theorem step_insert {o : Oper} {t m kt et : Nat} {x kx vx : Operand} {s : List UInt8} {v : Value} {es : List (Value × Value)} {f : List UInt8 → Option Value} {k : Value → Atoms → Prop} (i : Nat) (ho : o.op = .insert t x kx vx) (hx : lk E x = some (.map (some m))) (hkx : lk E kx = some (str s)) (hv : lk E vx = some v)
    (hi : L[i]? = some (some m, .map es)) (hf : Says es f) (ht : T.und t = some (.map kt et)) (hkt : T.und kt = some .string)
    (h : ∀ es', Says es' (fun s' => if s' = s then some v else f s') → k skipped (L.set i (some m, .map es'))) : StepS T O X H0 E L o k := by
  obtain ⟨es', h1, h2⟩ := hf.upd s v
  refine step_w (by rw [ho]; rfl) fun H hs => ?_
  have hb : H.blks.get m = some (.map es) := hs.get hi
  refine ⟨skipped, ⟨H.blks.put m (.map es'), H.next⟩, _, ?_, hs.change hi ⟨Nat.le_refl _, fun c _ hc => Tr.get_put_ne _ _ (by simpa using hc)⟩ (show Has _ _ (.map es') from Tr.get_put_self _ _ _), Nat.le_refl _, h es' h2⟩
  rw [ho]
  simp only [opW, hx, hkx, hv, mapUpdate, ht, hkt, hb, isKey, cond_true, h1]

/-- a call that brings something of which we know this much -/
theorem step_call_ex {o : Oper} {f : Operand} {xa : Array Operand} {ts : Array TypeId} {g : Nat} {a b : Array Value} {l : List Value} {R : Value → Prop} {k : Value → Atoms → Prop} (ho : o.op = .call { callee := .value f, args := xa, argTypes := ts })
    (hf : lk E f = some (.func (.func g) a b)) (hx : args (lk E) xa.toList = some l)
    (h : ∀ H, St X H0 H L → CallC T O g (a.toList ++ l ++ b.toList) H fun v H' => R v ∧ Ext H H') (hk : ∀ v, R v → k v L) : StepS T O X H0 E L o k :=
  step_call ho hf hx fun H hs => (h H hs).mono fun v H' ⟨e, hE⟩ => ⟨L, hs.extend hE, hk v e⟩

theorem call_exM {f : Nat} {fn : Func} {c : Code} {l : List Value} {E0 : Env} {H : Heap} {R : Value → Prop} (hp : T.prim f = none) (hf : T.fn f = some fn) (hb : fn.body = some c) (hn : Nat.ble l.length fn.ntmps = true) (he : enumN l 0 = some E0)
    (h : ExecS T O [] H fn.ntmps c E0 [] (endM T O [] H fn.results.toList fun v _ => R v)) : CallC T O f l H fun v H' => R v ∧ Ext H H' :=
  (call_introM hp hf hb hn (St.start H) he h).mono fun v H' ⟨L', h1, h2⟩ => ⟨h2, h1.ext⟩

theorem call_ex {f : Nat} {fn : Func} {c : Code} {l : List Value} {E0 : Env} {H : Heap} {R : Value → Prop} (hp : T.prim f = none) (hf : T.fn f = some fn) (hb : fn.body = some c) (hn : Nat.ble l.length fn.ntmps = true) (he : enumN l 0 = some E0)
    (h : ExecS T O [] H fn.ntmps c E0 [] (endS fn.results.toList fun v _ => R v)) : CallC T O f l H fun v H' => R v ∧ Ext H H' :=
  (call_intro hp hf hb hn (St.start H) he h).mono fun v H' ⟨L', h1, h2⟩ => ⟨h2, h1.ext⟩
/-! Lists that may be full, appended to. -/

/-- a list that the walk owns, or a full one of its own -/
def OwnC (z ty : Nat) (a : Option Addr) (n c : Nat) (l : List Value) (p : Option Nat × Cont) : Prop :=
  OwnA z ty a n c l p ∨ ∃ b ver, a = some ⟨b, 0, some ver⟩ ∧ c = n ∧ p = (some b, .cells ver l z ty) ∧ l.length = n * z

theorem OwnC.nil {z ty : Nat} (ct : Cont) : OwnC z ty none 0 0 [] (none, ct) := .inl (.nil ct)
theorem OwnC.full {z ty b ver n : Nat} {l : List Value} (h : l.length = n * z) : OwnC z ty (some ⟨b, 0, some ver⟩) n n l (some b, .cells ver l z ty) := .inr ⟨b, ver, rfl, rfl, rfl, h⟩

theorem OwnC.len {z ty n c : Nat} {a : Option Addr} {l : List Value} {p : Option Nat × Cont} (h : OwnC z ty a n c l p) : l.length = n * z := by
  rcases h with h | ⟨b, ver, _, _, _, h⟩
  · exact h.len
  · exact h

theorem OwnC.rd {z ty n c : Nat} {a : Option Addr} {l : List Value} {p : Option Nat × Cont} {Z : Atoms} (h : OwnC z ty a n c l p) (hp : p ∈ Z) : Rd Z fun H => Sl O H (.slice a n c) z n l := by
  rcases h with h | ⟨b, ver, rfl, rfl, rfl, hl⟩
  · exact Rd.own h hp
  · intro X H0 H hst
    obtain ⟨i, hi⟩ := List.getElem?_of_mem hp
    exact Sl.own hst hi hl _

theorem step_append_full1 {o : Oper} {s x : Operand} {t u e n m b ver z : Nat} {bv : Value} {i : TypeInfo} {l new : List Value} {k : Value → Atoms → Prop} (j : Nat) (ho : o.op = .call { callee := .builtin .append, args := #[s, x], argTypes := #[t, u] }) (hu : appTy T u = true) (hs : lk E s = some (.slice (some ⟨b, 0, some ver⟩) n n)) (hx : lk E x = some bv)
    (ht : T.und t = some (.slice e)) (hi : T.info e = some i) (hz : i.size = z) (hj : L[j]? = some (some b, .cells ver l z e)) (hl : l.length = n * z) (hsrc : ∀ H, St X H0 H L → src O H z bv = some (m, new)) (hb : appOkB i = true) (hall : new.all isCell = true) (hlen : new.length = m * z) (hn' : n + m ≤ 1073741824) (hm : 0 < m)
    (h : ∀ a' c' p', OwnA z e a' (n + m) c' (l ++ new) p' → k (.slice a' (n + m) c') (p' :: L)) : StepS T O X H0 E L o k := by
  subst hz
  have hok := appOk.of hb hall hlen
  have e0 : Nat.beq m 0 = false := by
    cases hb : Nat.beq m 0 with
    | false => rfl
    | true => have := Nat.eq_of_beq_eq_true hb; omega
  have e1 : Nat.blt 1073741824 (n + m) = false := by
    cases hb : Nat.blt 1073741824 (n + m) with
    | false => rfl
    | true => have := Nat.le_of_ble_eq_true hb; omega
  have e2 : Nat.beq n unk = false := by
    cases hb : Nat.beq n unk with
    | false => rfl
    | true => have := Nat.eq_of_beq_eq_true hb; unfold unk at this; omega
  have e3 : Nat.ble (n + m) n = false := by
    cases hb : Nat.ble (n + m) n with
    | false => rfl
    | true => have := Nat.le_of_ble_eq_true hb; omega
  refine step_w (by rw [ho]; rfl) fun H hst => ?_
  have hold : rdN O H b (some ver) (n * i.size) 0 = some l := by rw [← hl]; exact (hst.get hj).rdN (rdL_full l)
  refine ⟨.slice (some ⟨H.next, 0, some 0⟩) (n + m) unk, H.newCells (l ++ new) i.size e, _, ?_, hst.add (ext_new _ _) (Nat.le_refl _) (Nat.lt_succ_self _) (has_newCells _ _ _ _), Nat.le_succ _, ?_⟩
  · rw [ho, opW_append hu hs hx]
    simp only [append, ht, hi, hsrc H hst, hok.bif, cond_false, e0, e1, e2, e3, hold]
  · exact h _ _ _ (.own (by rw [List.length_append, hl, hlen, Nat.add_mul]))

theorem set_erase_perm {α : Type} : ∀ {l : List α} {j : Nat} {p q : α}, l[j]? = some p → (l.set j q).Perm (q :: l.eraseIdx j)
  | [], _, _, _, h => by cases h
  | x :: l, 0, p, q, h => by simp
  | x :: l, j + 1, p, q, h => by
    simp only [List.set_cons_succ, List.eraseIdx_cons_succ]
    exact ((set_erase_perm (l := l) (j := j) (q := q) h).cons x).trans (List.Perm.swap _ _ _)

theorem StepS.monoP {o : Oper} {k k' : Value → Atoms → Prop} (h : StepS T O X H0 E L o k) (hk : ∀ v L1, k v L1 → ∃ L2, (∀ H, St X H0 H L1 → St X H0 H L2) ∧ k' v L2) : StepS T O X H0 E L o k' := .mk fun H hs τ ht => by
  obtain ⟨lf, n, v, H', L', h1, h2, h3, h4⟩ := h.run H hs τ ht
  obtain ⟨L2, h5, h6⟩ := hk v L' h4
  exact ⟨lf, n, v, H', L2, h1, h5 _ h2, h3, h6⟩

theorem step_appendC {o : Oper} {s x : Operand} {t u e n m c z : Nat} {a : Option Addr} {bv : Value} {i : TypeInfo} {l new : List Value} {p : Option Nat × Cont} {k : Value → Atoms → Prop} (j : Nat) (ho : o.op = .call { callee := .builtin .append, args := #[s, x], argTypes := #[t, u] }) (hu : appTy T u = true) (hs : lk E s = some (.slice a n c)) (hx : lk E x = some bv)
    (ht : T.und t = some (.slice e)) (hi : T.info e = some i) (hz : i.size = z) (hj : L[j]? = some p) (hown : OwnC z e a n c l p) (hsrc : ∀ H, St X H0 H L → src O H z bv = some (m, new)) (hb : appOkB i = true) (hall : new.all isCell = true) (hlen : new.length = m * z) (hn' : n + m ≤ 1073741824) (hm : 0 < m)
    (h : ∀ a' c' p', OwnA z e a' (n + m) c' (l ++ new) p' → k (.slice a' (n + m) c') (p' :: L.eraseIdx j)) : StepS T O X H0 E L o k := by
  rcases hown with hown | ⟨b, ver, rfl, rfl, rfl, hl⟩
  · refine (step_append (k := fun v L' => ∃ a' c' p', OwnA z e a' (n + m) c' (l ++ new) p' ∧ v = .slice a' (n + m) c' ∧ L' = L.set j p') j z ho hu hs hx ht hi hz hj hown hsrc hb hall hlen hn' (fun a' c' p' ho' => ⟨a', c', p', ho', rfl, rfl⟩)).monoP ?_
    rintro v L1 ⟨a', c', p', ho', rfl, rfl⟩
    exact ⟨_, fun H hs => hs.perm (set_erase_perm hj), h a' c' p' ho'⟩
  · refine (step_append_full1 (k := fun v L' => ∃ a' c' p', OwnA z e a' (c + m) c' (l ++ new) p' ∧ v = .slice a' (c + m) c' ∧ L' = p' :: L) j ho hu hs hx ht hi hz hj hl hsrc hb hall hlen hn' hm (fun a' c' p' ho' => ⟨a', c', p', ho', rfl, rfl⟩)).monoP ?_
    rintro v L1 ⟨a', c', p', ho', rfl, rfl⟩
    exact ⟨_, fun H hs => hs.sublist (List.Sublist.cons_cons _ (List.eraseIdx_sublist _ _)), h a' c' p' ho'⟩
/-! The blocks in another order: the chosen ones (each place among those that are left) first. -/

def takeAt {α : Type} : List α → Nat → Option (α × List α)
  | [], _ => none
  | x :: l, 0 => some (x, l)
  | x :: l, j + 1 => match takeAt l j with
    | some (y, r) => some (y, x :: r)
    | none => none

theorem takeAt_perm {α : Type} : ∀ {l : List α} {j : Nat} {y : α} {r : List α}, takeAt l j = some (y, r) → l.Perm (y :: r)
  | [], _, _, _, h => by cases h
  | x :: l, 0, y, r, h => by simp only [takeAt, Option.some.injEq, Prod.mk.injEq] at h; obtain ⟨rfl, rfl⟩ := h; exact List.Perm.refl _
  | x :: l, j + 1, y, r, h => by
    simp only [takeAt] at h
    cases hq : takeAt l j with
    | none => rw [hq] at h; cases h
    | some q =>
      obtain ⟨y', r'⟩ := q
      rw [hq] at h
      simp only [Option.some.injEq, Prod.mk.injEq] at h
      obtain ⟨rfl, rfl⟩ := h
      exact ((takeAt_perm hq).cons x).trans (List.Perm.swap _ _ _)

def permT {α : Type} (l : List α) : List Nat → Option (List α)
  | [] => some l
  | j :: js => match takeAt l j with
    | some (x, r) => match permT r js with
      | some q => some (x :: q)
      | none => none
    | none => none

theorem permT_perm {α : Type} : ∀ {js : List Nat} {l q : List α}, permT l js = some q → l.Perm q
  | [], _, _, h => by cases h; exact List.Perm.refl _
  | j :: js, l, q, h => by
    simp only [permT] at h
    cases ht : takeAt l j with
    | none => rw [ht] at h; cases h
    | some y =>
      obtain ⟨x, r⟩ := y
      rw [ht] at h
      simp only at h
      cases hq : permT r js with
      | none => rw [hq] at h; cases h
      | some q' =>
        rw [hq] at h
        cases h
        exact (takeAt_perm ht).trans ((permT_perm hq).cons x)

theorem ExecS.reord {c : Code} {L' : Atoms} {Q : Ex → Env → Atoms → Prop} (js : List Nat) (hl : permT L js = some L') (h : ExecS T O X H0 N c E L' Q) : ExecS T O X H0 N c E L Q := h.perm (permT_perm hl)
theorem OpsS.reord {all ops : List Oper} {L' : Atoms} {Q : Env → Atoms → Prop} (js : List Nat) (hl : permT L js = some L') (h : OpsS T O X H0 N all ops E L' Q) : OpsS T O X H0 N all ops E L Q := h.perm (permT_perm hl)
/-! A store, where not all blocks are written out. -/

def setT {α : Type} : List α → Nat → α → Option (List α)
  | [], _, _ => none
  | _ :: l, 0, y => some (y :: l)
  | x :: l, j + 1, y => match setT l j y with
    | some r => some (x :: r)
    | none => none

theorem setT_eq {α : Type} : ∀ {l : List α} {j : Nat} {y : α} {r : List α}, setT l j y = some r → r = l.set j y
  | [], _, _, _, h => by cases h
  | x :: l, 0, y, r, h => by cases h; rfl
  | x :: l, j + 1, y, r, h => by
    simp only [setT] at h
    cases hq : setT l j y with
    | none => rw [hq] at h; cases h
    | some q => rw [hq] at h; cases h; rw [setT_eq hq]; rfl

theorem step_storeZ {o : Oper} {t n b off ver esz ty : Nat} {a x : Operand} {v : Value} {l l' : List Value} {L' : Atoms} {k : Value → Atoms → Prop} (i : Nat) (ho : o.op = .store t a x) (ha : lk E a = some (.pointer (some ⟨b, off, some ver⟩))) (hx : lk E x = some v)
    (hi : L[i]? = some (some b, .cells ver l esz ty)) (hn : T.size t = some n) (hv : Nat.beq v.cells.size n = true) (hw : wrL v.cells.toList off l = some l') {l2 : List Value} (hc : normL l' = some l2) (hL : setT L i (some b, .cells ver l2 esz ty) = some L')
    (h : k skipped L') : StepS T O X H0 E L o k := by
  obtain rfl := normL_eq hc
  obtain rfl := setT_eq hL
  refine step_w (by rw [ho]; rfl) fun H hs => ?_
  obtain ⟨H', h1, h2, h3⟩ := store_own (T := T) hs hi hn hv hw
  exact ⟨skipped, H', _, by rw [ho]; simp only [opW, ha, hx, h1], h2, h3, h⟩
/-! A list of the walk's own, cut with three bounds to what it is: full. -/

theorem bounds_full (n : Nat) {k k' : IntKind} : bounds n n none (some (.int k (n : Int))) (some (.int k' (n : Int))) = some (0, n, n) := by
  have e : (if 0 ≤ (n : Int) ∧ (n : Int) ≤ (n : Int) then some (n : Int).toNat else none) = some n := by rw [if_pos ⟨by omega, by omega⟩]; rfl
  delta bounds
  simp [asN]

theorem look_full3 {t e z n c ty : Nat} {x : Operand} {hi mx : Operand} {a : Option Addr} {l : List Value} {p : Option Nat × Cont} {k k' : IntKind} (own : OwnA z ty a n c l p) (hp : p ∈ L) (hx : lk E x = some (.slice a n c)) (hhi : lk E hi = some (.int k (n : Int))) (hmx : lk E mx = some (.int k' (n : Int))) (ht : T.und t = some (.slice e)) (hz : T.size e = some z) :
    ∀ H, St X H0 H L → opL T O H (lk E) (.slice t x none (some hi) (some mx)) = some (.slice a n n) := fun H hst => by
  have h1 : optV (lk E) none = some none := rfl
  have h2 : optV (lk E) (some hi) = some (some (.int k (n : Int))) := by simp only [optV, hhi]
  have h3 : optV (lk E) (some mx) = some (some (.int k' (n : Int))) := by simp only [optV, hmx]
  simp only [opL, hx, h1, h2, h3]
  cases own with
  | nil ct => simp only [sliceV, ht, hz]; rw [bounds_full 0]
  | own hl =>
    rename_i b ver
    obtain ⟨cs, q, hb, _⟩ := hst.has _ _ hp
    simp only [sliceV, ht, hz, hb, bounds_full n, ne_eq, not_true_eq_false, if_false, Nat.zero_mul, Nat.add_zero, Nat.sub_zero, cutCap]

theorem OwnA.full {z ty n c : Nat} {a : Option Addr} {l : List Value} {p : Option Nat × Cont} (h : OwnA z ty a n c l p) : OwnC z ty a n n l p := by
  cases h with
  | nil ct => exact .nil ct
  | own hl => exact .full hl
end
end Go.Ev.Wk
