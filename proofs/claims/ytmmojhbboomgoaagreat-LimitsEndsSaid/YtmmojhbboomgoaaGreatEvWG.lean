/-
  Walks: values that are the same as themselves; numbers that no kind cuts.
-/
import Derived.Test.YtmmojhbboomgoaaGreatEvWM
namespace Go.Ev.Wk
set_option linter.unusedSimpArgs false
set_option linter.unusedVariables false

def goodC : Value → Bool
  | .bool _ | .int _ _ | .string _ | .pointer _ | .slice _ _ _ | .map _ | .chan _ | .nilFunc | .nilIface | .complex _ _ _ => true
  | _ => false

def goodL : List Value → Bool
  | [] => true
  | x :: l => bif goodC x then goodL l else false

def goodV : Value → Bool
  | .agg a => goodL a.toList
  | .tuple a => goodL a.toList
  | x => goodC x

theorem veqC_refl {x : Value} (h : goodC x = true) : veqC x x = true := by
  cases x <;> simp [goodC] at h <;> simp [veqC]

theorem veqL_refl : ∀ {l : List Value}, goodL l = true → veqL l l = true
  | [], _ => rfl
  | x :: l, h => by
    simp only [goodL] at h
    cases hx : goodC x with
    | false => rw [hx] at h; cases h
    | true =>
      rw [hx, cond_true] at h
      simp only [veqL, veqC_refl hx, veqL_refl h, Bool.and_self]

theorem veq_refl {x : Value} (h : goodV x = true) : veq x x = true := by
  cases x
  case agg a => simp only [veq]; exact veqL_refl h
  case tuple a => simp only [veq]; exact veqL_refl h
  case func f a b => simp [goodV, goodC] at h
  case iface t v => simp [goodV, goodC] at h
  case float k b => simp [goodV, goodC] at h
  all_goals first | (simp [goodV, goodC] at h; done) | (simp only [veq]; exact veqC_refl rfl)

theorem wrap_id (k : IntKind) {n : Int} (h1 : k.min ≤ n) (h2 : n ≤ k.max) : k.wrap n = n := by
  cases k <;> simp only [IntKind.min, IntKind.max, IntKind.signed, IntKind.bits, IntKind.wrap] at * <;> simp at * <;> omega

theorem w64 {m n : Int} (h : m = n) (h1 : -9223372036854775808 ≤ n) (h2 : n ≤ 9223372036854775807) : IntKind.i64.wrap m = n := by
  subst h
  exact wrap_id .i64 (by simpa [IntKind.min, IntKind.signed, IntKind.bits] using h1) (by simpa [IntKind.max, IntKind.signed, IntKind.bits] using h2)

theorem w8 {m n : Int} (h : m = n) (h1 : 0 ≤ n) (h2 : n ≤ 255) : IntKind.u8.wrap m = n := by
  subst h
  exact wrap_id .u8 (by simpa [IntKind.min, IntKind.signed, IntKind.bits] using h1) (by simpa [IntKind.max, IntKind.signed, IntKind.bits] using h2)

section
variable {T : Tab} {O : Old} {X : List Nat} {H0 : Heap} {N : Nat} {E : Env} {L : Atoms}

/-- a step whose number is given -/
theorem step_num {o : Oper} {kd : IntKind} {m n : Int} {k : Value → Atoms → Prop} (hc : cls T o.op = .p) (hv : opP T (lk E) o.op = some (.int kd m)) (he : m = n) (h : k (.int kd n) L) : StepS T O X H0 E L o k :=
  step_p hc (he ▸ hv) h

theorem step_bool {o : Oper} {a b : Bool} {k : Value → Atoms → Prop} (hc : cls T o.op = .p) (hv : opP T (lk E) o.op = some (.bool a)) (he : a = b) (h : k (.bool b) L) : StepS T O X H0 E L o k :=
  step_p hc (he ▸ hv) h

theorem opP_idx {t z n e : Nat} {x i : Operand} {v : Value} {kd : IntKind} {j : Int} {cs : List Value} {H : Heap} (hx : lk E x = some v) (hi : lk E i = some (.int kd j)) (h : Sl O H v z n cs) (ht : T.und t = some (.slice e)) (hz : T.size e = some z) (h0 : 0 ≤ j) (h1 : j < n) :
    opP T (lk E) (.indexAddr t x i) = some (elemPtr v z j.toNat) := by
  simp only [opP, hx, hi]; exact h.idx ht hz h0 h1

theorem opP_idxo {t z n e c b off : Nat} {s : Option Nat} {x i : Operand} {kd : IntKind} {j : Int} (hx : lk E x = some (.slice (some ⟨b, off, s⟩) n c)) (hi : lk E i = some (.int kd j)) (ht : T.und t = some (.slice e)) (hz : T.size e = some z) (h0 : 0 ≤ j) (h1 : j < n) :
    opP T (lk E) (.indexAddr t x i) = some (.pointer (some ⟨b, off + j.toNat * z, s⟩)) := by
  simp only [opP, hx, hi, indexAt, ht, hz]
  rw [if_pos ⟨h0, by omega⟩]

/-- What an operation gives that makes and writes no memory. -/
inductive PL (T : Tab) (O : Old) (X : List Nat) (H0 : Heap) (E : Env) (L : Atoms) (o : Oper) (v : Value) : Prop
  | p (hc : cls T o.op = .p) (hv : opP T (lk E) o.op = some v)
  | l (hc : cls T o.op = .l) (hv : ∀ H, St X H0 H L → opL T O H (lk E) o.op = some v)

theorem ops_pl {all l : List Oper} {o : Oper} {v : Value} {Q : Env → Atoms → Prop} (hw : wantedE all E o = some true) {d : Option Nat} (hdd : seeO o.dst = some d) (hd : dstOk N d = true) (h : PL T O X H0 E L o v) {E' : Env} (hE : putN d v E = some E') (k : OpsS T O X H0 N all l E' L Q) : OpsS T O X H0 N all (o :: l) E L Q :=
  ops_step hw hdd hd (by obtain rfl := putN_eq hE; exact match h with | .p hc hv => step_p hc hv k | .l hc hv => step_l hc hv k)

/-- the looks that are open behind an operation that makes and writes nothing -/
def pendPL (T : Tab) (j : Nat) (E : Env) (o : Oper) (v : Value) (pend : List PendE) : Option (List PendE) :=
  match cls T o.op with
  | .l => some (⟨j, E, o.op, v⟩ :: pend)
  | _ => some pend

theorem draw_pl {all : List Oper} {ms : Tr Nat} {full j m : Nat} {lst : List (Nat × Nat)} {o : Oper} {pend pend' : List PendE} {v : Value} {Q : Env → Atoms → Prop}
    (hj : all[j]? = some o) (hw : wantedE all E o = some true) {d : Option Nat} (hdd : seeO o.dst = some d) (hd : dstOk N d = true) (hp : PL T O X H0 E L o v) {E' : Env} (hE : putN d v E = some E') (hpd : pendPL T j E o v pend = some pend')
    (h : DrawS T O X H0 N all ms full lst pend' E' L Q) : DrawS T O X H0 N all ms full ((j, m) :: lst) pend E L Q := by
  obtain rfl := putN_eq hE
  refine draw_one hj hw hdd hd ?_
  cases hp with
  | p hc hv =>
    simp only [pendPL, hc, Option.some.injEq] at hpd
    subst hpd
    exact step_p hc hv ⟨⟨fun e => (nomatch (hc.symm.trans e)), fun e => (nomatch (hc.symm.trans e))⟩, by simp only [pendOf, hc]; exact h⟩
  | l hc hv =>
    simp only [pendPL, hc, Option.some.injEq] at hpd
    subst hpd
    exact step_l hc hv ⟨⟨fun e => (nomatch (hc.symm.trans e)), fun e => (nomatch (hc.symm.trans e))⟩, by simp only [pendOf, hc]; exact h⟩

/-- a number that is given -/
theorem PL.num {o : Oper} {kd : IntKind} {m n : Int} (hc : cls T o.op = .p) (hv : opP T (lk E) o.op = some (.int kd m)) (he : m = n) : PL T O X H0 E L o (.int kd n) := .p hc (he ▸ hv)

theorem PL.numL {o : Oper} {kd : IntKind} {m n : Int} (hc : cls T o.op = .l) (hv : ∀ H, opL T O H (lk E) o.op = some (.int kd m)) (he : m = n) : PL T O X H0 E L o (.int kd n) := .l hc fun H _ => he ▸ hv H

theorem PL.bool {o : Oper} {a b : Bool} (hc : cls T o.op = .p) (hv : opP T (lk E) o.op = some (.bool a)) (he : a = b) : PL T O X H0 E L o (.bool b) := .p hc (he ▸ hv)

/-- a call that tells yes or no, either way -/
theorem step_call_bool {o : Oper} {f : Operand} {xa : Array Operand} {ts : Array TypeId} {g : Nat} {a b : Array Value} {l : List Value} {r : Bool} {k : Value → Atoms → Prop} (ho : o.op = .call { callee := .value f, args := xa, argTypes := ts })
    (hf : lk E f = some (.func (.func g) a b)) (hx : args (lk E) xa.toList = some l)
    (h : ∀ H, St X H0 H L → CallC T O g (a.toList ++ l ++ b.toList) H fun v H' => v = .bool r ∧ Ext H H') (h1 : r = true → k (.bool true) L) (h2 : r = false → k (.bool false) L) : StepS T O X H0 E L o k :=
  step_call_pure ho hf hx h (match r, h1, h2 with | true, h1, _ => h1 rfl | false, _, h2 => h2 rfl)

theorem callB_eq {f : Nat} {l : List Value} {H : Heap} {r r' : Bool} (e : r = r') (h : CallC T O f l H fun v H' => v = .bool r ∧ Ext H H') : CallC T O f l H fun v H' => v = .bool r' ∧ Ext H H' := e ▸ h

/-- a struct, written out -/
theorem PL.bld {o : Oper} {t : Nat} {ps : Array (Nat × Operand)} {pl : List (Nat × Value)} {cs : Array Value} {c : List Value} (ho : o.op = .build t ps) (hp : parts (lk E) ps.toList = some pl) (hb : build T t pl = some (.agg cs)) (hc : normL cs.toList = some c) : PL T O X H0 E L o (.agg c.toArray) := by
  obtain rfl := normL_eq hc
  refine .p (by rw [ho]; rfl) ?_
  rw [ho]
  simp only [opP, hp, hb]

/-- what is compared with itself -/
theorem PL.neSelf {o : Oper} {t yt : Nat} {x y : Operand} {b : Bool} (ho : o.op = .binOp .neq t x y yt) (hx : lk E x = some (.bool b)) (hy : lk E y = some (.bool b)) (ht : T.und t = some .bool) : PL T O X H0 E L o (.bool false) := by
  refine .p (by rw [ho]; rfl) ?_
  rw [ho]
  simp only [opP, hx, hy, binV, numish, cond_false, eqV, ht, eqCell, beq_self_eq_true, Bool.not_true]

theorem PL.eqSelf {o : Oper} {t yt : Nat} {x y : Operand} {b : Bool} (ho : o.op = .binOp .eql t x y yt) (hx : lk E x = some (.bool b)) (hy : lk E y = some (.bool b)) (ht : T.und t = some .bool) : PL T O X H0 E L o (.bool true) := by
  refine .p (by rw [ho]; rfl) ?_
  rw [ho]
  simp only [opP, hx, hy, binV, numish, cond_false, eqV, ht, eqCell, beq_self_eq_true]

/-- a rest -/
theorem PL.rem {o : Oper} {t yt : Nat} {x y : Operand} {kd kd' : IntKind} {a b r : Int} (ho : o.op = .binOp .rem t x y yt) (hx : lk E x = some (.int kd a)) (hy : lk E y = some (.int kd' b)) (hk : kd = kd') (hb : b ≠ 0) (he : a.tmod b = r) : PL T O X H0 E L o (.int kd r) := by
  subst hk; subst he
  refine .p (by rw [ho]; rfl) ?_
  rw [ho]
  simp only [opP, hx, hy, binV, isShift, intOp]
  simp [hb]

theorem PL.quo {o : Oper} {t yt : Nat} {x y : Operand} {kd kd' : IntKind} {a b r : Int} (ho : o.op = .binOp .quo t x y yt) (hx : lk E x = some (.int kd a)) (hy : lk E y = some (.int kd' b)) (hk : kd = kd') (hb : b ≠ 0) (he : kd.wrap (a.tdiv b) = r) : PL T O X H0 E L o (.int kd r) := by
  subst hk; subst he
  refine .p (by rw [ho]; rfl) ?_
  rw [ho]
  simp only [opP, hx, hy, binV, isShift, intOp]
  simp [hb]

theorem PL.wr64 {o : Oper} {m : Int} (hc : cls T o.op = .p) (hv : opP T (lk E) o.op = some (.int .i64 (IntKind.i64.wrap m))) (h1 : -9223372036854775808 ≤ m) (h2 : m ≤ 9223372036854775807) : PL T O X H0 E L o (.int .i64 m) := .num hc hv (w64 rfl h1 h2)

theorem PL.wr8 {o : Oper} {m : Int} (hc : cls T o.op = .p) (hv : opP T (lk E) o.op = some (.int .u8 (IntKind.u8.wrap m))) (h1 : 0 ≤ m) (h2 : m ≤ 255) : PL T O X H0 E L o (.int .u8 m) := .num hc hv (w8 rfl h1 h2)

theorem PL.cv64 {o : Oper} {m : Int} (hc : cls T o.op = .l) (hv : ∀ H, opL T O H (lk E) o.op = some (.int .i64 (IntKind.i64.wrap m))) (h1 : -9223372036854775808 ≤ m) (h2 : m ≤ 9223372036854775807) : PL T O X H0 E L o (.int .i64 m) := .numL hc hv (w64 rfl h1 h2)

theorem PL.cv8 {o : Oper} {m : Int} (hc : cls T o.op = .l) (hv : ∀ H, opL T O H (lk E) o.op = some (.int .u8 (IntKind.u8.wrap m))) (h1 : 0 ≤ m) (h2 : m ≤ 255) : PL T O X H0 E L o (.int .u8 m) := .numL hc hv (w8 rfl h1 h2)

theorem getMap {α β : Type} {f : α → β} {l : List α} {i : Nat} {j : Int} (h : i < l.length) (hj : j = i) : (l.map f)[j.toNat]? = some (f l[i]) := by
  subst hj; simp [h]
end

/-- a call that is passed over -/
theorem call_prim {T : Tab} {O : Old} {f : Nat} {p : (Addr → Option Value) → List Value → Heap → Option (Value × Heap)} {l : List Value} {H H' : Heap} {v : Value} {Q : Value → Heap → Prop} (hp : T.prim f = some p) (h : p O l H = some (v, H')) (hn : H.next ≤ H'.next) (hq : Q v H') : CallC T O f l H Q :=
  ⟨0, 1, v, H', (by simp only [evalCall, hp]; exact h), hn, hq⟩

theorem call_known {T : Tab} {O : Old} {f : Nat} {H : Heap} (hp : T.prim f = some (pass0 (.bool true))) : CallC T O f [] H fun v H' => v = .bool true ∧ Ext H H' :=
  call_prim hp rfl (Nat.le_refl _) ⟨rfl, ExtBut.refl _ _⟩

/-- from a walk of a law's call to what is said of it -/
theorem holds_walk {T : Tab} {P : Program} (ok : T.Ok P) (hm : P.follows .mixedOrders = true) (hname : ∀ f x, T.fn f = some x → (x.name == "runtime.NumGoroutine") = false) {w0 : World} (hprim : PrimOk T P w0) {f : Nat} {fn : Func} {l : List Value} (hf : T.fn f = some fn) (hb : fn.body.isNone = false) (hp : T.prim f = none)
    (hl : l.all closedC = true) (h : CallC T w0.cell? f l .empty fun v _ => v = .bool true) : Holds P f l w0 := by
  obtain ⟨lf, k, h⟩ := call_true h
  exact holds_of (lf := lf) (k := k) ok hm hname hprim hf hb hp hl h
end Go.Ev.Wk
