/-
  Walks: results that lie in memory; where a letter stands in a text.
-/
import Derived.Test.YtmmojhbboomgoaaGreatEvWS
import Derived.Test.YtmmojhbboomgoaaGreatEvSeat
namespace Go.Ev.Wk
set_option linter.unusedSimpArgs false
set_option linter.unusedVariables false

section
variable {T : Tab} {O : Old} {X : List Nat} {H0 : Heap} {N : Nat} {E : Env} {L : Atoms}

/-! Results that lie in memory. -/

def ResS (T : Tab) (O : Old) (X : List Nat) (H0 : Heap) (E : Env) (L : Atoms) : List ResultVar → List Value → Prop
  | [], [] => True
  | .tmp t :: l, v :: r => look E t = some v ∧ ResS T O X H0 E L l r
  | .cell a t :: l, v :: r => (∀ H, St X H0 H L → opL T O H (lk E) (.load t (.tmp a)) = some v) ∧ ResS T O X H0 E L l r
  | _, _ => False

theorem resS_ok {τ : Tr Value} {H : Heap} (h : Sub E τ) (hs : St X H0 H L) : ∀ {l : List ResultVar} {r : List Value}, ResS T O X H0 E L l r → resV T O τ H l = some r
  | [], [], _ => rfl
  | .tmp t :: l, v :: r, ⟨h1, h2⟩ => by
    simp only [resV]
    rw [h t v h1, resS_ok h hs h2]
  | .cell a t :: l, v :: r, ⟨h1, h2⟩ => by
    have h3 := h1 H hs
    simp only [opL] at h3
    cases hl : look E a with
    | none => rw [show lk E (.tmp a) = look E a from rfl, hl] at h3; cases h3
    | some p =>
      rw [show lk E (.tmp a) = look E a from rfl, hl] at h3
      simp only [resV]
      rw [h a p hl, resS_ok h hs h2]
      simp only at h3
      simp only [h3]
  | [], _ :: _, h => h.elim
  | .tmp _ :: _, [], h => h.elim
  | .cell _ _ :: _, [], h => h.elim

def endM (T : Tab) (O : Old) (X : List Nat) (H0 : Heap) (res : List ResultVar) (Q : Value → Atoms → Prop) (ex : Ex) (E : Env) (L : Atoms) : Prop :=
  (match ex with | .exit _ => False | _ => True) ∧ ∃ vs, ResS T O X H0 E L res vs ∧ Q (oneOf vs) L

theorem call_introM {f : Nat} {fn : Func} {c : Code} {l : List Value} {H : Heap} {Q : Value → Atoms → Prop} (hp : T.prim f = none) (hf : T.fn f = some fn) (hb : fn.body = some c) (hn : Nat.ble l.length fn.ntmps = true)
    (hst : St X H0 H L) {E0 : Env} (he : enumN l 0 = some E0) (h : ExecS T O X H0 fn.ntmps c E0 L (endM T O X H0 fn.results.toList Q)) : CallC T O f l H fun v H' => ∃ L', St X H0 H' L' ∧ Q v L' := by
  obtain rfl := enumN_eq he
  obtain ⟨lf, k, ex, τ', H', E', L', h1, h2, h3, hnx, h4, vs, h5, h6⟩ := h.run H hst _ (enumE_sub l)
  refine ⟨lf, k + 1, oneOf vs, H', ?_, hnx, L', h3, h6⟩
  simp only [evalCall, hp, hf, hb, hn, cond_true, h1]
  cases ex with
  | normal => simp only [resS_ok h2 h3 h5]
  | ret => simp only [resS_ok h2 h3 h5]
  | exit i => exact h4.elim

theorem call_pureM {f : Nat} {fn : Func} {c : Code} {l : List Value} {E0 : Env} {H : Heap} {V : Value} (hp : T.prim f = none) (hf : T.fn f = some fn) (hb : fn.body = some c) (hn : Nat.ble l.length fn.ntmps = true)
    (he : enumN l 0 = some E0) (h : ExecS T O [] H fn.ntmps c E0 [] (endM T O [] H fn.results.toList fun v _ => v = V)) : CallC T O f l H fun v H' => v = V ∧ Ext H H' :=
  (call_introM hp hf hb hn (St.start H) he h).mono fun v H' ⟨L', h1, h2⟩ => ⟨h2, h1.ext⟩

theorem call_fpM {f : Nat} {fn : Func} {c : Code} {l : List Value} {E0 : Env} {H : Heap} {F : Atoms} {R : Value → Atoms → Prop} (hp : T.prim f = none) (hf : T.fn f = some fn) (hb : fn.body = some c) (hn : Nat.ble l.length fn.ntmps = true) (he : enumN l 0 = some E0)
    (hst : St (blksOf F) H H F) (h : ExecS T O (blksOf F) H fn.ntmps c E0 F (endM T O (blksOf F) H fn.results.toList fun v L' => ∃ F' R', L'.Perm (F' ++ R') ∧ R v F')) : FpC T O f l H F R :=
  (call_introM hp hf hb hn hst he h).mono fun v H' ⟨L', h1, F', R', hp, h2⟩ => ⟨F', (h1.perm hp).sublist (List.sublist_append_left _ _), h2⟩

theorem PL.eqStrs {o : Oper} {t yt : Nat} {x y : Operand} {a b : List UInt8} (ho : o.op = .binOp .eql t x y yt) (hx : lk E x = some (str a)) (hy : lk E y = some (str b)) : PL T O X H0 E L o (.bool (decide (a = b))) := by
  refine .p (by rw [ho]; rfl) ?_
  rw [ho]
  simp only [opP, hx, hy, binV, strOp]
  by_cases h : a = b
  · subst h; simp
  · rw [decide_eq_false h, show (a == b) = false from beq_eq_false_iff_ne.2 h]

theorem ba_get {l : List UInt8} {i : Nat} (h : i < l.length) : (⟨⟨l⟩⟩ : ByteArray)[i]! = l[i] := by
  rw [getElem!_pos (⟨⟨l⟩⟩ : ByteArray) i h]; rfl

theorem find_ba (l : List UInt8) (c : UInt8) : ((List.range l.length).find? fun i => (⟨⟨l⟩⟩ : ByteArray)[i]! == c) = l.findIdx? (· == c) := by
  cases h : l.findIdx? (· == c) with
  | none =>
    rw [List.find?_range_eq_none]
    intro i hi
    rw [ba_get hi]
    have := List.findIdx?_eq_none_iff.1 h l[i] (List.getElem_mem hi)
    simp [this]
  | some i =>
    obtain ⟨hi, h1, h2⟩ := List.findIdx?_eq_some_iff_getElem.1 h
    rw [List.find?_range_eq_some]
    refine ⟨by rw [ba_get hi]; exact h1, List.mem_range.2 hi, fun j hj => ?_⟩
    rw [ba_get (by omega)]
    have := h2 j hj
    simpa using this

theorem call_ibs {f : Nat} {l : List UInt8} {c : UInt8} {n : Int} {H : Heap} (hp : T.prim f = some passIbs) (hn : n = (c.toNat : Int)) : CallC T O f [str l, .int .u8 n] H fun v H' => v = .int .i64 (match l.findIdx? (· == c) with | some i => (i : Int) | none => -1) ∧ Ext H H' := by
  subst hn
  refine call_prim hp (v := .int .i64 (match l.findIdx? (· == c) with | some i => (i : Int) | none => -1)) (H' := H) ?_ (Nat.le_refl _) ⟨rfl, ExtBut.refl _ _⟩
  have e : ((c.toNat : Int).toNat).toUInt8 = c := by simp
  show (match (List.range (⟨⟨l⟩⟩ : ByteArray).size).find? fun i => (⟨⟨l⟩⟩ : ByteArray)[i]! == ((c.toNat : Int).toNat).toUInt8 with | some i => some (Value.int .i64 i, H) | none => some (.int .i64 (-1), H)) = _
  rw [e, show (⟨⟨l⟩⟩ : ByteArray).size = l.length from rfl, find_ba]
  cases l.findIdx? (· == c) <;> rfl
end
end Go.Ev.Wk
