/-
  Types as values; lists of them.
-/
import Derived.Test.YthifbkjkiijkoaaEvTab
import Derived.Test.YthifbkjkiijkoaaEvZ
namespace Go.Proofs.Ythifbkjkiijkoaa
open Go.Ev Go.Ev.Wk
set_option linter.unusedVariables false
set_option linter.unusedSimpArgs false
variable {O : Old}

/-- a type's value -/
abbrev typV (x : Int × List UInt8) : Value := .agg #[.int .i64 x.1, str x.2]

/-- a list of types, as cells -/
def typC : List (Int × List UInt8) → List Value
  | [] => []
  | p :: l => .int .i64 p.1 :: str p.2 :: typC l

theorem typC_length : ∀ l, (typC l).length = l.length * 2
  | [] => rfl
  | p :: l => by simp only [typC, List.length_cons, typC_length l]; omega

theorem typC_drop : ∀ (l : List (Int × List UInt8)) (i : Nat), (typC l).drop (i * 2) = typC (l.drop i)
  | l, 0 => by simp
  | [], i + 1 => by simp [typC]
  | p :: l, i + 1 => by
    rw [show (i + 1) * 2 = i * 2 + 1 + 1 from by omega]
    simp only [typC, List.drop_succ_cons]
    exact typC_drop l i

theorem typC_at {l : List (Int × List UInt8)} {i : Nat} {p : Int × List UInt8} (h : l[i]? = some p) : ((typC l).drop (i * 2)).take 2 = [.int .i64 p.1, str p.2] := by
  rw [typC_drop]
  obtain ⟨hi, rfl⟩ := List.getElem?_eq_some_iff.1 h
  rw [List.drop_eq_getElem_cons hi]
  rfl

theorem typC_get {l : List (Int × List UInt8)} {i : Nat} {p : Int × List UInt8} (h : l[i]? = some p) : (typC l)[i * 2]? = some (.int .i64 p.1) ∧ (typC l)[i * 2 + 1]? = some (str p.2) := by
  have h2 := typC_at h
  have a : ∀ j, j < 2 → (typC l)[i * 2 + j]? = (((typC l).drop (i * 2)).take 2)[j]? := fun j hj => by rw [List.getElem?_take, if_pos hj, List.getElem?_drop]
  refine ⟨?_, ?_⟩
  · have := a 0 (by omega)
    rw [Nat.add_zero] at this
    rw [this, h2]; rfl
  · rw [a 1 (by omega), h2]; rfl

theorem typC_app : ∀ a b, typC (a ++ b) = typC a ++ typC b
  | [], b => rfl
  | p :: a, b => by simp only [List.cons_append, typC, typC_app a b]

theorem typC_cell : ∀ l, (typC l).all isCell = true
  | [] => rfl
  | p :: l => by simp only [typC, List.all_cons, typC_cell l]; rfl

theorem eqV_typ (a b : Int × List UInt8) : eqV TT 35 (typV a) (typV b) = some (decide (a = b)) := by
  have h : eqV TT 35 (typV a) (typV b) = (match some (a.1 == b.1) with | some true => (match some (a.2 == b.2) with | some true => some true | some false => some false | none => none) | some false => some false | none => none) := rfl
  rw [h]
  obtain ⟨a1, a2⟩ := a
  obtain ⟨b1, b2⟩ := b
  by_cases h1 : a1 = b1
  · subst h1
    by_cases h2 : a2 = b2
    · subst h2; simp
    · have e : (a2 == b2) = false := beq_eq_false_iff_ne.2 h2
      simp [h2, e]
  · have e : (a1 == b1) = false := beq_eq_false_iff_ne.2 h1
    simp [h1, e]

theorem PL.neqTyp {X : List Nat} {H0 : Heap} {E : Env} {L : Atoms} {o : Oper} {x y : Operand} {yt : Nat} {a b : Int × List UInt8} (ho : o.op = .binOp .neq 35 x y yt) (hx : lk E x = some (typV a)) (hy : lk E y = some (typV b)) : PL TT O X H0 E L o (.bool (!decide (a = b))) := by
  refine .p (by rw [ho]; rfl) ?_
  rw [ho]
  simp only [opP, hx, hy]
  show (match eqV TT 35 (typV a) (typV b) with | some b => some (Value.bool (!b)) | none => none) = _
  rw [eqV_typ]

theorem PL.eqlTyp {X : List Nat} {H0 : Heap} {E : Env} {L : Atoms} {o : Oper} {x y : Operand} {yt : Nat} {a b : Int × List UInt8} (ho : o.op = .binOp .eql 35 x y yt) (hx : lk E x = some (typV a)) (hy : lk E y = some (typV b)) : PL TT O X H0 E L o (.bool (decide (a = b))) := by
  refine .p (by rw [ho]; rfl) ?_
  rw [ho]
  simp only [opP, hx, hy]
  show (match eqV TT 35 (typV a) (typV b) with | some b => some (Value.bool b) | none => none) = _
  rw [eqV_typ]
end Go.Proofs.Ythifbkjkiijkoaa

