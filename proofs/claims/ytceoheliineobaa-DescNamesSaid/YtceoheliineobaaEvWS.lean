/-
  Walks: texts: their bytes, their parts.
-/
import Derived.Test.YtceoheliineobaaEvWF
namespace Go.Ev.Wk
set_option linter.unusedSimpArgs false
set_option linter.unusedVariables false

section
variable {T : Tab} {O : Old} {X : List Nat} {H0 : Heap} {N : Nat} {E : Env} {L : Atoms}

theorem PL.sidx {o : Oper} {t : Nat} {x i : Operand} {s : List UInt8} {c : UInt8} {kd : IntKind} {j : Int} (ho : o.op = .index t x i) (hx : lk E x = some (str s)) (hi : lk E i = some (.int kd j)) (ht : T.und t = some .string) (hj : 0 ≤ j) (hc : s[j.toNat]? = some c) : PL T O X H0 E L o (.int .u8 (c.toNat : Int)) := by
  refine .p (by rw [ho]; rfl) ?_
  rw [ho]
  simp only [opP, hx, hi, indexV, ht, if_pos hj, hc]

theorem look_scut {t l h : Nat} {x : Operand} {lo hi : Option Operand} {vl vh : Option Value} {s : List UInt8} {i j : Int} (hx : lk E x = some (str s)) (hlo : optV (lk E) lo = some vl) (hhi : optV (lk E) hi = some vh) (h1 : numO 0 vl = some i) (hi' : i = l) (h2 : numO s.length vh = some j) (hj' : j = h)
    (ht : T.und t = some .string) (hl : l ≤ h) (hh : h ≤ s.length) : ∀ H, St X H0 H L → opL T O H (lk E) (.slice t x lo hi none) = some (str ((s.take h).drop l)) := by
  intro H _
  subst hi'; subst hj'
  have hb : bounds s.length s.length vl vh none = some (l, h, s.length) := bounds_of h1 h2 hl hh (Nat.le_refl _)
  have hm : optV (lk E) none = some none := rfl
  simp only [opL, hx, hlo, hhi, hm, sliceV, ht]
  show (match bounds s.length s.length vl vh none with | some (l, h, _) => some (Value.string ⟨⟨(s.take h).drop l⟩⟩) | none => none) = _
  rw [hb]

/-- a number's bits, a constant's -/
theorem PL.orU8 {o : Oper} {t yt : Nat} {x y : Operand} {a b : Nat} (ho : o.op = .binOp .or t x y yt) (hx : lk E x = some (.int .u8 (a : Int))) (hy : lk E y = some (.int .u8 (b : Int))) (ha : a < 256) (hb : b < 256) : PL T O X H0 E L o (.int .u8 ((a ||| b : Nat) : Int)) := by
  refine .p (by rw [ho]; rfl) ?_
  rw [ho]
  have h1 : a < 2 ^ IntKind.u8.bits := ha
  have h2 : b < 2 ^ IntKind.u8.bits := hb
  have h3 : a ||| b < 2 ^ 8 := Nat.or_lt_two_pow ha hb
  have key : intOp .or .u8 (a : Int) (b : Int) = some (.int .u8 ((a ||| b : Nat) : Int)) := by
    simp only [intOp]
    rw [or_raw h1 h2, w8 (n := ((a ||| b : Nat) : Int)) rfl (by omega) (by omega)]
  simp only [opP, hx, hy]
  exact key
end
end Go.Ev.Wk
