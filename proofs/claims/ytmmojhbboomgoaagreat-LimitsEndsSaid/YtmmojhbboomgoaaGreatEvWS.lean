/-
  Walks: texts: their bytes, their parts.
-/
import Derived.Test.YtmmojhbboomgoaaGreatEvWF
namespace Go.Ev.Wk
set_option linter.unusedSimpArgs false
set_option linter.unusedVariables false

section
variable {T : Tab} {O : Old} {X : List Nat} {H0 : Heap} {N : Nat} {E : Env} {L : Atoms}

theorem PL.sidx {o : Oper} {t : Nat} {x i : Operand} {s : List UInt8} {c : UInt8} {kd : IntKind} {j : Int} (ho : o.op = .index t x i) (hx : lk E x = some (str s)) (hi : lk E i = some (.int kd j)) (ht : T.und t = some .string) (hj : 0 ≤ j) (hc : s[j.toNat]? = some c) : PL T O X H0 E L o (.int .u8 (c.toNat : Int)) := by
  refine .p (by rw [ho]; rfl) ?_
  rw [ho]
  simp only [opP, hx, hi, indexV, ht, if_pos hj, hc]

theorem look_scut {t l h : Nat} {x : Operand} {lo hi : Option Operand} {vl vh : Option Value} {s : List UInt8} {i j : Int} (hx : lk E x = some (str s)) (hlo : optV (lk E) lo = some vl) (hhi : optV (lk E) hi = some vh) (h1 : numO 0 vl = some i) (hi' : i = l) (h2 : numO s.length vh = some j) (hj' : j = h)
    (ht : T.und t = some .string) (hl : l ≤ h) (hh : h ≤ s.length) : ∀ H, St X H0 H L → opL T O H (lk E) (.slice t x lo hi none) = some (str ((s.take h).drop l)) := by
  intro H _
  subst hi'; subst hj'
  have hb : bounds s.length s.length vl vh none = some (l, h, s.length) := bounds_of h1 h2 hl hh (Nat.le_refl _)
  have hm : optV (lk E) none = some none := rfl
  simp only [opL, hx, hlo, hhi, hm, sliceV, ht]
  show (match bounds s.length s.length vl vh none with | some (l, h, _) => some (Value.string ⟨⟨(s.take h).drop l⟩⟩) | none => none) = _
  rw [hb]

/-- a number's bits, a constant's -/
theorem PL.orU8 {o : Oper} {t yt : Nat} {x y : Operand} {a b : Nat} (ho : o.op = .binOp .or t x y yt) (hx : lk E x = some (.int .u8 (a : Int))) (hy : lk E y = some (.int .u8 (b : Int))) (ha : a < 256) (hb : b < 256) : PL T O X H0 E L o (.int .u8 ((a ||| b : Nat) : Int)) := by
  refine .p (by rw [ho]; rfl) ?_
  rw [ho]
  have h1 : a < 2 ^ IntKind.u8.bits := ha
  have h2 : b < 2 ^ IntKind.u8.bits := hb
  have h3 : a ||| b < 2 ^ 8 := Nat.or_lt_two_pow ha hb
  have key : intOp .or .u8 (a : Int) (b : Int) = some (.int .u8 ((a ||| b : Nat) : Int)) := by
    simp only [intOp]
    rw [or_raw h1 h2, w8 (n := ((a ||| b : Nat) : Int)) rfl (by omega) (by omega)]
  simp only [opP, hx, hy]
  exact key

/-! What strings.Builder does. -/

theorem look_unsafe {src dst t b off ver esz ty m : Nat} {x : Operand} {l : List Value} {v : Value} (i : Nat) (hx : lk E x = some (.pointer (some ⟨b, off, some ver⟩))) (hi : L[i]? = some (some b, .cells ver l esz ty)) (hs : T.und src = some (.pointer t)) (hd : T.und dst = some .unsafePointer) (hz : T.size t = some (m + 1)) (hv : l[off]? = some v) :
    ∀ H, St X H0 H L → opL T O H (lk E) (.convert src dst x) = some (.pointer (some ⟨b, off, some ver⟩)) := by
  intro H hs'
  obtain ⟨cs, p, h1, h2⟩ := hs'.get hi
  have h3 := h2 off v hv
  simp only [opL, hx, convV, hs, hd, hz, h1, Nat.beq_refl, h3, Option.isSome_some, Bool.and_self, cond_true]

theorem look_back {src dst t b ver esz n : Nat} {x : Operand} {l : List Value} (i : Nat) (hx : lk E x = some (.pointer (some ⟨b, 0, some ver⟩))) (hi : L[i]? = some (some b, .cells ver l esz t)) (hs : T.und src = some .unsafePointer) (hd : T.und dst = some (.pointer t)) (hz : T.size t = some n) (hn : (Nat.ble 1 n && Nat.ble n l.length) = true) :
    ∀ H, St X H0 H L → opL T O H (lk E) (.convert src dst x) = some (.pointer (some ⟨b, 0, some ver⟩)) := by
  intro H hs'
  obtain ⟨cs, p, h1, h2⟩ := hs'.get hi
  simp only [Bool.and_eq_true] at hn
  simp only [opL, hx, convV, hs, hd, hz, h1, Nat.beq_refl, hn.1, hn.2, Bool.and_self, cond_true]

theorem PL.ptrSelf {o : Oper} {t yt e n : Nat} {x y : Operand} {b off ver : Nat} (ho : o.op = .binOp .neq t x y yt) (hx : lk E x = some (.pointer (some ⟨b, off, some ver⟩))) (hy : lk E y = some (.pointer (some ⟨b, off, some ver⟩))) (ht : T.und t = some (.pointer e)) (hz : T.size e = some n) : PL T O X H0 E L o (.bool false) := by
  refine .p (by rw [ho]; rfl) ?_
  rw [ho]
  simp only [opP, hx, hy, binV, numish, cond_false, eqV, ht, eqCell, hz, Option.isSome_some, and_self, if_true, Bool.not_true]

theorem step_unsafeString {o : Oper} {px nx : Operand} {pt nt e b ver j : Nat} {l : List UInt8} {k : Value → Atoms → Prop} (ho : o.op = .call { callee := .builtin .unsafeString, args := #[px, nx], argTypes := #[pt, nt] }) (hp : lk E px = some (.pointer (some ⟨b, 0, some ver⟩))) (hn : lk E nx = some (.int .i64 (l.length : Int)))
    (hj : L[j]? = some (some b, .cells ver (l.map fun c => .int .u8 (c.toNat : Int)) 1 e)) (ht : T.und pt = some (.pointer e)) (he : T.und e = some (.int .u8)) (hz : T.size e = some 1) (h0 : 0 < l.length) (h1 : l.length ≤ 1073741824)
    (h : k (str l) (L.set j (none, .map []))) : StepS T O X H0 E L o k := by
  refine step_w (by rw [ho]; rfl) fun H hst => ?_
  obtain ⟨cs, p, g1, g2⟩ := hst.get hj
  have hrd : rdN O H b (some ver) l.length 0 = some (l.map fun c => .int .u8 (c.toNat : Int)) := by
    have := (hst.get hj).rdN (O := O) (rdL_full _)
    rwa [List.length_map] at this
  have hb : bytesOf (l.map fun c => Value.int .u8 (c.toNat : Int)) = some l := by
    clear hrd g1 g2 hj hn h h0 h1
    induction l with
    | nil => rfl
    | cons c l ih => simp [bytesOf, ih]
  refine ⟨str l, ⟨H.blks.put b .dead, H.next⟩, _, ?_, hst.became hj (p' := (none, .map [])) ⟨⟨Nat.le_refl _, fun c _ hc => Tr.get_put_ne _ _ (by simpa [blkOf] using hc)⟩, fun b hb => by cases hb⟩, Nat.le_refl _, h⟩
  rw [ho]
  have ha : args (lk E) #[px, nx].toList = some [.pointer (some ⟨b, 0, some ver⟩), .int .i64 (l.length : Int)] := by simp [args, hp, hn]
  simp only [opW, ha, textOf, ht, he, hz, g1, Int.toNat_natCast, hrd, hb]
  rw [if_pos ⟨by omega, by rw [List.length_map]; omega, by omega, trivial, trivial⟩]
end
end Go.Ev.Wk
