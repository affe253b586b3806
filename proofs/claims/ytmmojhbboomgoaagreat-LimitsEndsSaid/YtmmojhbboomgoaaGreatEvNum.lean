/-
  Numbers: what reckoning with bits gives.
-/
import Derived.Test.YtmmojhbboomgoaaGreatEvWC
namespace Go.Ev.Wk
set_option linter.unusedSimpArgs false
set_option linter.unusedVariables false

theorem bv_toNat {n x : Nat} (h : x < 2 ^ n) : (BitVec.ofInt n (x : Int)).toNat = x := by
  rw [BitVec.toNat_ofInt]
  have : ((x : Int) % ((2 ^ n : Nat) : Int)) = ((x % 2 ^ n : Nat) : Int) := by norm_cast
  rw [this, Nat.mod_eq_of_lt h]
  simp

theorem and_raw {k : IntKind} {x y : Nat} (hx : x < 2 ^ k.bits) (hy : y < 2 ^ k.bits) : (BitVec.ofInt k.bits (x : Int) &&& BitVec.ofInt k.bits (y : Int)).toNat = x &&& y := by
  rw [BitVec.toNat_and, bv_toNat hx, bv_toNat hy]

theorem or_raw {k : IntKind} {x y : Nat} (hx : x < 2 ^ k.bits) (hy : y < 2 ^ k.bits) : (BitVec.ofInt k.bits (x : Int) ||| BitVec.ofInt k.bits (y : Int)).toNat = x ||| y := by
  rw [BitVec.toNat_or, bv_toNat hx, bv_toNat hy]

/-- 'c & 127' of a byte -/
theorem and127_u8 {x : Int} (h0 : 0 ≤ x) (h1 : x ≤ 255) : IntKind.u8.wrap ((BitVec.ofInt IntKind.u8.bits x &&& BitVec.ofInt IntKind.u8.bits 127).toNat : Int) = ((x.toNat % 128 : Nat) : Int) := by
  obtain ⟨n, rfl⟩ := Int.eq_ofNat_of_zero_le h0
  have hn : n < 2 ^ IntKind.u8.bits := by show n < 256; omega
  rw [show (127 : Int) = ((127 : Nat) : Int) from rfl, and_raw hn (by decide)]
  have e : n &&& 127 = n % 128 := Nat.and_two_pow_sub_one_eq_mod n 7
  rw [e]
  exact w8 (by simp) (by omega) (by have := Nat.mod_lt n (show 0 < 128 by decide); simp; omega)

/-- 'n & 127' of a number -/
theorem and127_i64 {x : Int} (h0 : 0 ≤ x) (h1 : x ≤ 9223372036854775807) : IntKind.i64.wrap ((BitVec.ofInt IntKind.i64.bits x &&& BitVec.ofInt IntKind.i64.bits 127).toNat : Int) = ((x.toNat % 128 : Nat) : Int) := by
  obtain ⟨n, rfl⟩ := Int.eq_ofNat_of_zero_le h0
  have hn : n < 2 ^ IntKind.i64.bits := by show n < 18446744073709551616; omega
  rw [show (127 : Int) = ((127 : Nat) : Int) from rfl, and_raw hn (by decide)]
  have e : n &&& 127 = n % 128 := Nat.and_two_pow_sub_one_eq_mod n 7
  rw [e]
  exact w64 (by simp) (by omega) (by have := Nat.mod_lt n (show 0 < 128 by decide); simp; omega)

theorem and1_i64 {x : Int} (h0 : 0 ≤ x) (h1 : x ≤ 9223372036854775807) : IntKind.i64.wrap ((BitVec.ofInt IntKind.i64.bits x &&& BitVec.ofInt IntKind.i64.bits 1).toNat : Int) = ((x.toNat % 2 : Nat) : Int) := by
  obtain ⟨n, rfl⟩ := Int.eq_ofNat_of_zero_le h0
  have hn : n < 2 ^ IntKind.i64.bits := by show n < 18446744073709551616; omega
  rw [show (1 : Int) = ((1 : Nat) : Int) from rfl, and_raw hn (by decide)]
  have e : n &&& 1 = n % 2 := Nat.and_two_pow_sub_one_eq_mod n 1
  rw [e]
  exact w64 (by simp) (by omega) (by have := Nat.mod_lt n (show 0 < 2 by decide); simp; omega)

/-- 'byte | 128' -/
theorem or128_u8 {x : Int} (h0 : 0 ≤ x) (h1 : x ≤ 255) : IntKind.u8.wrap ((BitVec.ofInt IntKind.u8.bits x ||| BitVec.ofInt IntKind.u8.bits 128).toNat : Int) = ((x.toNat % 128 + 128 : Nat) : Int) := by
  obtain ⟨n, rfl⟩ := Int.eq_ofNat_of_zero_le h0
  have hn : n < 256 := by omega
  have hn' : n < 2 ^ IntKind.u8.bits := hn
  rw [show (128 : Int) = ((128 : Nat) : Int) from rfl, or_raw hn' (by decide)]
  have e : ∀ m : Fin 256, m.val ||| 128 = m.val % 128 + 128 := by decide +kernel
  rw [e ⟨n, hn⟩]
  exact w8 (by simp) (by omega) (by have := Nat.mod_lt n (show 0 < 128 by decide); simp; omega)

theorem and127_u8N {x : Nat} (h : x ≤ 255) : IntKind.u8.wrap ((BitVec.ofInt IntKind.u8.bits (x : Int) &&& BitVec.ofInt IntKind.u8.bits 127).toNat : Int) = ((x % 128 : Nat) : Int) := and127_u8 (by omega) (by omega)
theorem and127_i64N {x : Nat} (h : x ≤ 9223372036854775807) : IntKind.i64.wrap ((BitVec.ofInt IntKind.i64.bits (x : Int) &&& BitVec.ofInt IntKind.i64.bits 127).toNat : Int) = ((x % 128 : Nat) : Int) := and127_i64 (by omega) (by omega)
theorem and1_i64N {x : Nat} (h : x ≤ 9223372036854775807) : IntKind.i64.wrap ((BitVec.ofInt IntKind.i64.bits (x : Int) &&& BitVec.ofInt IntKind.i64.bits 1).toNat : Int) = ((x % 2 : Nat) : Int) := and1_i64 (by omega) (by omega)
theorem or128_u8N {x : Nat} (h : x ≤ 255) : IntKind.u8.wrap ((BitVec.ofInt IntKind.u8.bits (x : Int) ||| BitVec.ofInt IntKind.u8.bits 128).toNat : Int) = ((x % 128 + 128 : Nat) : Int) := or128_u8 (by omega) (by omega)

/-- numbers whose bits do not meet -/
theorem or_add {x z s : Nat} (hx : x < 2 ^ s) : x ||| (z * 2 ^ s) = x + z * 2 ^ s := by
  rw [Nat.or_comm, Nat.mul_comm z, ← Nat.two_pow_add_eq_or_of_lt hx, Nat.add_comm]

theorem or_i64 {x z s : Nat} (hx : x < 2 ^ s) (h : x + z * 2 ^ s < 9223372036854775808) : IntKind.i64.wrap ((BitVec.ofInt IntKind.i64.bits (x : Int) ||| BitVec.ofInt IntKind.i64.bits ((z * 2 ^ s : Nat) : Int)).toNat : Int) = ((x + z * 2 ^ s : Nat) : Int) := by
  have h1 : x < 2 ^ IntKind.i64.bits := by show x < 18446744073709551616; omega
  have h2 : z * 2 ^ s < 2 ^ IntKind.i64.bits := by show z * 2 ^ s < 18446744073709551616; omega
  rw [or_raw h1 h2, or_add hx]
  exact w64 rfl (by omega) (by omega)

theorem fdivN {x m : Nat} : ((x : Int).fdiv (m : Int)) = ((x / m : Nat) : Int) := by
  cases m with
  | zero => rw [show ((0 : Nat) : Int) = 0 from rfl, Int.fdiv_zero]; simp
  | succ m => rw [Int.fdiv_eq_ediv_of_nonneg _ (by omega)]; norm_cast

/-- 'byte(n)' -/
theorem byte_wrap (n : Nat) : IntKind.u8.wrap (n : Int) = ((n % 256 : Nat) : Int) := by
  simp only [IntKind.wrap, IntKind.bits, IntKind.signed]
  simp

theorem shl_raw {a s : Nat} {b : Int} (hb : b = (s : Int)) (hs : s ≤ 63) (h : a * 2 ^ s < 9223372036854775808) : IntKind.i64.wrap ((a : Int) * 2 ^ (min b.toNat IntKind.i64.bits)) = ((a * 2 ^ s : Nat) : Int) := by
  subst hb
  have e2 : min ((s : Int).toNat) IntKind.i64.bits = s := by show min s 64 = s; omega
  rw [e2]
  exact w64 (by norm_cast) (by omega) (by omega)

theorem shr_raw {a s : Nat} {b : Int} (hb : b = (s : Int)) (hs : s ≤ 63) : ((a : Int).fdiv (2 ^ (min b.toNat IntKind.i64.bits))) = ((a / 2 ^ s : Nat) : Int) := by
  subst hb
  have e2 : min ((s : Int).toNat) IntKind.i64.bits = s := by show min s 64 = s; omega
  rw [e2, show ((2 : Int) ^ s) = ((2 ^ s : Nat) : Int) from by norm_cast, fdivN]

section
variable {T : Tab} {O : Old} {X : List Nat} {H0 : Heap} {N : Nat} {E : Env} {L : Atoms}

theorem PL.shl {o : Oper} {t yt : Nat} {x y : Operand} {k' : IntKind} {a s : Nat} {b : Int} (ho : o.op = .binOp .shl t x y yt) (hx : lk E x = some (.int .i64 (a : Int))) (hy : lk E y = some (.int k' b)) (hb : b = (s : Int)) (hs : s ≤ 63) (h : a * 2 ^ s < 9223372036854775808) : PL T O X H0 E L o (.int .i64 ((a * 2 ^ s : Nat) : Int)) := by
  subst hb
  refine .p (by rw [ho]; rfl) ?_
  rw [ho]
  have e1 : ¬ ((s : Int) < 0) := by omega
  have e2 : min ((s : Int).toNat) IntKind.i64.bits = s := by show min s 64 = s; omega
  have e3 : ((a : Int) * 2 ^ s) = ((a * 2 ^ s : Nat) : Int) := by norm_cast
  have key : intOp .shl .i64 (a : Int) (s : Int) = some (.int .i64 ((a * 2 ^ s : Nat) : Int)) := by
    simp only [intOp, if_neg e1, e2]
    rw [w64 (n := ((a * 2 ^ s : Nat) : Int)) e3 (by omega) (by omega)]
  simp only [opP, hx, hy, binV, isShift, if_true]
  exact key

theorem PL.shr {o : Oper} {t yt : Nat} {x y : Operand} {k' : IntKind} {a : Nat} (s : Nat) (ho : o.op = .binOp .shr t x y yt) (hx : lk E x = some (.int .i64 (a : Int))) (hy : lk E y = some (.int k' (s : Int))) (hs : s ≤ 63) : PL T O X H0 E L o (.int .i64 ((a / 2 ^ s : Nat) : Int)) := by
  refine .p (by rw [ho]; rfl) ?_
  rw [ho]
  have e1 : ¬ ((s : Int) < 0) := by omega
  have e2 : min ((s : Int).toNat) IntKind.i64.bits = s := by show min s 64 = s; omega
  have e3 : ((2 : Int) ^ s) = ((2 ^ s : Nat) : Int) := by norm_cast
  have key : intOp .shr .i64 (a : Int) (s : Int) = some (.int .i64 ((a / 2 ^ s : Nat) : Int)) := by
    simp only [intOp, if_neg e1, e2]
    rw [e3, fdivN]
  simp only [opP, hx, hy, binV, isShift, if_true]
  exact key

theorem PL.max2 {o : Oper} {x y : Operand} {ts : Array TypeId} {k k' : IntKind} {a b : Int} (ho : o.op = .call { callee := .builtin .max, args := #[x, y], argTypes := ts }) (hx : lk E x = some (.int k a)) (hy : lk E y = some (.int k' b)) : PL T O X H0 E L o (.int k (max a b)) := by
  refine .l (by rw [ho]; rfl) fun H _ => ?_
  rw [ho]
  simp only [opL, args, hx, hy, mm, cond_true]
  congr 2
  split <;> omega

theorem PL.min2 {o : Oper} {x y : Operand} {ts : Array TypeId} {k k' : IntKind} {a b : Int} (ho : o.op = .call { callee := .builtin .min, args := #[x, y], argTypes := ts }) (hx : lk E x = some (.int k a)) (hy : lk E y = some (.int k' b)) : PL T O X H0 E L o (.int k (min a b)) := by
  refine .l (by rw [ho]; rfl) fun H _ => ?_
  rw [ho]
  simp only [opL, args, hx, hy, mm, cond_false]
  congr 2
  split <;> omega
end
end Go.Ev.Wk
