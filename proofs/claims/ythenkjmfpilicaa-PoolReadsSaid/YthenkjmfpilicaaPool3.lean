/-
  Laws of texts and pools as bytes, there and back.
-/
import Derived.Test.YthenkjmfpilicaaPool2
namespace Go.Proofs.Ythenkjmfpilicaa
open Go.Ev Go.Ev.Wk
set_option linter.unusedVariables false
set_option linter.unusedSimpArgs false
variable {O : Old}

theorem numGo_enc (most : Int) (r : List UInt8) : ∀ (k n i v : Nat), n < 2 ^ k → i ≤ 8 → n < 2 ^ (63 - 7 * i) → (i = 0 ∨ 0 < n) →
    numGo most (enc n ++ r) i v = if ((v + n * 2 ^ (7 * i) : Nat) : Int) > max most 0 then (0, 0, 22) else (((v + n * 2 ^ (7 * i) : Nat) : Int), ((i + (enc n).length : Nat) : Int), 0)
  | k, n, i, v, hk, hi, hn, h0 => by
    by_cases h1 : n < 128
    · rw [enc_lt h1, List.cons_append, List.nil_append, numGo]
      have hc : (UInt8.ofNat n).toNat = n := by simp [UInt8.toNat_ofNat']; omega
      rw [hc, if_neg (by omega), if_neg (by omega), Nat.mod_eq_of_lt h1]
      rfl
    · have hi7 : i ≤ 7 := by
        rcases Nat.lt_or_ge i 8 with h8 | h8
        · omega
        · have : i = 8 := by omega
          subst this
          simp at hn
          omega
      have hc : (UInt8.ofNat (n % 128 + 128)).toNat = n % 128 + 128 := by simp [UInt8.toNat_ofNat']; omega
      rw [enc_ge h1, List.cons_append, numGo, hc, if_neg (by omega), if_pos (by omega)]
      have e1 : 2 ^ (63 - 7 * i) = 128 * 2 ^ (63 - 7 * (i + 1)) := by
        rw [show 63 - 7 * i = 7 + (63 - 7 * (i + 1)) from by omega, Nat.pow_add]
      have e2 : 2 ^ (7 * (i + 1)) = 128 * 2 ^ (7 * i) := by rw [show 7 * (i + 1) = 7 + 7 * i from by omega, Nat.pow_add]
      match k, hk with
      | 0, hk => simp at hk; omega
      | k + 1, hk =>
      rw [numGo_enc most r k (n / 128) (i + 1) _ (by rw [Nat.pow_succ] at hk; omega) (by omega) (by omega) (.inr (by omega))]
      have e3 : v + (n % 128 + 128) % 128 * 2 ^ (7 * i) + n / 128 * 2 ^ (7 * (i + 1)) = v + n * 2 ^ (7 * i) := by
        rw [e2, show (n % 128 + 128) % 128 = n % 128 from by omega, ← Nat.mul_assoc, Nat.add_assoc, ← Nat.add_mul]
        congr 2
        omega
      rw [e3, List.length_cons, show i + 1 + (enc (n / 128)).length = i + ((enc (n / 128)).length + 1) from by omega]

theorem numR_enc {most : Int} {r : List UInt8} {n : Nat} (hn : n ≤ 9223372036854775807) (h : (n : Int) ≤ max most 0) : numR (enc n ++ r) most = ((n : Int), ((enc n).length : Int), 0) := by
  have := numGo_enc most r 64 n 0 0 (by omega) (by omega) (by omega) (.inl rfl)
  simp only [Nat.mul_zero, Nat.pow_zero, Nat.mul_one, Nat.zero_add] at this
  rw [numR, this, if_neg (by omega)]

theorem numR_enc_limit {most : Int} {r : List UInt8} {n : Nat} (hn : n ≤ 9223372036854775807) (h : (n : Int) > max most 0) : numR (enc n ++ r) most = (0, ((0 : Nat) : Int), 22) := by
  have := numGo_enc most r 64 n 0 0 (by omega) (by omega) (by omega) (.inl rfl)
  simp only [Nat.mul_zero, Nat.pow_zero, Nat.mul_one, Nat.zero_add] at this
  rw [numR, this, if_pos (by omega)]
  rfl

theorem textR_enc {most : Int} {s r : List UInt8} (hn : s.length ≤ 1000000) (h : (s.length : Int) ≤ max most 0) : textR (enc s.length ++ s ++ r) most = (s, (enc s.length).length + s.length, 0) := by
  have hr := numR_enc (most := most) (r := s ++ r) (n := s.length) (by omega) h
  rw [List.append_assoc]
  unfold textR
  rw [hr]
  simp only [ne_eq, not_true_eq_false, if_false, Int.toNat_natCast]
  rw [if_neg (by simp only [List.length_append]; omega), List.drop_left, List.take_left]

theorem readTs_back (r : List UInt8) : ∀ ts : List (List UInt8), (∀ s ∈ ts, s.length ≤ 1000) → readTs ts.length (textsB ts ++ r) = (0, ts, r)
  | [], _ => rfl
  | s :: ts, h => by
    have h0 := h s (by simp)
    have ih := readTs_back r ts (fun s hs => h s (by simp [hs]))
    have ht := textR_enc (most := 1000) (s := s) (r := textsB ts ++ r) (by omega) (by omega)
    rw [List.length_cons, readTs, textsB, List.append_assoc, ht]
    simp only [ne_eq, not_true_eq_false, if_false]
    rw [show (enc s.length ++ s ++ (textsB ts ++ r)).drop ((enc s.length).length + s.length) = textsB ts ++ r from by rw [← List.length_append, List.drop_left], ih]

theorem poolR_back {ts : List (List UInt8)} (r : List UInt8) (h : ts.length ≤ 10000) (hs : ∀ s ∈ ts, s.length ≤ 1000) : poolR (poolB ts ++ r) = (0, ts, r) := by
  have hr := numR_enc (most := 10000) (r := textsB ts ++ r) (n := ts.length) (by omega) (by omega)
  rw [poolB, List.append_assoc]
  unfold poolR
  rw [hr]
  simp only [ne_eq, not_true_eq_false, if_false, Int.toNat_natCast]
  rw [List.drop_left]
  exact readTs_back r ts hs

/-- a text more, if it is not there -/
def putT (ts : List (List UInt8)) (s : List UInt8) : List (List UInt8) := if s ∈ ts then ts else ts ++ [s]

theorem putT_in {ts : List (List UInt8)} {s : List UInt8} (h : s ∈ ts) : putT ts s = ts := if_pos h

theorem mem_putT {ts : List (List UInt8)} {s x : List UInt8} : x ∈ putT ts s ↔ x ∈ ts ∨ x = s := by
  unfold putT
  split
  · constructor
    · exact .inl
    · rintro (h | rfl)
      · exact h
      · assumption
  · simp

theorem putT_len (ts : List (List UInt8)) (s : List UInt8) : (putT ts s).length ≤ ts.length + 1 := by
  unfold putT
  split
  · omega
  · simp

def putL (l : List (List UInt8)) : List (List UInt8) := l.foldl putT []

theorem mem_foldT {x : List UInt8} : ∀ {l ts : List (List UInt8)}, x ∈ l.foldl putT ts ↔ x ∈ ts ∨ x ∈ l
  | [], ts => by simp
  | s :: l, ts => by
    rw [List.foldl_cons, mem_foldT, mem_putT, List.mem_cons]
    constructor
    · rintro ((h | h) | h)
      · exact .inl h
      · exact .inr (.inl h)
      · exact .inr (.inr h)
    · rintro (h | h | h)
      · exact .inl (.inl h)
      · exact .inl (.inr h)
      · exact .inr h

theorem foldT_len : ∀ (l ts : List (List UInt8)), (l.foldl putT ts).length ≤ ts.length + l.length
  | [], ts => by simp
  | s :: l, ts => by
    have h1 := foldT_len l (putT ts s)
    have h2 := putT_len ts s
    rw [List.foldl_cons, List.length_cons]
    omega

theorem putL_snoc (l : List (List UInt8)) (s : List UInt8) : putL (l ++ [s]) = putT (putL l) s := by simp [putL, List.foldl_append]

theorem textsB_le {n : Nat} : ∀ {ts : List (List UInt8)}, (∀ s ∈ ts, s.length ≤ n) → n ≤ 100000 → (textsB ts).length ≤ (9 + n) * ts.length
  | [], _, _ => by simp [textsB]
  | s :: ts, h, hn => by
    have h0 := h s (by simp)
    have h1 := enc_len9 (n := s.length) (by omega)
    have h2 := textsB_le (ts := ts) (fun s hs => h s (by simp [hs])) hn
    simp only [textsB, List.length_append, List.length_cons]
    rw [Nat.mul_add]
    omega

end Go.Proofs.Ythenkjmfpilicaa

