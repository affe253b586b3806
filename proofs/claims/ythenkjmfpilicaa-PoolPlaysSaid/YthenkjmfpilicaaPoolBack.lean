/-
  'bonsailaw4.PoolBack' is true at every input: the walk.
-/
import Derived.Test.YthenkjmfpilicaaPool2
namespace Go.Proofs.Ythenkjmfpilicaa
open Go.Ev Go.Ev.Wk
set_option linter.unusedVariables false
set_option linter.unusedSimpArgs false
variable {O : Old}

theorem numGo_enc (most : Int) (r : List UInt8) : ∀ (k n i v : Nat), n < 2 ^ k → i ≤ 8 → n < 2 ^ (63 - 7 * i) → (i = 0 ∨ 0 < n) →
    numGo most (enc n ++ r) i v = if ((v + n * 2 ^ (7 * i) : Nat) : Int) > max most 0 then (0, 0, 22) else (((v + n * 2 ^ (7 * i) : Nat) : Int), ((i + (enc n).length : Nat) : Int), 0)
  | k, n, i, v, hk, hi, hn, h0 => by
    by_cases h1 : n < 128
    · rw [enc_lt h1, List.cons_append, List.nil_append, numGo]
      have hc : (UInt8.ofNat n).toNat = n := by simp [UInt8.toNat_ofNat']; omega
      rw [hc, if_neg (by omega), if_neg (by omega), Nat.mod_eq_of_lt h1]
      rfl
    · have hi7 : i ≤ 7 := by
        rcases Nat.lt_or_ge i 8 with h8 | h8
        · omega
        · have : i = 8 := by omega
          subst this
          simp at hn
          omega
      have hc : (UInt8.ofNat (n % 128 + 128)).toNat = n % 128 + 128 := by simp [UInt8.toNat_ofNat']; omega
      rw [enc_ge h1, List.cons_append, numGo, hc, if_neg (by omega), if_pos (by omega)]
      have e1 : 2 ^ (63 - 7 * i) = 128 * 2 ^ (63 - 7 * (i + 1)) := by
        rw [show 63 - 7 * i = 7 + (63 - 7 * (i + 1)) from by omega, Nat.pow_add]
      have e2 : 2 ^ (7 * (i + 1)) = 128 * 2 ^ (7 * i) := by rw [show 7 * (i + 1) = 7 + 7 * i from by omega, Nat.pow_add]
      match k, hk with
      | 0, hk => simp at hk; omega
      | k + 1, hk =>
      rw [numGo_enc most r k (n / 128) (i + 1) _ (by rw [Nat.pow_succ] at hk; omega) (by omega) (by omega) (.inr (by omega))]
      have e3 : v + (n % 128 + 128) % 128 * 2 ^ (7 * i) + n / 128 * 2 ^ (7 * (i + 1)) = v + n * 2 ^ (7 * i) := by
        rw [e2, show (n % 128 + 128) % 128 = n % 128 from by omega, ← Nat.mul_assoc, Nat.add_assoc, ← Nat.add_mul]
        congr 2
        omega
      rw [e3, List.length_cons, show i + 1 + (enc (n / 128)).length = i + ((enc (n / 128)).length + 1) from by omega]

theorem numR_enc {most : Int} {r : List UInt8} {n : Nat} (hn : n ≤ 9223372036854775807) (h : (n : Int) ≤ max most 0) : numR (enc n ++ r) most = ((n : Int), ((enc n).length : Int), 0) := by
  have := numGo_enc most r 64 n 0 0 (by omega) (by omega) (by omega) (.inl rfl)
  simp only [Nat.mul_zero, Nat.pow_zero, Nat.mul_one, Nat.zero_add] at this
  rw [numR, this, if_neg (by omega)]

theorem numR_enc_limit {most : Int} {r : List UInt8} {n : Nat} (hn : n ≤ 9223372036854775807) (h : (n : Int) > max most 0) : numR (enc n ++ r) most = (0, ((0 : Nat) : Int), 22) := by
  have := numGo_enc most r 64 n 0 0 (by omega) (by omega) (by omega) (.inl rfl)
  simp only [Nat.mul_zero, Nat.pow_zero, Nat.mul_one, Nat.zero_add] at this
  rw [numR, this, if_pos (by omega)]
  rfl

theorem textR_enc {most : Int} {s r : List UInt8} (hn : s.length ≤ 1000000) (h : (s.length : Int) ≤ max most 0) : textR (enc s.length ++ s ++ r) most = (s, (enc s.length).length + s.length, 0) := by
  have hr := numR_enc (most := most) (r := s ++ r) (n := s.length) (by omega) h
  rw [List.append_assoc]
  unfold textR
  rw [hr]
  simp only [ne_eq, not_true_eq_false, if_false, Int.toNat_natCast]
  rw [if_neg (by simp only [List.length_append]; omega), List.drop_left, List.take_left]

theorem readTs_back (r : List UInt8) : ∀ ts : List (List UInt8), (∀ s ∈ ts, s.length ≤ 1000) → readTs ts.length (textsB ts ++ r) = (0, ts, r)
  | [], _ => rfl
  | s :: ts, h => by
    have h0 := h s (by simp)
    have ih := readTs_back r ts (fun s hs => h s (by simp [hs]))
    have ht := textR_enc (most := 1000) (s := s) (r := textsB ts ++ r) (by omega) (by omega)
    rw [List.length_cons, readTs, textsB, List.append_assoc, ht]
    simp only [ne_eq, not_true_eq_false, if_false]
    rw [show (enc s.length ++ s ++ (textsB ts ++ r)).drop ((enc s.length).length + s.length) = textsB ts ++ r from by rw [← List.length_append, List.drop_left], ih]

theorem poolR_back {ts : List (List UInt8)} (r : List UInt8) (h : ts.length ≤ 10000) (hs : ∀ s ∈ ts, s.length ≤ 1000) : poolR (poolB ts ++ r) = (0, ts, r) := by
  have hr := numR_enc (most := 10000) (r := textsB ts ++ r) (n := ts.length) (by omega) (by omega)
  rw [poolB, List.append_assoc]
  unfold poolR
  rw [hr]
  simp only [ne_eq, not_true_eq_false, if_false, Int.toNat_natCast]
  rw [List.drop_left]
  exact readTs_back r ts hs

/-- a text more, if it is not there -/
def putT (ts : List (List UInt8)) (s : List UInt8) : List (List UInt8) := if s ∈ ts then ts else ts ++ [s]

theorem putT_in {ts : List (List UInt8)} {s : List UInt8} (h : s ∈ ts) : putT ts s = ts := if_pos h

theorem mem_putT {ts : List (List UInt8)} {s x : List UInt8} : x ∈ putT ts s ↔ x ∈ ts ∨ x = s := by
  unfold putT
  split
  · constructor
    · exact .inl
    · rintro (h | rfl)
      · exact h
      · assumption
  · simp

theorem putT_len (ts : List (List UInt8)) (s : List UInt8) : (putT ts s).length ≤ ts.length + 1 := by
  unfold putT
  split
  · omega
  · simp

def putL (l : List (List UInt8)) : List (List UInt8) := l.foldl putT []

theorem mem_foldT {x : List UInt8} : ∀ {l ts : List (List UInt8)}, x ∈ l.foldl putT ts ↔ x ∈ ts ∨ x ∈ l
  | [], ts => by simp
  | s :: l, ts => by
    rw [List.foldl_cons, mem_foldT, mem_putT, List.mem_cons]
    constructor
    · rintro ((h | h) | h)
      · exact .inl h
      · exact .inr (.inl h)
      · exact .inr (.inr h)
    · rintro (h | h | h)
      · exact .inl (.inl h)
      · exact .inl (.inr h)
      · exact .inr h

theorem foldT_len : ∀ (l ts : List (List UInt8)), (l.foldl putT ts).length ≤ ts.length + l.length
  | [], ts => by simp
  | s :: l, ts => by
    have h1 := foldT_len l (putT ts s)
    have h2 := putT_len ts s
    rw [List.foldl_cons, List.length_cons]
    omega

theorem putL_snoc (l : List (List UInt8)) (s : List UInt8) : putL (l ++ [s]) = putT (putL l) s := by simp [putL, List.foldl_append]

theorem textsB_le {n : Nat} : ∀ {ts : List (List UInt8)}, (∀ s ∈ ts, s.length ≤ n) → n ≤ 100000 → (textsB ts).length ≤ (9 + n) * ts.length
  | [], _, _ => by simp [textsB]
  | s :: ts, h, hn => by
    have h0 := h s (by simp)
    have h1 := enc_len9 (n := s.length) (by omega)
    have h2 := textsB_le (ts := ts) (fun s hs => h s (by simp [hs])) hn
    simp only [textsB, List.length_append, List.length_cons]
    rw [Nat.mul_add]
    omega

set_option maxHeartbeats 8000000 in
set_option maxRecDepth 100000 in
theorem poolBack_walk {al : Option Addr} {ll cl : Nat} {l : List (List UInt8)} {more : List UInt8} (hl : ∀ H, Sl O H (.slice al ll cl) 1 ll (l.map str)) :
    CallC TT O 4 [.slice al ll cl, str more] .empty fun v H' => v = .bool true ∧ Ext .empty H' := by
  have hll : l.length = ll := by have := (hl .empty).1; simpa using this
  refine call_pure rfl rfl rfl rfl rfl ?_
  repeat (first
      | refine exec_seq ?_
      | refine exec_region ?_
      | refine exec_block ?_
      | refine exec_skip ?_
      | refine exec_exit ?_
      | refine exec_ret ?_
      | refine exec_true rfl ?_
      | refine exec_false rfl ?_
      | refine ops_nil ?_
      | (apply ops_pl rfl rfl rfl ?_ rfl ?_; rotate_left; focus first | exact (.bld rfl rfl rfl rfl) | exact (.neSelf rfl rfl rfl rfl) | exact (.eqSelf rfl rfl rfl rfl) | exact (.wr64 rfl rfl (by omega) (by omega)) | exact (.wr8 rfl rfl (by omega) (by omega)) | exact (.num rfl rfl (and127_u8N (by omega))) | exact (.num rfl rfl (or128_u8N (by omega))) | exact (.num rfl rfl (and127_i64N (by omega))) | exact (.num rfl rfl (and1_i64N (by omega))) | exact (.p rfl rfl) | exact (.max2 rfl rfl rfl) | exact (.min2 rfl rfl rfl) | exact (.numL rfl (fun _ => rfl) (byte_wrap _)) | exact (.cv64 rfl (fun _ => rfl) (by omega) (by omega)) | exact (.cv8 rfl (fun _ => rfl) (by omega) (by omega)) | exact (.l rfl (fun _ _ => rfl)) | exact (.l rfl (look_own 0 rfl rfl rfl rfl)) | exact (.l rfl (look_own 1 rfl rfl rfl rfl)) | exact (.l rfl (look_own 2 rfl rfl rfl rfl)) | exact (.l rfl (look_own 3 rfl rfl rfl rfl)) | exact (.l rfl (look_own 4 rfl rfl rfl rfl)) | exact (.l rfl (look_own 5 rfl rfl rfl rfl)) | exact (.l rfl (look_own 6 rfl rfl rfl rfl)) | exact (.l rfl (look_own 7 rfl rfl rfl rfl)) | exact (.l rfl (look_agg 0 rfl rfl rfl rfl)) | exact (.l rfl (look_agg 1 rfl rfl rfl rfl)) | exact (.l rfl (look_agg 2 rfl rfl rfl rfl)) | exact (.l rfl (look_agg 3 rfl rfl rfl rfl)) | exact (.l rfl (look_agg 4 rfl rfl rfl rfl)) | exact (.l rfl (look_agg 5 rfl rfl rfl rfl)) | exact (.l rfl (look_agg 6 rfl rfl rfl rfl)) | exact (.l rfl (look_agg 7 rfl rfl rfl rfl)) | exact (.l rfl (look_str 0 rfl rfl rfl rfl rfl rfl rfl)) | exact (.l rfl (look_str 1 rfl rfl rfl rfl rfl rfl rfl)) | exact (.l rfl (look_str 2 rfl rfl rfl rfl rfl rfl rfl)) | exact (.l rfl (look_str 3 rfl rfl rfl rfl rfl rfl rfl)))
      | refine ops_skip rfl rfl rfl ?_
      | (refine ops_step rfl rfl rfl ?_; first | (refine step_box rfl rfl rfl (fun _ => ?_)) | (refine step_alloc rfl rfl rfl rfl (fun _ => ?_)) | (refine step_buildSlice rfl rfl rfl rfl rfl (fun _ => ?_)) | (refine step_map rfl (fun _ => ?_)) | (refine step_store 0 rfl rfl rfl rfl rfl rfl rfl rfl rfl ?_) | (refine step_store 1 rfl rfl rfl rfl rfl rfl rfl rfl rfl ?_) | (refine step_store 2 rfl rfl rfl rfl rfl rfl rfl rfl rfl ?_) | (refine step_store 3 rfl rfl rfl rfl rfl rfl rfl rfl rfl ?_) | (refine step_store 4 rfl rfl rfl rfl rfl rfl rfl rfl rfl ?_) | (refine step_store 5 rfl rfl rfl rfl rfl rfl rfl rfl rfl ?_) | (refine step_store 6 rfl rfl rfl rfl rfl rfl rfl rfl rfl ?_) | (refine step_store 7 rfl rfl rfl rfl rfl rfl rfl rfl rfl ?_)))
  refine ops_step rfl rfl rfl (step_call_pure rfl rfl rfl (fun H hs => call_known rfl) ?_)
  repeat (first
      | refine exec_seq ?_
      | refine exec_region ?_
      | refine exec_block ?_
      | refine exec_skip ?_
      | refine exec_exit ?_
      | refine exec_ret ?_
      | refine exec_true rfl ?_
      | refine exec_false rfl ?_
      | refine ops_nil ?_
      | (apply ops_pl rfl rfl rfl ?_ rfl ?_; rotate_left; focus first | exact (.bld rfl rfl rfl rfl) | exact (.neSelf rfl rfl rfl rfl) | exact (.eqSelf rfl rfl rfl rfl) | exact (.wr64 rfl rfl (by omega) (by omega)) | exact (.wr8 rfl rfl (by omega) (by omega)) | exact (.num rfl rfl (and127_u8N (by omega))) | exact (.num rfl rfl (or128_u8N (by omega))) | exact (.num rfl rfl (and127_i64N (by omega))) | exact (.num rfl rfl (and1_i64N (by omega))) | exact (.p rfl rfl) | exact (.max2 rfl rfl rfl) | exact (.min2 rfl rfl rfl) | exact (.numL rfl (fun _ => rfl) (byte_wrap _)) | exact (.cv64 rfl (fun _ => rfl) (by omega) (by omega)) | exact (.cv8 rfl (fun _ => rfl) (by omega) (by omega)) | exact (.l rfl (fun _ _ => rfl)) | exact (.l rfl (look_own 0 rfl rfl rfl rfl)) | exact (.l rfl (look_own 1 rfl rfl rfl rfl)) | exact (.l rfl (look_own 2 rfl rfl rfl rfl)) | exact (.l rfl (look_own 3 rfl rfl rfl rfl)) | exact (.l rfl (look_own 4 rfl rfl rfl rfl)) | exact (.l rfl (look_own 5 rfl rfl rfl rfl)) | exact (.l rfl (look_own 6 rfl rfl rfl rfl)) | exact (.l rfl (look_own 7 rfl rfl rfl rfl)) | exact (.l rfl (look_agg 0 rfl rfl rfl rfl)) | exact (.l rfl (look_agg 1 rfl rfl rfl rfl)) | exact (.l rfl (look_agg 2 rfl rfl rfl rfl)) | exact (.l rfl (look_agg 3 rfl rfl rfl rfl)) | exact (.l rfl (look_agg 4 rfl rfl rfl rfl)) | exact (.l rfl (look_agg 5 rfl rfl rfl rfl)) | exact (.l rfl (look_agg 6 rfl rfl rfl rfl)) | exact (.l rfl (look_agg 7 rfl rfl rfl rfl)) | exact (.l rfl (look_str 0 rfl rfl rfl rfl rfl rfl rfl)) | exact (.l rfl (look_str 1 rfl rfl rfl rfl rfl rfl rfl)) | exact (.l rfl (look_str 2 rfl rfl rfl rfl rfl rfl rfl)) | exact (.l rfl (look_str 3 rfl rfl rfl rfl rfl rfl rfl)))
      | refine ops_skip rfl rfl rfl ?_
      | (refine ops_step rfl rfl rfl ?_; first | (refine step_box rfl rfl rfl (fun _ => ?_)) | (refine step_alloc rfl rfl rfl rfl (fun _ => ?_)) | (refine step_buildSlice rfl rfl rfl rfl rfl (fun _ => ?_)) | (refine step_map rfl (fun _ => ?_)) | (refine step_store 0 rfl rfl rfl rfl rfl rfl rfl rfl rfl ?_) | (refine step_store 1 rfl rfl rfl rfl rfl rfl rfl rfl rfl ?_) | (refine step_store 2 rfl rfl rfl rfl rfl rfl rfl rfl rfl ?_) | (refine step_store 3 rfl rfl rfl rfl rfl rfl rfl rfl rfl ?_) | (refine step_store 4 rfl rfl rfl rfl rfl rfl rfl rfl rfl ?_) | (refine step_store 5 rfl rfl rfl rfl rfl rfl rfl rfl rfl ?_) | (refine step_store 6 rfl rfl rfl rfl rfl rfl rfl rfl rfl ?_) | (refine step_store 7 rfl rfl rfl rfl rfl rfl rfl rfl rfl ?_)))
  cases hA : decide ((ll : Int) > 20)
  rotate_left
  · repeat (first
        | refine exec_seq ?_
        | refine exec_region ?_
        | refine exec_block ?_
        | refine exec_skip ?_
        | refine exec_exit ?_
        | refine exec_ret ?_
        | refine exec_true rfl ?_
        | refine exec_false rfl ?_
        | refine ops_nil ?_
        | (apply ops_pl rfl rfl rfl ?_ rfl ?_; rotate_left; focus first | exact (.bld rfl rfl rfl rfl) | exact (.neSelf rfl rfl rfl rfl) | exact (.eqSelf rfl rfl rfl rfl) | exact (.wr64 rfl rfl (by omega) (by omega)) | exact (.wr8 rfl rfl (by omega) (by omega)) | exact (.num rfl rfl (and127_u8N (by omega))) | exact (.num rfl rfl (or128_u8N (by omega))) | exact (.num rfl rfl (and127_i64N (by omega))) | exact (.num rfl rfl (and1_i64N (by omega))) | exact (.p rfl rfl) | exact (.max2 rfl rfl rfl) | exact (.min2 rfl rfl rfl) | exact (.numL rfl (fun _ => rfl) (byte_wrap _)) | exact (.cv64 rfl (fun _ => rfl) (by omega) (by omega)) | exact (.cv8 rfl (fun _ => rfl) (by omega) (by omega)) | exact (.l rfl (fun _ _ => rfl)) | exact (.l rfl (look_own 0 rfl rfl rfl rfl)) | exact (.l rfl (look_own 1 rfl rfl rfl rfl)) | exact (.l rfl (look_own 2 rfl rfl rfl rfl)) | exact (.l rfl (look_own 3 rfl rfl rfl rfl)) | exact (.l rfl (look_own 4 rfl rfl rfl rfl)) | exact (.l rfl (look_own 5 rfl rfl rfl rfl)) | exact (.l rfl (look_own 6 rfl rfl rfl rfl)) | exact (.l rfl (look_own 7 rfl rfl rfl rfl)) | exact (.l rfl (look_agg 0 rfl rfl rfl rfl)) | exact (.l rfl (look_agg 1 rfl rfl rfl rfl)) | exact (.l rfl (look_agg 2 rfl rfl rfl rfl)) | exact (.l rfl (look_agg 3 rfl rfl rfl rfl)) | exact (.l rfl (look_agg 4 rfl rfl rfl rfl)) | exact (.l rfl (look_agg 5 rfl rfl rfl rfl)) | exact (.l rfl (look_agg 6 rfl rfl rfl rfl)) | exact (.l rfl (look_agg 7 rfl rfl rfl rfl)) | exact (.l rfl (look_str 0 rfl rfl rfl rfl rfl rfl rfl)) | exact (.l rfl (look_str 1 rfl rfl rfl rfl rfl rfl rfl)) | exact (.l rfl (look_str 2 rfl rfl rfl rfl rfl rfl rfl)) | exact (.l rfl (look_str 3 rfl rfl rfl rfl rfl rfl rfl)))
        | refine ops_skip rfl rfl rfl ?_
        | (refine ops_step rfl rfl rfl ?_; first | (refine step_box rfl rfl rfl (fun _ => ?_)) | (refine step_alloc rfl rfl rfl rfl (fun _ => ?_)) | (refine step_buildSlice rfl rfl rfl rfl rfl (fun _ => ?_)) | (refine step_map rfl (fun _ => ?_)) | (refine step_store 0 rfl rfl rfl rfl rfl rfl rfl rfl rfl ?_) | (refine step_store 1 rfl rfl rfl rfl rfl rfl rfl rfl rfl ?_) | (refine step_store 2 rfl rfl rfl rfl rfl rfl rfl rfl rfl ?_) | (refine step_store 3 rfl rfl rfl rfl rfl rfl rfl rfl rfl ?_) | (refine step_store 4 rfl rfl rfl rfl rfl rfl rfl rfl rfl ?_) | (refine step_store 5 rfl rfl rfl rfl rfl rfl rfl rfl rfl ?_) | (refine step_store 6 rfl rfl rfl rfl rfl rfl rfl rfl rfl ?_) | (refine step_store 7 rfl rfl rfl rfl rfl rfl rfl rfl rfl ?_)))
    exact ⟨trivial, _, rfl, rfl⟩
  repeat (first
      | refine exec_seq ?_
      | refine exec_region ?_
      | refine exec_block ?_
      | refine exec_skip ?_
      | refine exec_exit ?_
      | refine exec_ret ?_
      | refine exec_true rfl ?_
      | refine exec_false rfl ?_
      | refine ops_nil ?_
      | (apply ops_pl rfl rfl rfl ?_ rfl ?_; rotate_left; focus first | exact (.bld rfl rfl rfl rfl) | exact (.neSelf rfl rfl rfl rfl) | exact (.eqSelf rfl rfl rfl rfl) | exact (.wr64 rfl rfl (by omega) (by omega)) | exact (.wr8 rfl rfl (by omega) (by omega)) | exact (.num rfl rfl (and127_u8N (by omega))) | exact (.num rfl rfl (or128_u8N (by omega))) | exact (.num rfl rfl (and127_i64N (by omega))) | exact (.num rfl rfl (and1_i64N (by omega))) | exact (.p rfl rfl) | exact (.max2 rfl rfl rfl) | exact (.min2 rfl rfl rfl) | exact (.numL rfl (fun _ => rfl) (byte_wrap _)) | exact (.cv64 rfl (fun _ => rfl) (by omega) (by omega)) | exact (.cv8 rfl (fun _ => rfl) (by omega) (by omega)) | exact (.l rfl (fun _ _ => rfl)) | exact (.l rfl (look_own 0 rfl rfl rfl rfl)) | exact (.l rfl (look_own 1 rfl rfl rfl rfl)) | exact (.l rfl (look_own 2 rfl rfl rfl rfl)) | exact (.l rfl (look_own 3 rfl rfl rfl rfl)) | exact (.l rfl (look_own 4 rfl rfl rfl rfl)) | exact (.l rfl (look_own 5 rfl rfl rfl rfl)) | exact (.l rfl (look_own 6 rfl rfl rfl rfl)) | exact (.l rfl (look_own 7 rfl rfl rfl rfl)) | exact (.l rfl (look_agg 0 rfl rfl rfl rfl)) | exact (.l rfl (look_agg 1 rfl rfl rfl rfl)) | exact (.l rfl (look_agg 2 rfl rfl rfl rfl)) | exact (.l rfl (look_agg 3 rfl rfl rfl rfl)) | exact (.l rfl (look_agg 4 rfl rfl rfl rfl)) | exact (.l rfl (look_agg 5 rfl rfl rfl rfl)) | exact (.l rfl (look_agg 6 rfl rfl rfl rfl)) | exact (.l rfl (look_agg 7 rfl rfl rfl rfl)) | exact (.l rfl (look_str 0 rfl rfl rfl rfl rfl rfl rfl)) | exact (.l rfl (look_str 1 rfl rfl rfl rfl rfl rfl rfl)) | exact (.l rfl (look_str 2 rfl rfl rfl rfl rfl rfl rfl)) | exact (.l rfl (look_str 3 rfl rfl rfl rfl rfl rfl rfl)))
      | refine ops_skip rfl rfl rfl ?_
      | (refine ops_step rfl rfl rfl ?_; first | (refine step_box rfl rfl rfl (fun _ => ?_)) | (refine step_alloc rfl rfl rfl rfl (fun _ => ?_)) | (refine step_buildSlice rfl rfl rfl rfl rfl (fun _ => ?_)) | (refine step_map rfl (fun _ => ?_)) | (refine step_store 0 rfl rfl rfl rfl rfl rfl rfl rfl rfl ?_) | (refine step_store 1 rfl rfl rfl rfl rfl rfl rfl rfl rfl ?_) | (refine step_store 2 rfl rfl rfl rfl rfl rfl rfl rfl rfl ?_) | (refine step_store 3 rfl rfl rfl rfl rfl rfl rfl rfl rfl ?_) | (refine step_store 4 rfl rfl rfl rfl rfl rfl rfl rfl rfl ?_) | (refine step_store 5 rfl rfl rfl rfl rfl rfl rfl rfl rfl ?_) | (refine step_store 6 rfl rfl rfl rfl rfl rfl rfl rfl rfl ?_) | (refine step_store 7 rfl rfl rfl rfl rfl rfl rfl rfl rfl ?_)))
  cases hB : decide ((more.length : Int) > 60)
  rotate_left
  · repeat (first
        | refine exec_seq ?_
        | refine exec_region ?_
        | refine exec_block ?_
        | refine exec_skip ?_
        | refine exec_exit ?_
        | refine exec_ret ?_
        | refine exec_true rfl ?_
        | refine exec_false rfl ?_
        | refine ops_nil ?_
        | (apply ops_pl rfl rfl rfl ?_ rfl ?_; rotate_left; focus first | exact (.bld rfl rfl rfl rfl) | exact (.neSelf rfl rfl rfl rfl) | exact (.eqSelf rfl rfl rfl rfl) | exact (.wr64 rfl rfl (by omega) (by omega)) | exact (.wr8 rfl rfl (by omega) (by omega)) | exact (.num rfl rfl (and127_u8N (by omega))) | exact (.num rfl rfl (or128_u8N (by omega))) | exact (.num rfl rfl (and127_i64N (by omega))) | exact (.num rfl rfl (and1_i64N (by omega))) | exact (.p rfl rfl) | exact (.max2 rfl rfl rfl) | exact (.min2 rfl rfl rfl) | exact (.numL rfl (fun _ => rfl) (byte_wrap _)) | exact (.cv64 rfl (fun _ => rfl) (by omega) (by omega)) | exact (.cv8 rfl (fun _ => rfl) (by omega) (by omega)) | exact (.l rfl (fun _ _ => rfl)) | exact (.l rfl (look_own 0 rfl rfl rfl rfl)) | exact (.l rfl (look_own 1 rfl rfl rfl rfl)) | exact (.l rfl (look_own 2 rfl rfl rfl rfl)) | exact (.l rfl (look_own 3 rfl rfl rfl rfl)) | exact (.l rfl (look_own 4 rfl rfl rfl rfl)) | exact (.l rfl (look_own 5 rfl rfl rfl rfl)) | exact (.l rfl (look_own 6 rfl rfl rfl rfl)) | exact (.l rfl (look_own 7 rfl rfl rfl rfl)) | exact (.l rfl (look_agg 0 rfl rfl rfl rfl)) | exact (.l rfl (look_agg 1 rfl rfl rfl rfl)) | exact (.l rfl (look_agg 2 rfl rfl rfl rfl)) | exact (.l rfl (look_agg 3 rfl rfl rfl rfl)) | exact (.l rfl (look_agg 4 rfl rfl rfl rfl)) | exact (.l rfl (look_agg 5 rfl rfl rfl rfl)) | exact (.l rfl (look_agg 6 rfl rfl rfl rfl)) | exact (.l rfl (look_agg 7 rfl rfl rfl rfl)) | exact (.l rfl (look_str 0 rfl rfl rfl rfl rfl rfl rfl)) | exact (.l rfl (look_str 1 rfl rfl rfl rfl rfl rfl rfl)) | exact (.l rfl (look_str 2 rfl rfl rfl rfl rfl rfl rfl)) | exact (.l rfl (look_str 3 rfl rfl rfl rfl rfl rfl rfl)))
        | refine ops_skip rfl rfl rfl ?_
        | (refine ops_step rfl rfl rfl ?_; first | (refine step_box rfl rfl rfl (fun _ => ?_)) | (refine step_alloc rfl rfl rfl rfl (fun _ => ?_)) | (refine step_buildSlice rfl rfl rfl rfl rfl (fun _ => ?_)) | (refine step_map rfl (fun _ => ?_)) | (refine step_store 0 rfl rfl rfl rfl rfl rfl rfl rfl rfl ?_) | (refine step_store 1 rfl rfl rfl rfl rfl rfl rfl rfl rfl ?_) | (refine step_store 2 rfl rfl rfl rfl rfl rfl rfl rfl rfl ?_) | (refine step_store 3 rfl rfl rfl rfl rfl rfl rfl rfl rfl ?_) | (refine step_store 4 rfl rfl rfl rfl rfl rfl rfl rfl rfl ?_) | (refine step_store 5 rfl rfl rfl rfl rfl rfl rfl rfl rfl ?_) | (refine step_store 6 rfl rfl rfl rfl rfl rfl rfl rfl rfl ?_) | (refine step_store 7 rfl rfl rfl rfl rfl rfl rfl rfl rfl ?_)))
    exact ⟨trivial, _, rfl, rfl⟩
  have hll2 : ll ≤ 20 := by simp at hA; omega
  have hmore : more.length ≤ 60 := by simp at hB; omega
  repeat (first
      | refine exec_seq ?_
      | refine exec_region ?_
      | refine exec_block ?_
      | refine exec_skip ?_
      | refine exec_exit ?_
      | refine exec_ret ?_
      | refine exec_true rfl ?_
      | refine exec_false rfl ?_
      | refine ops_nil ?_
      | (apply ops_pl rfl rfl rfl ?_ rfl ?_; rotate_left; focus first | exact (.bld rfl rfl rfl rfl) | exact (.neSelf rfl rfl rfl rfl) | exact (.eqSelf rfl rfl rfl rfl) | exact (.wr64 rfl rfl (by omega) (by omega)) | exact (.wr8 rfl rfl (by omega) (by omega)) | exact (.num rfl rfl (and127_u8N (by omega))) | exact (.num rfl rfl (or128_u8N (by omega))) | exact (.num rfl rfl (and127_i64N (by omega))) | exact (.num rfl rfl (and1_i64N (by omega))) | exact (.p rfl rfl) | exact (.max2 rfl rfl rfl) | exact (.min2 rfl rfl rfl) | exact (.numL rfl (fun _ => rfl) (byte_wrap _)) | exact (.cv64 rfl (fun _ => rfl) (by omega) (by omega)) | exact (.cv8 rfl (fun _ => rfl) (by omega) (by omega)) | exact (.l rfl (fun _ _ => rfl)) | exact (.l rfl (look_own 0 rfl rfl rfl rfl)) | exact (.l rfl (look_own 1 rfl rfl rfl rfl)) | exact (.l rfl (look_own 2 rfl rfl rfl rfl)) | exact (.l rfl (look_own 3 rfl rfl rfl rfl)) | exact (.l rfl (look_own 4 rfl rfl rfl rfl)) | exact (.l rfl (look_own 5 rfl rfl rfl rfl)) | exact (.l rfl (look_own 6 rfl rfl rfl rfl)) | exact (.l rfl (look_own 7 rfl rfl rfl rfl)) | exact (.l rfl (look_agg 0 rfl rfl rfl rfl)) | exact (.l rfl (look_agg 1 rfl rfl rfl rfl)) | exact (.l rfl (look_agg 2 rfl rfl rfl rfl)) | exact (.l rfl (look_agg 3 rfl rfl rfl rfl)) | exact (.l rfl (look_agg 4 rfl rfl rfl rfl)) | exact (.l rfl (look_agg 5 rfl rfl rfl rfl)) | exact (.l rfl (look_agg 6 rfl rfl rfl rfl)) | exact (.l rfl (look_agg 7 rfl rfl rfl rfl)) | exact (.l rfl (look_str 0 rfl rfl rfl rfl rfl rfl rfl)) | exact (.l rfl (look_str 1 rfl rfl rfl rfl rfl rfl rfl)) | exact (.l rfl (look_str 2 rfl rfl rfl rfl rfl rfl rfl)) | exact (.l rfl (look_str 3 rfl rfl rfl rfl rfl rfl rfl)))
      | refine ops_skip rfl rfl rfl ?_
      | (refine ops_step rfl rfl rfl ?_; first | (refine step_box rfl rfl rfl (fun _ => ?_)) | (refine step_alloc rfl rfl rfl rfl (fun _ => ?_)) | (refine step_buildSlice rfl rfl rfl rfl rfl (fun _ => ?_)) | (refine step_map rfl (fun _ => ?_)) | (refine step_store 0 rfl rfl rfl rfl rfl rfl rfl rfl rfl ?_) | (refine step_store 1 rfl rfl rfl rfl rfl rfl rfl rfl rfl ?_) | (refine step_store 2 rfl rfl rfl rfl rfl rfl rfl rfl rfl ?_) | (refine step_store 3 rfl rfl rfl rfl rfl rfl rfl rfl rfl ?_) | (refine step_store 4 rfl rfl rfl rfl rfl rfl rfl rfl rfl ?_) | (refine step_store 5 rfl rfl rfl rfl rfl rfl rfl rfl rfl ?_) | (refine step_store 6 rfl rfl rfl rfl rfl rfl rfl rfl rfl ?_) | (refine step_store 7 rfl rfl rfl rfl rfl rfl rfl rfl rfl ?_)))
  refine ops_step rfl rfl rfl (step_call_fp [] [] rfl rfl rfl (List.Perm.refl _) (fun H hs hst => poolNew_ok hst) (fun v F' h => ?_))
  obtain ⟨pb, rfl, hP⟩ := h
  repeat (first
      | refine exec_seq ?_
      | refine exec_region ?_
      | refine exec_block ?_
      | refine exec_skip ?_
      | refine exec_exit ?_
      | refine exec_ret ?_
      | refine exec_true rfl ?_
      | refine exec_false rfl ?_
      | refine ops_nil ?_
      | (apply ops_pl rfl rfl rfl ?_ rfl ?_; rotate_left; focus first | exact (.bld rfl rfl rfl rfl) | exact (.neSelf rfl rfl rfl rfl) | exact (.eqSelf rfl rfl rfl rfl) | exact (.wr64 rfl rfl (by omega) (by omega)) | exact (.wr8 rfl rfl (by omega) (by omega)) | exact (.num rfl rfl (and127_u8N (by omega))) | exact (.num rfl rfl (or128_u8N (by omega))) | exact (.num rfl rfl (and127_i64N (by omega))) | exact (.num rfl rfl (and1_i64N (by omega))) | exact (.p rfl rfl) | exact (.max2 rfl rfl rfl) | exact (.min2 rfl rfl rfl) | exact (.numL rfl (fun _ => rfl) (byte_wrap _)) | exact (.cv64 rfl (fun _ => rfl) (by omega) (by omega)) | exact (.cv8 rfl (fun _ => rfl) (by omega) (by omega)) | exact (.l rfl (fun _ _ => rfl)) | exact (.l rfl (look_own 0 rfl rfl rfl rfl)) | exact (.l rfl (look_own 1 rfl rfl rfl rfl)) | exact (.l rfl (look_own 2 rfl rfl rfl rfl)) | exact (.l rfl (look_own 3 rfl rfl rfl rfl)) | exact (.l rfl (look_own 4 rfl rfl rfl rfl)) | exact (.l rfl (look_own 5 rfl rfl rfl rfl)) | exact (.l rfl (look_own 6 rfl rfl rfl rfl)) | exact (.l rfl (look_own 7 rfl rfl rfl rfl)) | exact (.l rfl (look_agg 0 rfl rfl rfl rfl)) | exact (.l rfl (look_agg 1 rfl rfl rfl rfl)) | exact (.l rfl (look_agg 2 rfl rfl rfl rfl)) | exact (.l rfl (look_agg 3 rfl rfl rfl rfl)) | exact (.l rfl (look_agg 4 rfl rfl rfl rfl)) | exact (.l rfl (look_agg 5 rfl rfl rfl rfl)) | exact (.l rfl (look_agg 6 rfl rfl rfl rfl)) | exact (.l rfl (look_agg 7 rfl rfl rfl rfl)) | exact (.l rfl (look_str 0 rfl rfl rfl rfl rfl rfl rfl)) | exact (.l rfl (look_str 1 rfl rfl rfl rfl rfl rfl rfl)) | exact (.l rfl (look_str 2 rfl rfl rfl rfl rfl rfl rfl)) | exact (.l rfl (look_str 3 rfl rfl rfl rfl rfl rfl rfl)))
      | refine ops_skip rfl rfl rfl ?_
      | (refine ops_step rfl rfl rfl ?_; first | (refine step_box rfl rfl rfl (fun _ => ?_)) | (refine step_alloc rfl rfl rfl rfl (fun _ => ?_)) | (refine step_buildSlice rfl rfl rfl rfl rfl (fun _ => ?_)) | (refine step_map rfl (fun _ => ?_)) | (refine step_store 0 rfl rfl rfl rfl rfl rfl rfl rfl rfl ?_) | (refine step_store 1 rfl rfl rfl rfl rfl rfl rfl rfl rfl ?_) | (refine step_store 2 rfl rfl rfl rfl rfl rfl rfl rfl rfl ?_) | (refine step_store 3 rfl rfl rfl rfl rfl rfl rfl rfl rfl ?_) | (refine step_store 4 rfl rfl rfl rfl rfl rfl rfl rfl rfl ?_) | (refine step_store 5 rfl rfl rfl rfl rfl rfl rfl rfl rfl ?_) | (refine step_store 6 rfl rfl rfl rfl rfl rfl rfl rfl rfl ?_) | (refine step_store 7 rfl rfl rfl rfl rfl rfl rfl rfl rfl ?_)))
  refine ExecS.weak (E' := [(0, .slice al ll cl), (1, str more), (5, .pointer (some ⟨pb, 0, some 0⟩)), (6, .int .i64 ((0 : Nat) : Int))]) (L' := F') ⟨rfl, rfl, rfl, rfl, trivial⟩ (by simp) ?_
  refine exec_loop (fun q E L => ∃ (i : Nat), i + q = ll ∧ (∀ x ∈ l.take i, x.length ≤ 60) ∧ PoolF pb (putL (l.take i)) L ∧ E = [(0, .slice al ll cl), (1, str more), (5, .pointer (some ⟨pb, 0, some 0⟩)), (6, .int .i64 (i : Int))]) ?_ ll _ _ ⟨0, by omega, by simp, hP, rfl⟩
  clear hP F'
  rintro q E F ⟨i, hiq, h60, hP, rfl⟩
  have hplen : (putL (l.take i)).length ≤ 20 := by
    have := foldT_len (l.take i) []
    rw [List.length_take] at this
    simp only [putL]
    simp only [List.length_nil] at this
    omega
  repeat (first
      | refine exec_seq ?_
      | refine exec_region ?_
      | refine exec_block ?_
      | refine exec_skip ?_
      | refine exec_exit ?_
      | refine exec_ret ?_
      | refine exec_true rfl ?_
      | refine exec_false rfl ?_
      | refine ops_nil ?_
      | (apply ops_pl rfl rfl rfl ?_ rfl ?_; rotate_left; focus first | exact (.bld rfl rfl rfl rfl) | exact (.neSelf rfl rfl rfl rfl) | exact (.eqSelf rfl rfl rfl rfl) | exact (.wr64 rfl rfl (by omega) (by omega)) | exact (.wr8 rfl rfl (by omega) (by omega)) | exact (.num rfl rfl (and127_u8N (by omega))) | exact (.num rfl rfl (or128_u8N (by omega))) | exact (.num rfl rfl (and127_i64N (by omega))) | exact (.num rfl rfl (and1_i64N (by omega))) | exact (.p rfl rfl) | exact (.max2 rfl rfl rfl) | exact (.min2 rfl rfl rfl) | exact (.numL rfl (fun _ => rfl) (byte_wrap _)) | exact (.cv64 rfl (fun _ => rfl) (by omega) (by omega)) | exact (.cv8 rfl (fun _ => rfl) (by omega) (by omega)) | exact (.l rfl (fun _ _ => rfl)) | exact (.l rfl (look_own 0 rfl rfl rfl rfl)) | exact (.l rfl (look_own 1 rfl rfl rfl rfl)) | exact (.l rfl (look_own 2 rfl rfl rfl rfl)) | exact (.l rfl (look_own 3 rfl rfl rfl rfl)) | exact (.l rfl (look_own 4 rfl rfl rfl rfl)) | exact (.l rfl (look_own 5 rfl rfl rfl rfl)) | exact (.l rfl (look_own 6 rfl rfl rfl rfl)) | exact (.l rfl (look_own 7 rfl rfl rfl rfl)) | exact (.l rfl (look_agg 0 rfl rfl rfl rfl)) | exact (.l rfl (look_agg 1 rfl rfl rfl rfl)) | exact (.l rfl (look_agg 2 rfl rfl rfl rfl)) | exact (.l rfl (look_agg 3 rfl rfl rfl rfl)) | exact (.l rfl (look_agg 4 rfl rfl rfl rfl)) | exact (.l rfl (look_agg 5 rfl rfl rfl rfl)) | exact (.l rfl (look_agg 6 rfl rfl rfl rfl)) | exact (.l rfl (look_agg 7 rfl rfl rfl rfl)) | exact (.l rfl (look_str 0 rfl rfl rfl rfl rfl rfl rfl)) | exact (.l rfl (look_str 1 rfl rfl rfl rfl rfl rfl rfl)) | exact (.l rfl (look_str 2 rfl rfl rfl rfl rfl rfl rfl)) | exact (.l rfl (look_str 3 rfl rfl rfl rfl rfl rfl rfl)))
      | refine ops_skip rfl rfl rfl ?_
      | (refine ops_step rfl rfl rfl ?_; first | (refine step_box rfl rfl rfl (fun _ => ?_)) | (refine step_alloc rfl rfl rfl rfl (fun _ => ?_)) | (refine step_buildSlice rfl rfl rfl rfl rfl (fun _ => ?_)) | (refine step_map rfl (fun _ => ?_)) | (refine step_store 0 rfl rfl rfl rfl rfl rfl rfl rfl rfl ?_) | (refine step_store 1 rfl rfl rfl rfl rfl rfl rfl rfl rfl ?_) | (refine step_store 2 rfl rfl rfl rfl rfl rfl rfl rfl rfl ?_) | (refine step_store 3 rfl rfl rfl rfl rfl rfl rfl rfl rfl ?_) | (refine step_store 4 rfl rfl rfl rfl rfl rfl rfl rfl rfl ?_) | (refine step_store 5 rfl rfl rfl rfl rfl rfl rfl rfl rfl ?_) | (refine step_store 6 rfl rfl rfl rfl rfl rfl rfl rfl rfl ?_) | (refine step_store 7 rfl rfl rfl rfl rfl rfl rfl rfl rfl ?_)))
  refine exec_cond rfl (fun hlt => ?_) (fun hge => ?_)
  · have hi : i < ll := by simp at hlt; omega
    have hil : i < l.length := by omega
    obtain ⟨z, hz, hget⟩ : ∃ z, l[i] = z ∧ (l.map str)[i]? = some (str z) := ⟨l[i], rfl, by rw [List.getElem?_map, List.getElem?_eq_getElem hil]; rfl⟩
    have htake : l.take (i + 1) = l.take i ++ [z] := by rw [List.take_succ_eq_append_getElem hil, hz]
    repeat (first
        | refine exec_seq ?_
        | refine exec_region ?_
        | refine exec_block ?_
        | refine exec_skip ?_
        | refine exec_exit ?_
        | refine exec_ret ?_
        | refine exec_true rfl ?_
        | refine exec_false rfl ?_
        | refine ops_nil ?_
        | (apply ops_pl rfl rfl rfl ?_ rfl ?_; rotate_left; focus first | exact (.bld rfl rfl rfl rfl) | exact (.neSelf rfl rfl rfl rfl) | exact (.eqSelf rfl rfl rfl rfl) | exact (.wr64 rfl rfl (by omega) (by omega)) | exact (.wr8 rfl rfl (by omega) (by omega)) | exact (.num rfl rfl (and127_u8N (by omega))) | exact (.num rfl rfl (or128_u8N (by omega))) | exact (.num rfl rfl (and127_i64N (by omega))) | exact (.num rfl rfl (and1_i64N (by omega))) | exact (.p rfl rfl) | exact (.max2 rfl rfl rfl) | exact (.min2 rfl rfl rfl) | exact (.numL rfl (fun _ => rfl) (byte_wrap _)) | exact (.cv64 rfl (fun _ => rfl) (by omega) (by omega)) | exact (.cv8 rfl (fun _ => rfl) (by omega) (by omega)) | exact (.l rfl (fun _ _ => rfl)) | exact (.l rfl (look_own 0 rfl rfl rfl rfl)) | exact (.l rfl (look_own 1 rfl rfl rfl rfl)) | exact (.l rfl (look_own 2 rfl rfl rfl rfl)) | exact (.l rfl (look_own 3 rfl rfl rfl rfl)) | exact (.l rfl (look_own 4 rfl rfl rfl rfl)) | exact (.l rfl (look_own 5 rfl rfl rfl rfl)) | exact (.l rfl (look_own 6 rfl rfl rfl rfl)) | exact (.l rfl (look_own 7 rfl rfl rfl rfl)) | exact (.l rfl (look_agg 0 rfl rfl rfl rfl)) | exact (.l rfl (look_agg 1 rfl rfl rfl rfl)) | exact (.l rfl (look_agg 2 rfl rfl rfl rfl)) | exact (.l rfl (look_agg 3 rfl rfl rfl rfl)) | exact (.l rfl (look_agg 4 rfl rfl rfl rfl)) | exact (.l rfl (look_agg 5 rfl rfl rfl rfl)) | exact (.l rfl (look_agg 6 rfl rfl rfl rfl)) | exact (.l rfl (look_agg 7 rfl rfl rfl rfl)) | exact (.l rfl (look_str 0 rfl rfl rfl rfl rfl rfl rfl)) | exact (.l rfl (look_str 1 rfl rfl rfl rfl rfl rfl rfl)) | exact (.l rfl (look_str 2 rfl rfl rfl rfl rfl rfl rfl)) | exact (.l rfl (look_str 3 rfl rfl rfl rfl rfl rfl rfl)))
        | refine ops_skip rfl rfl rfl ?_
        | (refine ops_step rfl rfl rfl ?_; first | (refine step_box rfl rfl rfl (fun _ => ?_)) | (refine step_alloc rfl rfl rfl rfl (fun _ => ?_)) | (refine step_buildSlice rfl rfl rfl rfl rfl (fun _ => ?_)) | (refine step_map rfl (fun _ => ?_)) | (refine step_store 0 rfl rfl rfl rfl rfl rfl rfl rfl rfl ?_) | (refine step_store 1 rfl rfl rfl rfl rfl rfl rfl rfl rfl ?_) | (refine step_store 2 rfl rfl rfl rfl rfl rfl rfl rfl rfl ?_) | (refine step_store 3 rfl rfl rfl rfl rfl rfl rfl rfl rfl ?_) | (refine step_store 4 rfl rfl rfl rfl rfl rfl rfl rfl rfl ?_) | (refine step_store 5 rfl rfl rfl rfl rfl rfl rfl rfl rfl ?_) | (refine step_store 6 rfl rfl rfl rfl rfl rfl rfl rfl rfl ?_) | (refine step_store 7 rfl rfl rfl rfl rfl rfl rfl rfl rfl ?_)))
    first | refine ops_pl rfl rfl rfl (.p rfl (opP_idx rfl rfl (hl Heap.empty) rfl rfl (by omega) (by omega))) rfl ?_ | refine draw_pl rfl rfl rfl rfl (.p rfl (opP_idx rfl rfl (hl Heap.empty) rfl rfl (by omega) (by omega))) rfl rfl ?_
    first | refine ops_pl rfl rfl rfl (.l rfl (fun H hs => opL_load rfl ((hl H).ld rfl hget))) rfl ?_ | refine draw_pl rfl rfl rfl rfl (.l rfl (fun H hs => opL_load rfl ((hl H).ld rfl hget))) rfl rfl ?_
    repeat (first
        | refine exec_seq ?_
        | refine exec_region ?_
        | refine exec_block ?_
        | refine exec_skip ?_
        | refine exec_exit ?_
        | refine exec_ret ?_
        | refine exec_true rfl ?_
        | refine exec_false rfl ?_
        | refine ops_nil ?_
        | (apply ops_pl rfl rfl rfl ?_ rfl ?_; rotate_left; focus first | exact (.bld rfl rfl rfl rfl) | exact (.neSelf rfl rfl rfl rfl) | exact (.eqSelf rfl rfl rfl rfl) | exact (.wr64 rfl rfl (by omega) (by omega)) | exact (.wr8 rfl rfl (by omega) (by omega)) | exact (.num rfl rfl (and127_u8N (by omega))) | exact (.num rfl rfl (or128_u8N (by omega))) | exact (.num rfl rfl (and127_i64N (by omega))) | exact (.num rfl rfl (and1_i64N (by omega))) | exact (.p rfl rfl) | exact (.max2 rfl rfl rfl) | exact (.min2 rfl rfl rfl) | exact (.numL rfl (fun _ => rfl) (byte_wrap _)) | exact (.cv64 rfl (fun _ => rfl) (by omega) (by omega)) | exact (.cv8 rfl (fun _ => rfl) (by omega) (by omega)) | exact (.l rfl (fun _ _ => rfl)) | exact (.l rfl (look_own 0 rfl rfl rfl rfl)) | exact (.l rfl (look_own 1 rfl rfl rfl rfl)) | exact (.l rfl (look_own 2 rfl rfl rfl rfl)) | exact (.l rfl (look_own 3 rfl rfl rfl rfl)) | exact (.l rfl (look_own 4 rfl rfl rfl rfl)) | exact (.l rfl (look_own 5 rfl rfl rfl rfl)) | exact (.l rfl (look_own 6 rfl rfl rfl rfl)) | exact (.l rfl (look_own 7 rfl rfl rfl rfl)) | exact (.l rfl (look_agg 0 rfl rfl rfl rfl)) | exact (.l rfl (look_agg 1 rfl rfl rfl rfl)) | exact (.l rfl (look_agg 2 rfl rfl rfl rfl)) | exact (.l rfl (look_agg 3 rfl rfl rfl rfl)) | exact (.l rfl (look_agg 4 rfl rfl rfl rfl)) | exact (.l rfl (look_agg 5 rfl rfl rfl rfl)) | exact (.l rfl (look_agg 6 rfl rfl rfl rfl)) | exact (.l rfl (look_agg 7 rfl rfl rfl rfl)) | exact (.l rfl (look_str 0 rfl rfl rfl rfl rfl rfl rfl)) | exact (.l rfl (look_str 1 rfl rfl rfl rfl rfl rfl rfl)) | exact (.l rfl (look_str 2 rfl rfl rfl rfl rfl rfl rfl)) | exact (.l rfl (look_str 3 rfl rfl rfl rfl rfl rfl rfl)))
        | refine ops_skip rfl rfl rfl ?_
        | (refine ops_step rfl rfl rfl ?_; first | (refine step_box rfl rfl rfl (fun _ => ?_)) | (refine step_alloc rfl rfl rfl rfl (fun _ => ?_)) | (refine step_buildSlice rfl rfl rfl rfl rfl (fun _ => ?_)) | (refine step_map rfl (fun _ => ?_)) | (refine step_store 0 rfl rfl rfl rfl rfl rfl rfl rfl rfl ?_) | (refine step_store 1 rfl rfl rfl rfl rfl rfl rfl rfl rfl ?_) | (refine step_store 2 rfl rfl rfl rfl rfl rfl rfl rfl rfl ?_) | (refine step_store 3 rfl rfl rfl rfl rfl rfl rfl rfl rfl ?_) | (refine step_store 4 rfl rfl rfl rfl rfl rfl rfl rfl rfl ?_) | (refine step_store 5 rfl rfl rfl rfl rfl rfl rfl rfl rfl ?_) | (refine step_store 6 rfl rfl rfl rfl rfl rfl rfl rfl rfl ?_) | (refine step_store 7 rfl rfl rfl rfl rfl rfl rfl rfl rfl ?_)))
    refine exec_cond rfl (fun hgt => ?_) (fun hle => ?_)
    · repeat (first
          | refine exec_seq ?_
          | refine exec_region ?_
          | refine exec_block ?_
          | refine exec_skip ?_
          | refine exec_exit ?_
          | refine exec_ret ?_
          | refine exec_true rfl ?_
          | refine exec_false rfl ?_
          | refine ops_nil ?_
          | (apply ops_pl rfl rfl rfl ?_ rfl ?_; rotate_left; focus first | exact (.bld rfl rfl rfl rfl) | exact (.neSelf rfl rfl rfl rfl) | exact (.eqSelf rfl rfl rfl rfl) | exact (.wr64 rfl rfl (by omega) (by omega)) | exact (.wr8 rfl rfl (by omega) (by omega)) | exact (.num rfl rfl (and127_u8N (by omega))) | exact (.num rfl rfl (or128_u8N (by omega))) | exact (.num rfl rfl (and127_i64N (by omega))) | exact (.num rfl rfl (and1_i64N (by omega))) | exact (.p rfl rfl) | exact (.max2 rfl rfl rfl) | exact (.min2 rfl rfl rfl) | exact (.numL rfl (fun _ => rfl) (byte_wrap _)) | exact (.cv64 rfl (fun _ => rfl) (by omega) (by omega)) | exact (.cv8 rfl (fun _ => rfl) (by omega) (by omega)) | exact (.l rfl (fun _ _ => rfl)) | exact (.l rfl (look_own 0 rfl rfl rfl rfl)) | exact (.l rfl (look_own 1 rfl rfl rfl rfl)) | exact (.l rfl (look_own 2 rfl rfl rfl rfl)) | exact (.l rfl (look_own 3 rfl rfl rfl rfl)) | exact (.l rfl (look_own 4 rfl rfl rfl rfl)) | exact (.l rfl (look_own 5 rfl rfl rfl rfl)) | exact (.l rfl (look_own 6 rfl rfl rfl rfl)) | exact (.l rfl (look_own 7 rfl rfl rfl rfl)) | exact (.l rfl (look_agg 0 rfl rfl rfl rfl)) | exact (.l rfl (look_agg 1 rfl rfl rfl rfl)) | exact (.l rfl (look_agg 2 rfl rfl rfl rfl)) | exact (.l rfl (look_agg 3 rfl rfl rfl rfl)) | exact (.l rfl (look_agg 4 rfl rfl rfl rfl)) | exact (.l rfl (look_agg 5 rfl rfl rfl rfl)) | exact (.l rfl (look_agg 6 rfl rfl rfl rfl)) | exact (.l rfl (look_agg 7 rfl rfl rfl rfl)) | exact (.l rfl (look_str 0 rfl rfl rfl rfl rfl rfl rfl)) | exact (.l rfl (look_str 1 rfl rfl rfl rfl rfl rfl rfl)) | exact (.l rfl (look_str 2 rfl rfl rfl rfl rfl rfl rfl)) | exact (.l rfl (look_str 3 rfl rfl rfl rfl rfl rfl rfl)))
          | refine ops_skip rfl rfl rfl ?_
          | (refine ops_step rfl rfl rfl ?_; first | (refine step_box rfl rfl rfl (fun _ => ?_)) | (refine step_alloc rfl rfl rfl rfl (fun _ => ?_)) | (refine step_buildSlice rfl rfl rfl rfl rfl (fun _ => ?_)) | (refine step_map rfl (fun _ => ?_)) | (refine step_store 0 rfl rfl rfl rfl rfl rfl rfl rfl rfl ?_) | (refine step_store 1 rfl rfl rfl rfl rfl rfl rfl rfl rfl ?_) | (refine step_store 2 rfl rfl rfl rfl rfl rfl rfl rfl rfl ?_) | (refine step_store 3 rfl rfl rfl rfl rfl rfl rfl rfl rfl ?_) | (refine step_store 4 rfl rfl rfl rfl rfl rfl rfl rfl rfl ?_) | (refine step_store 5 rfl rfl rfl rfl rfl rfl rfl rfl rfl ?_) | (refine step_store 6 rfl rfl rfl rfl rfl rfl rfl rfl rfl ?_) | (refine step_store 7 rfl rfl rfl rfl rfl rfl rfl rfl rfl ?_)))
      exact ⟨trivial, _, rfl, rfl⟩
    have hz60 : z.length ≤ 60 := by simp at hle; omega
    repeat (first
        | refine exec_seq ?_
        | refine exec_region ?_
        | refine exec_block ?_
        | refine exec_skip ?_
        | refine exec_exit ?_
        | refine exec_ret ?_
        | refine exec_true rfl ?_
        | refine exec_false rfl ?_
        | refine ops_nil ?_
        | (apply ops_pl rfl rfl rfl ?_ rfl ?_; rotate_left; focus first | exact (.bld rfl rfl rfl rfl) | exact (.neSelf rfl rfl rfl rfl) | exact (.eqSelf rfl rfl rfl rfl) | exact (.wr64 rfl rfl (by omega) (by omega)) | exact (.wr8 rfl rfl (by omega) (by omega)) | exact (.num rfl rfl (and127_u8N (by omega))) | exact (.num rfl rfl (or128_u8N (by omega))) | exact (.num rfl rfl (and127_i64N (by omega))) | exact (.num rfl rfl (and1_i64N (by omega))) | exact (.p rfl rfl) | exact (.max2 rfl rfl rfl) | exact (.min2 rfl rfl rfl) | exact (.numL rfl (fun _ => rfl) (byte_wrap _)) | exact (.cv64 rfl (fun _ => rfl) (by omega) (by omega)) | exact (.cv8 rfl (fun _ => rfl) (by omega) (by omega)) | exact (.l rfl (fun _ _ => rfl)) | exact (.l rfl (look_own 0 rfl rfl rfl rfl)) | exact (.l rfl (look_own 1 rfl rfl rfl rfl)) | exact (.l rfl (look_own 2 rfl rfl rfl rfl)) | exact (.l rfl (look_own 3 rfl rfl rfl rfl)) | exact (.l rfl (look_own 4 rfl rfl rfl rfl)) | exact (.l rfl (look_own 5 rfl rfl rfl rfl)) | exact (.l rfl (look_own 6 rfl rfl rfl rfl)) | exact (.l rfl (look_own 7 rfl rfl rfl rfl)) | exact (.l rfl (look_agg 0 rfl rfl rfl rfl)) | exact (.l rfl (look_agg 1 rfl rfl rfl rfl)) | exact (.l rfl (look_agg 2 rfl rfl rfl rfl)) | exact (.l rfl (look_agg 3 rfl rfl rfl rfl)) | exact (.l rfl (look_agg 4 rfl rfl rfl rfl)) | exact (.l rfl (look_agg 5 rfl rfl rfl rfl)) | exact (.l rfl (look_agg 6 rfl rfl rfl rfl)) | exact (.l rfl (look_agg 7 rfl rfl rfl rfl)) | exact (.l rfl (look_str 0 rfl rfl rfl rfl rfl rfl rfl)) | exact (.l rfl (look_str 1 rfl rfl rfl rfl rfl rfl rfl)) | exact (.l rfl (look_str 2 rfl rfl rfl rfl rfl rfl rfl)) | exact (.l rfl (look_str 3 rfl rfl rfl rfl rfl rfl rfl)))
        | refine ops_skip rfl rfl rfl ?_
        | (refine ops_step rfl rfl rfl ?_; first | (refine step_box rfl rfl rfl (fun _ => ?_)) | (refine step_alloc rfl rfl rfl rfl (fun _ => ?_)) | (refine step_buildSlice rfl rfl rfl rfl rfl (fun _ => ?_)) | (refine step_map rfl (fun _ => ?_)) | (refine step_store 0 rfl rfl rfl rfl rfl rfl rfl rfl rfl ?_) | (refine step_store 1 rfl rfl rfl rfl rfl rfl rfl rfl rfl ?_) | (refine step_store 2 rfl rfl rfl rfl rfl rfl rfl rfl rfl ?_) | (refine step_store 3 rfl rfl rfl rfl rfl rfl rfl rfl rfl ?_) | (refine step_store 4 rfl rfl rfl rfl rfl rfl rfl rfl rfl ?_) | (refine step_store 5 rfl rfl rfl rfl rfl rfl rfl rfl rfl ?_) | (refine step_store 6 rfl rfl rfl rfl rfl rfl rfl rfl rfl ?_) | (refine step_store 7 rfl rfl rfl rfl rfl rfl rfl rfl rfl ?_)))
    first | refine ops_pl rfl rfl rfl (.p rfl (opP_idx rfl rfl (hl Heap.empty) rfl rfl (by omega) (by omega))) rfl ?_ | refine draw_pl rfl rfl rfl rfl (.p rfl (opP_idx rfl rfl (hl Heap.empty) rfl rfl (by omega) (by omega))) rfl rfl ?_
    first | refine ops_pl rfl rfl rfl (.l rfl (fun H hs => opL_load rfl ((hl H).ld rfl hget))) rfl ?_ | refine draw_pl rfl rfl rfl rfl (.l rfl (fun H hs => opL_load rfl ((hl H).ld rfl hget))) rfl rfl ?_
    repeat (first
        | refine exec_seq ?_
        | refine exec_region ?_
        | refine exec_block ?_
        | refine exec_skip ?_
        | refine exec_exit ?_
        | refine exec_ret ?_
        | refine exec_true rfl ?_
        | refine exec_false rfl ?_
        | refine ops_nil ?_
        | (apply ops_pl rfl rfl rfl ?_ rfl ?_; rotate_left; focus first | exact (.bld rfl rfl rfl rfl) | exact (.neSelf rfl rfl rfl rfl) | exact (.eqSelf rfl rfl rfl rfl) | exact (.wr64 rfl rfl (by omega) (by omega)) | exact (.wr8 rfl rfl (by omega) (by omega)) | exact (.num rfl rfl (and127_u8N (by omega))) | exact (.num rfl rfl (or128_u8N (by omega))) | exact (.num rfl rfl (and127_i64N (by omega))) | exact (.num rfl rfl (and1_i64N (by omega))) | exact (.p rfl rfl) | exact (.max2 rfl rfl rfl) | exact (.min2 rfl rfl rfl) | exact (.numL rfl (fun _ => rfl) (byte_wrap _)) | exact (.cv64 rfl (fun _ => rfl) (by omega) (by omega)) | exact (.cv8 rfl (fun _ => rfl) (by omega) (by omega)) | exact (.l rfl (fun _ _ => rfl)) | exact (.l rfl (look_own 0 rfl rfl rfl rfl)) | exact (.l rfl (look_own 1 rfl rfl rfl rfl)) | exact (.l rfl (look_own 2 rfl rfl rfl rfl)) | exact (.l rfl (look_own 3 rfl rfl rfl rfl)) | exact (.l rfl (look_own 4 rfl rfl rfl rfl)) | exact (.l rfl (look_own 5 rfl rfl rfl rfl)) | exact (.l rfl (look_own 6 rfl rfl rfl rfl)) | exact (.l rfl (look_own 7 rfl rfl rfl rfl)) | exact (.l rfl (look_agg 0 rfl rfl rfl rfl)) | exact (.l rfl (look_agg 1 rfl rfl rfl rfl)) | exact (.l rfl (look_agg 2 rfl rfl rfl rfl)) | exact (.l rfl (look_agg 3 rfl rfl rfl rfl)) | exact (.l rfl (look_agg 4 rfl rfl rfl rfl)) | exact (.l rfl (look_agg 5 rfl rfl rfl rfl)) | exact (.l rfl (look_agg 6 rfl rfl rfl rfl)) | exact (.l rfl (look_agg 7 rfl rfl rfl rfl)) | exact (.l rfl (look_str 0 rfl rfl rfl rfl rfl rfl rfl)) | exact (.l rfl (look_str 1 rfl rfl rfl rfl rfl rfl rfl)) | exact (.l rfl (look_str 2 rfl rfl rfl rfl rfl rfl rfl)) | exact (.l rfl (look_str 3 rfl rfl rfl rfl rfl rfl rfl)))
        | refine ops_skip rfl rfl rfl ?_
        | (refine ops_step rfl rfl rfl ?_; first | (refine step_box rfl rfl rfl (fun _ => ?_)) | (refine step_alloc rfl rfl rfl rfl (fun _ => ?_)) | (refine step_buildSlice rfl rfl rfl rfl rfl (fun _ => ?_)) | (refine step_map rfl (fun _ => ?_)) | (refine step_store 0 rfl rfl rfl rfl rfl rfl rfl rfl rfl ?_) | (refine step_store 1 rfl rfl rfl rfl rfl rfl rfl rfl rfl ?_) | (refine step_store 2 rfl rfl rfl rfl rfl rfl rfl rfl rfl ?_) | (refine step_store 3 rfl rfl rfl rfl rfl rfl rfl rfl rfl ?_) | (refine step_store 4 rfl rfl rfl rfl rfl rfl rfl rfl rfl ?_) | (refine step_store 5 rfl rfl rfl rfl rfl rfl rfl rfl rfl ?_) | (refine step_store 6 rfl rfl rfl rfl rfl rfl rfl rfl rfl ?_) | (refine step_store 7 rfl rfl rfl rfl rfl rfl rfl rfl rfl ?_)))
    refine ops_step rfl rfl rfl (step_call_fp F [] rfl rfl rfl (List.Perm.of_eq (List.append_nil _).symm) (fun H hs hst => poolPut_ok (s := z) hst hP (by omega)) (fun v F' h => ?_))
    obtain ⟨hP', hv⟩ := h
    repeat (first
        | refine exec_seq ?_
        | refine exec_region ?_
        | refine exec_block ?_
        | refine exec_skip ?_
        | refine exec_exit ?_
        | refine exec_ret ?_
        | refine exec_true rfl ?_
        | refine exec_false rfl ?_
        | refine ops_nil ?_
        | (apply ops_pl rfl rfl rfl ?_ rfl ?_; rotate_left; focus first | exact (.bld rfl rfl rfl rfl) | exact (.neSelf rfl rfl rfl rfl) | exact (.eqSelf rfl rfl rfl rfl) | exact (.wr64 rfl rfl (by omega) (by omega)) | exact (.wr8 rfl rfl (by omega) (by omega)) | exact (.num rfl rfl (and127_u8N (by omega))) | exact (.num rfl rfl (or128_u8N (by omega))) | exact (.num rfl rfl (and127_i64N (by omega))) | exact (.num rfl rfl (and1_i64N (by omega))) | exact (.p rfl rfl) | exact (.max2 rfl rfl rfl) | exact (.min2 rfl rfl rfl) | exact (.numL rfl (fun _ => rfl) (byte_wrap _)) | exact (.cv64 rfl (fun _ => rfl) (by omega) (by omega)) | exact (.cv8 rfl (fun _ => rfl) (by omega) (by omega)) | exact (.l rfl (fun _ _ => rfl)) | exact (.l rfl (look_own 0 rfl rfl rfl rfl)) | exact (.l rfl (look_own 1 rfl rfl rfl rfl)) | exact (.l rfl (look_own 2 rfl rfl rfl rfl)) | exact (.l rfl (look_own 3 rfl rfl rfl rfl)) | exact (.l rfl (look_own 4 rfl rfl rfl rfl)) | exact (.l rfl (look_own 5 rfl rfl rfl rfl)) | exact (.l rfl (look_own 6 rfl rfl rfl rfl)) | exact (.l rfl (look_own 7 rfl rfl rfl rfl)) | exact (.l rfl (look_agg 0 rfl rfl rfl rfl)) | exact (.l rfl (look_agg 1 rfl rfl rfl rfl)) | exact (.l rfl (look_agg 2 rfl rfl rfl rfl)) | exact (.l rfl (look_agg 3 rfl rfl rfl rfl)) | exact (.l rfl (look_agg 4 rfl rfl rfl rfl)) | exact (.l rfl (look_agg 5 rfl rfl rfl rfl)) | exact (.l rfl (look_agg 6 rfl rfl rfl rfl)) | exact (.l rfl (look_agg 7 rfl rfl rfl rfl)) | exact (.l rfl (look_str 0 rfl rfl rfl rfl rfl rfl rfl)) | exact (.l rfl (look_str 1 rfl rfl rfl rfl rfl rfl rfl)) | exact (.l rfl (look_str 2 rfl rfl rfl rfl rfl rfl rfl)) | exact (.l rfl (look_str 3 rfl rfl rfl rfl rfl rfl rfl)))
        | refine ops_skip rfl rfl rfl ?_
        | (refine ops_step rfl rfl rfl ?_; first | (refine step_box rfl rfl rfl (fun _ => ?_)) | (refine step_alloc rfl rfl rfl rfl (fun _ => ?_)) | (refine step_buildSlice rfl rfl rfl rfl rfl (fun _ => ?_)) | (refine step_map rfl (fun _ => ?_)) | (refine step_store 0 rfl rfl rfl rfl rfl rfl rfl rfl rfl ?_) | (refine step_store 1 rfl rfl rfl rfl rfl rfl rfl rfl rfl ?_) | (refine step_store 2 rfl rfl rfl rfl rfl rfl rfl rfl rfl ?_) | (refine step_store 3 rfl rfl rfl rfl rfl rfl rfl rfl rfl ?_) | (refine step_store 4 rfl rfl rfl rfl rfl rfl rfl rfl rfl ?_) | (refine step_store 5 rfl rfl rfl rfl rfl rfl rfl rfl rfl ?_) | (refine step_store 6 rfl rfl rfl rfl rfl rfl rfl rfl rfl ?_) | (refine step_store 7 rfl rfl rfl rfl rfl rfl rfl rfl rfl ?_)))
    refine ⟨q - 1, by omega, _, F' ++ [], ?_, ?_, i + 1, by omega, ?_, ?_, rfl⟩
    · exact ⟨rfl, rfl, rfl, rfl, trivial⟩
    · exact .refl _
    · rw [htake]
      intro x hx
      rcases List.mem_append.1 hx with hx | hx
      · exact h60 x hx
      · rw [List.mem_singleton.1 hx]; exact hz60
    · rw [htake, putL_snoc, List.append_nil]; exact hP'
  have hi : i = ll := by simp at hge; omega
  rw [List.take_of_length_le (by omega)] at hP h60 hplen
  clear hge
  have hmem : ∀ x ∈ putL l, x.length ≤ 60 := fun x hx => h60 x (by simpa [putL] using (mem_foldT.1 hx))
  have hin : ∀ x ∈ l, x ∈ putL l := fun x hx => mem_foldT.2 (.inr hx)
  generalize putL l = ts at hP hplen hmem hin
  have htb := textsB_le hmem (by omega)
  repeat (first
      | refine exec_seq ?_
      | refine exec_region ?_
      | refine exec_block ?_
      | refine exec_skip ?_
      | refine exec_exit ?_
      | refine exec_ret ?_
      | refine exec_true rfl ?_
      | refine exec_false rfl ?_
      | refine ops_nil ?_
      | (apply ops_pl rfl rfl rfl ?_ rfl ?_; rotate_left; focus first | exact (.bld rfl rfl rfl rfl) | exact (.neSelf rfl rfl rfl rfl) | exact (.eqSelf rfl rfl rfl rfl) | exact (.wr64 rfl rfl (by omega) (by omega)) | exact (.wr8 rfl rfl (by omega) (by omega)) | exact (.num rfl rfl (and127_u8N (by omega))) | exact (.num rfl rfl (or128_u8N (by omega))) | exact (.num rfl rfl (and127_i64N (by omega))) | exact (.num rfl rfl (and1_i64N (by omega))) | exact (.p rfl rfl) | exact (.max2 rfl rfl rfl) | exact (.min2 rfl rfl rfl) | exact (.numL rfl (fun _ => rfl) (byte_wrap _)) | exact (.cv64 rfl (fun _ => rfl) (by omega) (by omega)) | exact (.cv8 rfl (fun _ => rfl) (by omega) (by omega)) | exact (.l rfl (fun _ _ => rfl)) | exact (.l rfl (look_own 0 rfl rfl rfl rfl)) | exact (.l rfl (look_own 1 rfl rfl rfl rfl)) | exact (.l rfl (look_own 2 rfl rfl rfl rfl)) | exact (.l rfl (look_own 3 rfl rfl rfl rfl)) | exact (.l rfl (look_own 4 rfl rfl rfl rfl)) | exact (.l rfl (look_own 5 rfl rfl rfl rfl)) | exact (.l rfl (look_own 6 rfl rfl rfl rfl)) | exact (.l rfl (look_own 7 rfl rfl rfl rfl)) | exact (.l rfl (look_agg 0 rfl rfl rfl rfl)) | exact (.l rfl (look_agg 1 rfl rfl rfl rfl)) | exact (.l rfl (look_agg 2 rfl rfl rfl rfl)) | exact (.l rfl (look_agg 3 rfl rfl rfl rfl)) | exact (.l rfl (look_agg 4 rfl rfl rfl rfl)) | exact (.l rfl (look_agg 5 rfl rfl rfl rfl)) | exact (.l rfl (look_agg 6 rfl rfl rfl rfl)) | exact (.l rfl (look_agg 7 rfl rfl rfl rfl)) | exact (.l rfl (look_str 0 rfl rfl rfl rfl rfl rfl rfl)) | exact (.l rfl (look_str 1 rfl rfl rfl rfl rfl rfl rfl)) | exact (.l rfl (look_str 2 rfl rfl rfl rfl rfl rfl rfl)) | exact (.l rfl (look_str 3 rfl rfl rfl rfl rfl rfl rfl)))
      | refine ops_skip rfl rfl rfl ?_
      | (refine ops_step rfl rfl rfl ?_; first | (refine step_box rfl rfl rfl (fun _ => ?_)) | (refine step_alloc rfl rfl rfl rfl (fun _ => ?_)) | (refine step_buildSlice rfl rfl rfl rfl rfl (fun _ => ?_)) | (refine step_map rfl (fun _ => ?_)) | (refine step_store 0 rfl rfl rfl rfl rfl rfl rfl rfl rfl ?_) | (refine step_store 1 rfl rfl rfl rfl rfl rfl rfl rfl rfl ?_) | (refine step_store 2 rfl rfl rfl rfl rfl rfl rfl rfl rfl ?_) | (refine step_store 3 rfl rfl rfl rfl rfl rfl rfl rfl rfl ?_) | (refine step_store 4 rfl rfl rfl rfl rfl rfl rfl rfl rfl ?_) | (refine step_store 5 rfl rfl rfl rfl rfl rfl rfl rfl rfl ?_) | (refine step_store 6 rfl rfl rfl rfl rfl rfl rfl rfl rfl ?_) | (refine step_store 7 rfl rfl rfl rfl rfl rfl rfl rfl rfl ?_)))
  refine ops_step rfl rfl rfl (step_call_fp F [] rfl rfl rfl (List.Perm.of_eq (List.append_nil _).symm) (fun H hs hst => poolLen_ok hst hP) (fun v F' h => ?_))
  obtain ⟨hP, rfl⟩ := h
  rw [List.append_nil]
  repeat (first
      | refine exec_seq ?_
      | refine exec_region ?_
      | refine exec_block ?_
      | refine exec_skip ?_
      | refine exec_exit ?_
      | refine exec_ret ?_
      | refine exec_true rfl ?_
      | refine exec_false rfl ?_
      | refine ops_nil ?_
      | (apply ops_pl rfl rfl rfl ?_ rfl ?_; rotate_left; focus first | exact (.bld rfl rfl rfl rfl) | exact (.neSelf rfl rfl rfl rfl) | exact (.eqSelf rfl rfl rfl rfl) | exact (.wr64 rfl rfl (by omega) (by omega)) | exact (.wr8 rfl rfl (by omega) (by omega)) | exact (.num rfl rfl (and127_u8N (by omega))) | exact (.num rfl rfl (or128_u8N (by omega))) | exact (.num rfl rfl (and127_i64N (by omega))) | exact (.num rfl rfl (and1_i64N (by omega))) | exact (.p rfl rfl) | exact (.max2 rfl rfl rfl) | exact (.min2 rfl rfl rfl) | exact (.numL rfl (fun _ => rfl) (byte_wrap _)) | exact (.cv64 rfl (fun _ => rfl) (by omega) (by omega)) | exact (.cv8 rfl (fun _ => rfl) (by omega) (by omega)) | exact (.l rfl (fun _ _ => rfl)) | exact (.l rfl (look_own 0 rfl rfl rfl rfl)) | exact (.l rfl (look_own 1 rfl rfl rfl rfl)) | exact (.l rfl (look_own 2 rfl rfl rfl rfl)) | exact (.l rfl (look_own 3 rfl rfl rfl rfl)) | exact (.l rfl (look_own 4 rfl rfl rfl rfl)) | exact (.l rfl (look_own 5 rfl rfl rfl rfl)) | exact (.l rfl (look_own 6 rfl rfl rfl rfl)) | exact (.l rfl (look_own 7 rfl rfl rfl rfl)) | exact (.l rfl (look_agg 0 rfl rfl rfl rfl)) | exact (.l rfl (look_agg 1 rfl rfl rfl rfl)) | exact (.l rfl (look_agg 2 rfl rfl rfl rfl)) | exact (.l rfl (look_agg 3 rfl rfl rfl rfl)) | exact (.l rfl (look_agg 4 rfl rfl rfl rfl)) | exact (.l rfl (look_agg 5 rfl rfl rfl rfl)) | exact (.l rfl (look_agg 6 rfl rfl rfl rfl)) | exact (.l rfl (look_agg 7 rfl rfl rfl rfl)) | exact (.l rfl (look_str 0 rfl rfl rfl rfl rfl rfl rfl)) | exact (.l rfl (look_str 1 rfl rfl rfl rfl rfl rfl rfl)) | exact (.l rfl (look_str 2 rfl rfl rfl rfl rfl rfl rfl)) | exact (.l rfl (look_str 3 rfl rfl rfl rfl rfl rfl rfl)))
      | refine ops_skip rfl rfl rfl ?_
      | (refine ops_step rfl rfl rfl ?_; first | (refine step_box rfl rfl rfl (fun _ => ?_)) | (refine step_alloc rfl rfl rfl rfl (fun _ => ?_)) | (refine step_buildSlice rfl rfl rfl rfl rfl (fun _ => ?_)) | (refine step_map rfl (fun _ => ?_)) | (refine step_store 0 rfl rfl rfl rfl rfl rfl rfl rfl rfl ?_) | (refine step_store 1 rfl rfl rfl rfl rfl rfl rfl rfl rfl ?_) | (refine step_store 2 rfl rfl rfl rfl rfl rfl rfl rfl rfl ?_) | (refine step_store 3 rfl rfl rfl rfl rfl rfl rfl rfl rfl ?_) | (refine step_store 4 rfl rfl rfl rfl rfl rfl rfl rfl rfl ?_) | (refine step_store 5 rfl rfl rfl rfl rfl rfl rfl rfl rfl ?_) | (refine step_store 6 rfl rfl rfl rfl rfl rfl rfl rfl rfl ?_) | (refine step_store 7 rfl rfl rfl rfl rfl rfl rfl rfl rfl ?_)))
  refine ops_step rfl rfl rfl (step_call_fp F' [] rfl rfl rfl (List.Perm.of_eq (List.append_nil _).symm) (fun H hs hst => poolBytes_ok hst hP (by omega) (by omega)) (fun v F' h => ?_))
  obtain ⟨a1, n1, c1, p1, F1, rfl, hP, rfl, own1⟩ := h
  rw [List.append_nil]
  repeat (first
      | refine exec_seq ?_
      | refine exec_region ?_
      | refine exec_block ?_
      | refine exec_skip ?_
      | refine exec_exit ?_
      | refine exec_ret ?_
      | refine exec_true rfl ?_
      | refine exec_false rfl ?_
      | refine ops_nil ?_
      | (apply ops_pl rfl rfl rfl ?_ rfl ?_; rotate_left; focus first | exact (.bld rfl rfl rfl rfl) | exact (.neSelf rfl rfl rfl rfl) | exact (.eqSelf rfl rfl rfl rfl) | exact (.wr64 rfl rfl (by omega) (by omega)) | exact (.wr8 rfl rfl (by omega) (by omega)) | exact (.num rfl rfl (and127_u8N (by omega))) | exact (.num rfl rfl (or128_u8N (by omega))) | exact (.num rfl rfl (and127_i64N (by omega))) | exact (.num rfl rfl (and1_i64N (by omega))) | exact (.p rfl rfl) | exact (.max2 rfl rfl rfl) | exact (.min2 rfl rfl rfl) | exact (.numL rfl (fun _ => rfl) (byte_wrap _)) | exact (.cv64 rfl (fun _ => rfl) (by omega) (by omega)) | exact (.cv8 rfl (fun _ => rfl) (by omega) (by omega)) | exact (.l rfl (fun _ _ => rfl)) | exact (.l rfl (look_own 0 rfl rfl rfl rfl)) | exact (.l rfl (look_own 1 rfl rfl rfl rfl)) | exact (.l rfl (look_own 2 rfl rfl rfl rfl)) | exact (.l rfl (look_own 3 rfl rfl rfl rfl)) | exact (.l rfl (look_own 4 rfl rfl rfl rfl)) | exact (.l rfl (look_own 5 rfl rfl rfl rfl)) | exact (.l rfl (look_own 6 rfl rfl rfl rfl)) | exact (.l rfl (look_own 7 rfl rfl rfl rfl)) | exact (.l rfl (look_agg 0 rfl rfl rfl rfl)) | exact (.l rfl (look_agg 1 rfl rfl rfl rfl)) | exact (.l rfl (look_agg 2 rfl rfl rfl rfl)) | exact (.l rfl (look_agg 3 rfl rfl rfl rfl)) | exact (.l rfl (look_agg 4 rfl rfl rfl rfl)) | exact (.l rfl (look_agg 5 rfl rfl rfl rfl)) | exact (.l rfl (look_agg 6 rfl rfl rfl rfl)) | exact (.l rfl (look_agg 7 rfl rfl rfl rfl)) | exact (.l rfl (look_str 0 rfl rfl rfl rfl rfl rfl rfl)) | exact (.l rfl (look_str 1 rfl rfl rfl rfl rfl rfl rfl)) | exact (.l rfl (look_str 2 rfl rfl rfl rfl rfl rfl rfl)) | exact (.l rfl (look_str 3 rfl rfl rfl rfl rfl rfl rfl)))
      | refine ops_skip rfl rfl rfl ?_
      | (refine ops_step rfl rfl rfl ?_; first | (refine step_box rfl rfl rfl (fun _ => ?_)) | (refine step_alloc rfl rfl rfl rfl (fun _ => ?_)) | (refine step_buildSlice rfl rfl rfl rfl rfl (fun _ => ?_)) | (refine step_map rfl (fun _ => ?_)) | (refine step_store 0 rfl rfl rfl rfl rfl rfl rfl rfl rfl ?_) | (refine step_store 1 rfl rfl rfl rfl rfl rfl rfl rfl rfl ?_) | (refine step_store 2 rfl rfl rfl rfl rfl rfl rfl rfl rfl ?_) | (refine step_store 3 rfl rfl rfl rfl rfl rfl rfl rfl rfl ?_) | (refine step_store 4 rfl rfl rfl rfl rfl rfl rfl rfl rfl ?_) | (refine step_store 5 rfl rfl rfl rfl rfl rfl rfl rfl rfl ?_) | (refine step_store 6 rfl rfl rfl rfl rfl rfl rfl rfl rfl ?_) | (refine step_store 7 rfl rfl rfl rfl rfl rfl rfl rfl rfl ?_)))
  refine ops_step rfl rfl rfl (step_callR (fun v L' => ∃ rb, v = .pointer (some ⟨rb, 0, some 0⟩) ∧ L' = (some rb, rdr a1 n1 c1 0) :: _) rfl rfl rfl (fun H hs => new_ok hs) (fun v L' h => ?_))
  obtain ⟨rr, rfl, rfl⟩ := h
  have hn1 : (poolB ts).length = n1 := by have := own1.len; simpa using this
  have hn2 : n1 ≤ 100000 := by
    have := enc_len9 (n := ts.length) (by omega)
    rw [← hn1, poolB, List.length_append]; omega
  have hback := poolR_back (ts := ts) [] (by omega) (fun s hs => by have := hmem s hs; omega)
  rw [List.append_nil] at hback
  repeat (first
      | refine exec_seq ?_
      | refine exec_region ?_
      | refine exec_block ?_
      | refine exec_skip ?_
      | refine exec_exit ?_
      | refine exec_ret ?_
      | refine exec_true rfl ?_
      | refine exec_false rfl ?_
      | refine ops_nil ?_
      | (apply ops_pl rfl rfl rfl ?_ rfl ?_; rotate_left; focus first | exact (.bld rfl rfl rfl rfl) | exact (.neSelf rfl rfl rfl rfl) | exact (.eqSelf rfl rfl rfl rfl) | exact (.wr64 rfl rfl (by omega) (by omega)) | exact (.wr8 rfl rfl (by omega) (by omega)) | exact (.num rfl rfl (and127_u8N (by omega))) | exact (.num rfl rfl (or128_u8N (by omega))) | exact (.num rfl rfl (and127_i64N (by omega))) | exact (.num rfl rfl (and1_i64N (by omega))) | exact (.p rfl rfl) | exact (.max2 rfl rfl rfl) | exact (.min2 rfl rfl rfl) | exact (.numL rfl (fun _ => rfl) (byte_wrap _)) | exact (.cv64 rfl (fun _ => rfl) (by omega) (by omega)) | exact (.cv8 rfl (fun _ => rfl) (by omega) (by omega)) | exact (.l rfl (fun _ _ => rfl)) | exact (.l rfl (look_own 0 rfl rfl rfl rfl)) | exact (.l rfl (look_own 1 rfl rfl rfl rfl)) | exact (.l rfl (look_own 2 rfl rfl rfl rfl)) | exact (.l rfl (look_own 3 rfl rfl rfl rfl)) | exact (.l rfl (look_own 4 rfl rfl rfl rfl)) | exact (.l rfl (look_own 5 rfl rfl rfl rfl)) | exact (.l rfl (look_own 6 rfl rfl rfl rfl)) | exact (.l rfl (look_own 7 rfl rfl rfl rfl)) | exact (.l rfl (look_agg 0 rfl rfl rfl rfl)) | exact (.l rfl (look_agg 1 rfl rfl rfl rfl)) | exact (.l rfl (look_agg 2 rfl rfl rfl rfl)) | exact (.l rfl (look_agg 3 rfl rfl rfl rfl)) | exact (.l rfl (look_agg 4 rfl rfl rfl rfl)) | exact (.l rfl (look_agg 5 rfl rfl rfl rfl)) | exact (.l rfl (look_agg 6 rfl rfl rfl rfl)) | exact (.l rfl (look_agg 7 rfl rfl rfl rfl)) | exact (.l rfl (look_str 0 rfl rfl rfl rfl rfl rfl rfl)) | exact (.l rfl (look_str 1 rfl rfl rfl rfl rfl rfl rfl)) | exact (.l rfl (look_str 2 rfl rfl rfl rfl rfl rfl rfl)) | exact (.l rfl (look_str 3 rfl rfl rfl rfl rfl rfl rfl)))
      | refine ops_skip rfl rfl rfl ?_
      | (refine ops_step rfl rfl rfl ?_; first | (refine step_box rfl rfl rfl (fun _ => ?_)) | (refine step_alloc rfl rfl rfl rfl (fun _ => ?_)) | (refine step_buildSlice rfl rfl rfl rfl rfl (fun _ => ?_)) | (refine step_map rfl (fun _ => ?_)) | (refine step_store 0 rfl rfl rfl rfl rfl rfl rfl rfl rfl ?_) | (refine step_store 1 rfl rfl rfl rfl rfl rfl rfl rfl rfl ?_) | (refine step_store 2 rfl rfl rfl rfl rfl rfl rfl rfl rfl ?_) | (refine step_store 3 rfl rfl rfl rfl rfl rfl rfl rfl rfl ?_) | (refine step_store 4 rfl rfl rfl rfl rfl rfl rfl rfl rfl ?_) | (refine step_store 5 rfl rfl rfl rfl rfl rfl rfl rfl rfl ?_) | (refine step_store 6 rfl rfl rfl rfl rfl rfl rfl rfl rfl ?_) | (refine step_store 7 rfl rfl rfl rfl rfl rfl rfl rfl rfl ?_)))
  refine ops_step rfl rfl rfl (step_call_fp [_] (p1 :: F1) rfl rfl rfl (List.Perm.refl _) (fun H hs hst => poolRead_ok hst (SlX.ofOwn own1 hs (.head _)) (by omega)) (fun v F' h => ?_))
  rw [hback] at h
  obtain ⟨a2, n2, c2, F2, rfl, h⟩ := h
  obtain ⟨_, hn2, qb, rfl, hQ⟩ := h.resolve_left (fun h => h.1 rfl)
  refine OpsS.perm (List.perm_append_comm (l₁ := (some rr, rdr a2 n2 c2 0) :: F2) (l₂ := p1 :: F1)) ?_
  refine OpsS.weakL (L' := F1 ++ F2) (.append (.cons _ (.refl _)) (.cons _ (.refl _))) ?_
  replace hQ : PoolF qb ts F2 := hQ
  clear h hback hn2
  repeat (first
      | refine exec_seq ?_
      | refine exec_region ?_
      | refine exec_block ?_
      | refine exec_skip ?_
      | refine exec_exit ?_
      | refine exec_ret ?_
      | refine exec_true rfl ?_
      | refine exec_false rfl ?_
      | refine ops_nil ?_
      | (apply ops_pl rfl rfl rfl ?_ rfl ?_; rotate_left; focus first | exact (.bld rfl rfl rfl rfl) | exact (.neSelf rfl rfl rfl rfl) | exact (.eqSelf rfl rfl rfl rfl) | exact (.wr64 rfl rfl (by omega) (by omega)) | exact (.wr8 rfl rfl (by omega) (by omega)) | exact (.num rfl rfl (and127_u8N (by omega))) | exact (.num rfl rfl (or128_u8N (by omega))) | exact (.num rfl rfl (and127_i64N (by omega))) | exact (.num rfl rfl (and1_i64N (by omega))) | exact (.p rfl rfl) | exact (.max2 rfl rfl rfl) | exact (.min2 rfl rfl rfl) | exact (.numL rfl (fun _ => rfl) (byte_wrap _)) | exact (.cv64 rfl (fun _ => rfl) (by omega) (by omega)) | exact (.cv8 rfl (fun _ => rfl) (by omega) (by omega)) | exact (.l rfl (fun _ _ => rfl)) | exact (.l rfl (look_own 0 rfl rfl rfl rfl)) | exact (.l rfl (look_own 1 rfl rfl rfl rfl)) | exact (.l rfl (look_own 2 rfl rfl rfl rfl)) | exact (.l rfl (look_own 3 rfl rfl rfl rfl)) | exact (.l rfl (look_own 4 rfl rfl rfl rfl)) | exact (.l rfl (look_own 5 rfl rfl rfl rfl)) | exact (.l rfl (look_own 6 rfl rfl rfl rfl)) | exact (.l rfl (look_own 7 rfl rfl rfl rfl)) | exact (.l rfl (look_agg 0 rfl rfl rfl rfl)) | exact (.l rfl (look_agg 1 rfl rfl rfl rfl)) | exact (.l rfl (look_agg 2 rfl rfl rfl rfl)) | exact (.l rfl (look_agg 3 rfl rfl rfl rfl)) | exact (.l rfl (look_agg 4 rfl rfl rfl rfl)) | exact (.l rfl (look_agg 5 rfl rfl rfl rfl)) | exact (.l rfl (look_agg 6 rfl rfl rfl rfl)) | exact (.l rfl (look_agg 7 rfl rfl rfl rfl)) | exact (.l rfl (look_str 0 rfl rfl rfl rfl rfl rfl rfl)) | exact (.l rfl (look_str 1 rfl rfl rfl rfl rfl rfl rfl)) | exact (.l rfl (look_str 2 rfl rfl rfl rfl rfl rfl rfl)) | exact (.l rfl (look_str 3 rfl rfl rfl rfl rfl rfl rfl)))
      | refine ops_skip rfl rfl rfl ?_
      | (refine ops_step rfl rfl rfl ?_; first | (refine step_box rfl rfl rfl (fun _ => ?_)) | (refine step_alloc rfl rfl rfl rfl (fun _ => ?_)) | (refine step_buildSlice rfl rfl rfl rfl rfl (fun _ => ?_)) | (refine step_map rfl (fun _ => ?_)) | (refine step_store 0 rfl rfl rfl rfl rfl rfl rfl rfl rfl ?_) | (refine step_store 1 rfl rfl rfl rfl rfl rfl rfl rfl rfl ?_) | (refine step_store 2 rfl rfl rfl rfl rfl rfl rfl rfl rfl ?_) | (refine step_store 3 rfl rfl rfl rfl rfl rfl rfl rfl rfl ?_) | (refine step_store 4 rfl rfl rfl rfl rfl rfl rfl rfl rfl ?_) | (refine step_store 5 rfl rfl rfl rfl rfl rfl rfl rfl rfl ?_) | (refine step_store 6 rfl rfl rfl rfl rfl rfl rfl rfl rfl ?_) | (refine step_store 7 rfl rfl rfl rfl rfl rfl rfl rfl rfl ?_)))
  refine ops_step rfl rfl rfl (step_call_fp F2 F1 rfl rfl rfl List.perm_append_comm (fun H hs hst => poolLen_ok hst hQ) (fun v F' h => ?_))
  obtain ⟨hQ, rfl⟩ := h
  repeat (first
      | refine exec_seq ?_
      | refine exec_region ?_
      | refine exec_block ?_
      | refine exec_skip ?_
      | refine exec_exit ?_
      | refine exec_ret ?_
      | refine exec_true rfl ?_
      | refine exec_false rfl ?_
      | refine ops_nil ?_
      | (apply ops_pl rfl rfl rfl ?_ rfl ?_; rotate_left; focus first | exact (.bld rfl rfl rfl rfl) | exact (.neSelf rfl rfl rfl rfl) | exact (.eqSelf rfl rfl rfl rfl) | exact (.wr64 rfl rfl (by omega) (by omega)) | exact (.wr8 rfl rfl (by omega) (by omega)) | exact (.num rfl rfl (and127_u8N (by omega))) | exact (.num rfl rfl (or128_u8N (by omega))) | exact (.num rfl rfl (and127_i64N (by omega))) | exact (.num rfl rfl (and1_i64N (by omega))) | exact (.p rfl rfl) | exact (.max2 rfl rfl rfl) | exact (.min2 rfl rfl rfl) | exact (.numL rfl (fun _ => rfl) (byte_wrap _)) | exact (.cv64 rfl (fun _ => rfl) (by omega) (by omega)) | exact (.cv8 rfl (fun _ => rfl) (by omega) (by omega)) | exact (.l rfl (fun _ _ => rfl)) | exact (.l rfl (look_own 0 rfl rfl rfl rfl)) | exact (.l rfl (look_own 1 rfl rfl rfl rfl)) | exact (.l rfl (look_own 2 rfl rfl rfl rfl)) | exact (.l rfl (look_own 3 rfl rfl rfl rfl)) | exact (.l rfl (look_own 4 rfl rfl rfl rfl)) | exact (.l rfl (look_own 5 rfl rfl rfl rfl)) | exact (.l rfl (look_own 6 rfl rfl rfl rfl)) | exact (.l rfl (look_own 7 rfl rfl rfl rfl)) | exact (.l rfl (look_agg 0 rfl rfl rfl rfl)) | exact (.l rfl (look_agg 1 rfl rfl rfl rfl)) | exact (.l rfl (look_agg 2 rfl rfl rfl rfl)) | exact (.l rfl (look_agg 3 rfl rfl rfl rfl)) | exact (.l rfl (look_agg 4 rfl rfl rfl rfl)) | exact (.l rfl (look_agg 5 rfl rfl rfl rfl)) | exact (.l rfl (look_agg 6 rfl rfl rfl rfl)) | exact (.l rfl (look_agg 7 rfl rfl rfl rfl)) | exact (.l rfl (look_str 0 rfl rfl rfl rfl rfl rfl rfl)) | exact (.l rfl (look_str 1 rfl rfl rfl rfl rfl rfl rfl)) | exact (.l rfl (look_str 2 rfl rfl rfl rfl rfl rfl rfl)) | exact (.l rfl (look_str 3 rfl rfl rfl rfl rfl rfl rfl)))
      | refine ops_skip rfl rfl rfl ?_
      | (refine ops_step rfl rfl rfl ?_; first | (refine step_box rfl rfl rfl (fun _ => ?_)) | (refine step_alloc rfl rfl rfl rfl (fun _ => ?_)) | (refine step_buildSlice rfl rfl rfl rfl rfl (fun _ => ?_)) | (refine step_map rfl (fun _ => ?_)) | (refine step_store 0 rfl rfl rfl rfl rfl rfl rfl rfl rfl ?_) | (refine step_store 1 rfl rfl rfl rfl rfl rfl rfl rfl rfl ?_) | (refine step_store 2 rfl rfl rfl rfl rfl rfl rfl rfl rfl ?_) | (refine step_store 3 rfl rfl rfl rfl rfl rfl rfl rfl rfl ?_) | (refine step_store 4 rfl rfl rfl rfl rfl rfl rfl rfl rfl ?_) | (refine step_store 5 rfl rfl rfl rfl rfl rfl rfl rfl rfl ?_) | (refine step_store 6 rfl rfl rfl rfl rfl rfl rfl rfl rfl ?_) | (refine step_store 7 rfl rfl rfl rfl rfl rfl rfl rfl rfl ?_)))
  rw [show (((ts.length : Nat) : Int) != ((ts.length : Nat) : Int)) = false from by simp]
  repeat (first
      | refine exec_seq ?_
      | refine exec_region ?_
      | refine exec_block ?_
      | refine exec_skip ?_
      | refine exec_exit ?_
      | refine exec_ret ?_
      | refine exec_true rfl ?_
      | refine exec_false rfl ?_
      | refine ops_nil ?_
      | (apply ops_pl rfl rfl rfl ?_ rfl ?_; rotate_left; focus first | exact (.bld rfl rfl rfl rfl) | exact (.neSelf rfl rfl rfl rfl) | exact (.eqSelf rfl rfl rfl rfl) | exact (.wr64 rfl rfl (by omega) (by omega)) | exact (.wr8 rfl rfl (by omega) (by omega)) | exact (.num rfl rfl (and127_u8N (by omega))) | exact (.num rfl rfl (or128_u8N (by omega))) | exact (.num rfl rfl (and127_i64N (by omega))) | exact (.num rfl rfl (and1_i64N (by omega))) | exact (.p rfl rfl) | exact (.max2 rfl rfl rfl) | exact (.min2 rfl rfl rfl) | exact (.numL rfl (fun _ => rfl) (byte_wrap _)) | exact (.cv64 rfl (fun _ => rfl) (by omega) (by omega)) | exact (.cv8 rfl (fun _ => rfl) (by omega) (by omega)) | exact (.l rfl (fun _ _ => rfl)) | exact (.l rfl (look_own 0 rfl rfl rfl rfl)) | exact (.l rfl (look_own 1 rfl rfl rfl rfl)) | exact (.l rfl (look_own 2 rfl rfl rfl rfl)) | exact (.l rfl (look_own 3 rfl rfl rfl rfl)) | exact (.l rfl (look_own 4 rfl rfl rfl rfl)) | exact (.l rfl (look_own 5 rfl rfl rfl rfl)) | exact (.l rfl (look_own 6 rfl rfl rfl rfl)) | exact (.l rfl (look_own 7 rfl rfl rfl rfl)) | exact (.l rfl (look_agg 0 rfl rfl rfl rfl)) | exact (.l rfl (look_agg 1 rfl rfl rfl rfl)) | exact (.l rfl (look_agg 2 rfl rfl rfl rfl)) | exact (.l rfl (look_agg 3 rfl rfl rfl rfl)) | exact (.l rfl (look_agg 4 rfl rfl rfl rfl)) | exact (.l rfl (look_agg 5 rfl rfl rfl rfl)) | exact (.l rfl (look_agg 6 rfl rfl rfl rfl)) | exact (.l rfl (look_agg 7 rfl rfl rfl rfl)) | exact (.l rfl (look_str 0 rfl rfl rfl rfl rfl rfl rfl)) | exact (.l rfl (look_str 1 rfl rfl rfl rfl rfl rfl rfl)) | exact (.l rfl (look_str 2 rfl rfl rfl rfl rfl rfl rfl)) | exact (.l rfl (look_str 3 rfl rfl rfl rfl rfl rfl rfl)))
      | refine ops_skip rfl rfl rfl ?_
      | (refine ops_step rfl rfl rfl ?_; first | (refine step_box rfl rfl rfl (fun _ => ?_)) | (refine step_alloc rfl rfl rfl rfl (fun _ => ?_)) | (refine step_buildSlice rfl rfl rfl rfl rfl (fun _ => ?_)) | (refine step_map rfl (fun _ => ?_)) | (refine step_store 0 rfl rfl rfl rfl rfl rfl rfl rfl rfl ?_) | (refine step_store 1 rfl rfl rfl rfl rfl rfl rfl rfl rfl ?_) | (refine step_store 2 rfl rfl rfl rfl rfl rfl rfl rfl rfl ?_) | (refine step_store 3 rfl rfl rfl rfl rfl rfl rfl rfl rfl ?_) | (refine step_store 4 rfl rfl rfl rfl rfl rfl rfl rfl rfl ?_) | (refine step_store 5 rfl rfl rfl rfl rfl rfl rfl rfl rfl ?_) | (refine step_store 6 rfl rfl rfl rfl rfl rfl rfl rfl rfl ?_) | (refine step_store 7 rfl rfl rfl rfl rfl rfl rfl rfl rfl ?_)))
  refine ExecS.perm List.perm_append_comm ?_
  refine ExecS.weak (E' := [(0, .slice al ll cl), (1, str more), (5, .pointer (some ⟨pb, 0, some 0⟩)), (8, .pointer (some ⟨qb, 0, some 0⟩)), (10, .int .i64 ((0 : Nat) : Int))]) (L' := F1 ++ F') ⟨rfl, rfl, rfl, rfl, rfl, trivial⟩ (.refl _) ?_
  refine exec_loop (fun q E L => ∃ (i : Nat) (F1 F2 : Atoms), i + q = ll ∧ PoolF pb ts F1 ∧ PoolF qb ts F2 ∧ L = F1 ++ F2 ∧ E = [(0, .slice al ll cl), (1, str more), (5, .pointer (some ⟨pb, 0, some 0⟩)), (8, .pointer (some ⟨qb, 0, some 0⟩)), (10, .int .i64 (i : Int))]) ?_ ll _ _ ⟨0, _, _, by omega, hP, hQ, rfl, rfl⟩
  clear hP hQ hiq hi i q
  rintro q E L ⟨i, F1, F2, hiq, hP, hQ, rfl, rfl⟩
  repeat (first
      | refine exec_seq ?_
      | refine exec_region ?_
      | refine exec_block ?_
      | refine exec_skip ?_
      | refine exec_exit ?_
      | refine exec_ret ?_
      | refine exec_true rfl ?_
      | refine exec_false rfl ?_
      | refine ops_nil ?_
      | (apply ops_pl rfl rfl rfl ?_ rfl ?_; rotate_left; focus first | exact (.bld rfl rfl rfl rfl) | exact (.neSelf rfl rfl rfl rfl) | exact (.eqSelf rfl rfl rfl rfl) | exact (.wr64 rfl rfl (by omega) (by omega)) | exact (.wr8 rfl rfl (by omega) (by omega)) | exact (.num rfl rfl (and127_u8N (by omega))) | exact (.num rfl rfl (or128_u8N (by omega))) | exact (.num rfl rfl (and127_i64N (by omega))) | exact (.num rfl rfl (and1_i64N (by omega))) | exact (.p rfl rfl) | exact (.max2 rfl rfl rfl) | exact (.min2 rfl rfl rfl) | exact (.numL rfl (fun _ => rfl) (byte_wrap _)) | exact (.cv64 rfl (fun _ => rfl) (by omega) (by omega)) | exact (.cv8 rfl (fun _ => rfl) (by omega) (by omega)) | exact (.l rfl (fun _ _ => rfl)) | exact (.l rfl (look_own 0 rfl rfl rfl rfl)) | exact (.l rfl (look_own 1 rfl rfl rfl rfl)) | exact (.l rfl (look_own 2 rfl rfl rfl rfl)) | exact (.l rfl (look_own 3 rfl rfl rfl rfl)) | exact (.l rfl (look_own 4 rfl rfl rfl rfl)) | exact (.l rfl (look_own 5 rfl rfl rfl rfl)) | exact (.l rfl (look_own 6 rfl rfl rfl rfl)) | exact (.l rfl (look_own 7 rfl rfl rfl rfl)) | exact (.l rfl (look_agg 0 rfl rfl rfl rfl)) | exact (.l rfl (look_agg 1 rfl rfl rfl rfl)) | exact (.l rfl (look_agg 2 rfl rfl rfl rfl)) | exact (.l rfl (look_agg 3 rfl rfl rfl rfl)) | exact (.l rfl (look_agg 4 rfl rfl rfl rfl)) | exact (.l rfl (look_agg 5 rfl rfl rfl rfl)) | exact (.l rfl (look_agg 6 rfl rfl rfl rfl)) | exact (.l rfl (look_agg 7 rfl rfl rfl rfl)) | exact (.l rfl (look_str 0 rfl rfl rfl rfl rfl rfl rfl)) | exact (.l rfl (look_str 1 rfl rfl rfl rfl rfl rfl rfl)) | exact (.l rfl (look_str 2 rfl rfl rfl rfl rfl rfl rfl)) | exact (.l rfl (look_str 3 rfl rfl rfl rfl rfl rfl rfl)))
      | refine ops_skip rfl rfl rfl ?_
      | (refine ops_step rfl rfl rfl ?_; first | (refine step_box rfl rfl rfl (fun _ => ?_)) | (refine step_alloc rfl rfl rfl rfl (fun _ => ?_)) | (refine step_buildSlice rfl rfl rfl rfl rfl (fun _ => ?_)) | (refine step_map rfl (fun _ => ?_)) | (refine step_store 0 rfl rfl rfl rfl rfl rfl rfl rfl rfl ?_) | (refine step_store 1 rfl rfl rfl rfl rfl rfl rfl rfl rfl ?_) | (refine step_store 2 rfl rfl rfl rfl rfl rfl rfl rfl rfl ?_) | (refine step_store 3 rfl rfl rfl rfl rfl rfl rfl rfl rfl ?_) | (refine step_store 4 rfl rfl rfl rfl rfl rfl rfl rfl rfl ?_) | (refine step_store 5 rfl rfl rfl rfl rfl rfl rfl rfl rfl ?_) | (refine step_store 6 rfl rfl rfl rfl rfl rfl rfl rfl rfl ?_) | (refine step_store 7 rfl rfl rfl rfl rfl rfl rfl rfl rfl ?_)))
  refine exec_cond rfl (fun hlt => ?_) (fun hge => ?_)
  · have hi : i < ll := by simp at hlt; omega
    have hil : i < l.length := by omega
    obtain ⟨z, hz, hget⟩ : ∃ z, l[i] = z ∧ (l.map str)[i]? = some (str z) := ⟨l[i], rfl, by rw [List.getElem?_map, List.getElem?_eq_getElem hil]; rfl⟩
    have hzt : z ∈ ts := hin _ (hz ▸ List.getElem_mem hil)
    repeat (first
        | refine exec_seq ?_
        | refine exec_region ?_
        | refine exec_block ?_
        | refine exec_skip ?_
        | refine exec_exit ?_
        | refine exec_ret ?_
        | refine exec_true rfl ?_
        | refine exec_false rfl ?_
        | refine ops_nil ?_
        | (apply ops_pl rfl rfl rfl ?_ rfl ?_; rotate_left; focus first | exact (.bld rfl rfl rfl rfl) | exact (.neSelf rfl rfl rfl rfl) | exact (.eqSelf rfl rfl rfl rfl) | exact (.wr64 rfl rfl (by omega) (by omega)) | exact (.wr8 rfl rfl (by omega) (by omega)) | exact (.num rfl rfl (and127_u8N (by omega))) | exact (.num rfl rfl (or128_u8N (by omega))) | exact (.num rfl rfl (and127_i64N (by omega))) | exact (.num rfl rfl (and1_i64N (by omega))) | exact (.p rfl rfl) | exact (.max2 rfl rfl rfl) | exact (.min2 rfl rfl rfl) | exact (.numL rfl (fun _ => rfl) (byte_wrap _)) | exact (.cv64 rfl (fun _ => rfl) (by omega) (by omega)) | exact (.cv8 rfl (fun _ => rfl) (by omega) (by omega)) | exact (.l rfl (fun _ _ => rfl)) | exact (.l rfl (look_own 0 rfl rfl rfl rfl)) | exact (.l rfl (look_own 1 rfl rfl rfl rfl)) | exact (.l rfl (look_own 2 rfl rfl rfl rfl)) | exact (.l rfl (look_own 3 rfl rfl rfl rfl)) | exact (.l rfl (look_own 4 rfl rfl rfl rfl)) | exact (.l rfl (look_own 5 rfl rfl rfl rfl)) | exact (.l rfl (look_own 6 rfl rfl rfl rfl)) | exact (.l rfl (look_own 7 rfl rfl rfl rfl)) | exact (.l rfl (look_agg 0 rfl rfl rfl rfl)) | exact (.l rfl (look_agg 1 rfl rfl rfl rfl)) | exact (.l rfl (look_agg 2 rfl rfl rfl rfl)) | exact (.l rfl (look_agg 3 rfl rfl rfl rfl)) | exact (.l rfl (look_agg 4 rfl rfl rfl rfl)) | exact (.l rfl (look_agg 5 rfl rfl rfl rfl)) | exact (.l rfl (look_agg 6 rfl rfl rfl rfl)) | exact (.l rfl (look_agg 7 rfl rfl rfl rfl)) | exact (.l rfl (look_str 0 rfl rfl rfl rfl rfl rfl rfl)) | exact (.l rfl (look_str 1 rfl rfl rfl rfl rfl rfl rfl)) | exact (.l rfl (look_str 2 rfl rfl rfl rfl rfl rfl rfl)) | exact (.l rfl (look_str 3 rfl rfl rfl rfl rfl rfl rfl)))
        | refine ops_skip rfl rfl rfl ?_
        | (refine ops_step rfl rfl rfl ?_; first | (refine step_box rfl rfl rfl (fun _ => ?_)) | (refine step_alloc rfl rfl rfl rfl (fun _ => ?_)) | (refine step_buildSlice rfl rfl rfl rfl rfl (fun _ => ?_)) | (refine step_map rfl (fun _ => ?_)) | (refine step_store 0 rfl rfl rfl rfl rfl rfl rfl rfl rfl ?_) | (refine step_store 1 rfl rfl rfl rfl rfl rfl rfl rfl rfl ?_) | (refine step_store 2 rfl rfl rfl rfl rfl rfl rfl rfl rfl ?_) | (refine step_store 3 rfl rfl rfl rfl rfl rfl rfl rfl rfl ?_) | (refine step_store 4 rfl rfl rfl rfl rfl rfl rfl rfl rfl ?_) | (refine step_store 5 rfl rfl rfl rfl rfl rfl rfl rfl rfl ?_) | (refine step_store 6 rfl rfl rfl rfl rfl rfl rfl rfl rfl ?_) | (refine step_store 7 rfl rfl rfl rfl rfl rfl rfl rfl rfl ?_)))
    refine exec_draw (lst := [(0, 0), (1, 0), (2, 0), (3, 6), (4, 14), (6, 0), (7, 0), (8, 0), (9, 384), (10, 896), (5, 31), (11, 2047), (12, 4095)]) (full := 8191) (by kernel_rfl) (by kernel_rfl) (by kernel_rfl) (by kernel_rfl) ?_
    repeat (first
        | (apply draw_pl rfl rfl rfl rfl ?_ rfl rfl ?_; rotate_left; focus first | exact (.bld rfl rfl rfl rfl) | exact (.neSelf rfl rfl rfl rfl) | exact (.eqSelf rfl rfl rfl rfl) | exact (.wr64 rfl rfl (by omega) (by omega)) | exact (.wr8 rfl rfl (by omega) (by omega)) | exact (.num rfl rfl (and127_u8N (by omega))) | exact (.num rfl rfl (or128_u8N (by omega))) | exact (.num rfl rfl (and127_i64N (by omega))) | exact (.num rfl rfl (and1_i64N (by omega))) | exact (.p rfl rfl) | exact (.max2 rfl rfl rfl) | exact (.min2 rfl rfl rfl) | exact (.numL rfl (fun _ => rfl) (byte_wrap _)) | exact (.cv64 rfl (fun _ => rfl) (by omega) (by omega)) | exact (.cv8 rfl (fun _ => rfl) (by omega) (by omega)) | exact (.l rfl (fun _ _ => rfl)) | exact (.l rfl (look_own 0 rfl rfl rfl rfl)) | exact (.l rfl (look_own 1 rfl rfl rfl rfl)) | exact (.l rfl (look_own 2 rfl rfl rfl rfl)) | exact (.l rfl (look_own 3 rfl rfl rfl rfl)) | exact (.l rfl (look_own 4 rfl rfl rfl rfl)) | exact (.l rfl (look_own 5 rfl rfl rfl rfl)) | exact (.l rfl (look_own 6 rfl rfl rfl rfl)) | exact (.l rfl (look_own 7 rfl rfl rfl rfl)) | exact (.l rfl (look_agg 0 rfl rfl rfl rfl)) | exact (.l rfl (look_agg 1 rfl rfl rfl rfl)) | exact (.l rfl (look_agg 2 rfl rfl rfl rfl)) | exact (.l rfl (look_agg 3 rfl rfl rfl rfl)) | exact (.l rfl (look_agg 4 rfl rfl rfl rfl)) | exact (.l rfl (look_agg 5 rfl rfl rfl rfl)) | exact (.l rfl (look_agg 6 rfl rfl rfl rfl)) | exact (.l rfl (look_agg 7 rfl rfl rfl rfl)) | exact (.l rfl (look_str 0 rfl rfl rfl rfl rfl rfl rfl)) | exact (.l rfl (look_str 1 rfl rfl rfl rfl rfl rfl rfl)) | exact (.l rfl (look_str 2 rfl rfl rfl rfl rfl rfl rfl)) | exact (.l rfl (look_str 3 rfl rfl rfl rfl rfl rfl rfl)))
        | refine draw_skip rfl rfl rfl rfl ?_
        | refine draw_nil ?_)
    first | refine ops_pl rfl rfl rfl (.p rfl (opP_idx rfl rfl (hl Heap.empty) rfl rfl (by omega) (by omega))) rfl ?_ | refine draw_pl rfl rfl rfl rfl (.p rfl (opP_idx rfl rfl (hl Heap.empty) rfl rfl (by omega) (by omega))) rfl rfl ?_
    first | refine ops_pl rfl rfl rfl (.l rfl (fun H hs => opL_load rfl ((hl H).ld rfl hget))) rfl ?_ | refine draw_pl rfl rfl rfl rfl (.l rfl (fun H hs => opL_load rfl ((hl H).ld rfl hget))) rfl rfl ?_
    repeat (first
        | (apply draw_pl rfl rfl rfl rfl ?_ rfl rfl ?_; rotate_left; focus first | exact (.bld rfl rfl rfl rfl) | exact (.neSelf rfl rfl rfl rfl) | exact (.eqSelf rfl rfl rfl rfl) | exact (.wr64 rfl rfl (by omega) (by omega)) | exact (.wr8 rfl rfl (by omega) (by omega)) | exact (.num rfl rfl (and127_u8N (by omega))) | exact (.num rfl rfl (or128_u8N (by omega))) | exact (.num rfl rfl (and127_i64N (by omega))) | exact (.num rfl rfl (and1_i64N (by omega))) | exact (.p rfl rfl) | exact (.max2 rfl rfl rfl) | exact (.min2 rfl rfl rfl) | exact (.numL rfl (fun _ => rfl) (byte_wrap _)) | exact (.cv64 rfl (fun _ => rfl) (by omega) (by omega)) | exact (.cv8 rfl (fun _ => rfl) (by omega) (by omega)) | exact (.l rfl (fun _ _ => rfl)) | exact (.l rfl (look_own 0 rfl rfl rfl rfl)) | exact (.l rfl (look_own 1 rfl rfl rfl rfl)) | exact (.l rfl (look_own 2 rfl rfl rfl rfl)) | exact (.l rfl (look_own 3 rfl rfl rfl rfl)) | exact (.l rfl (look_own 4 rfl rfl rfl rfl)) | exact (.l rfl (look_own 5 rfl rfl rfl rfl)) | exact (.l rfl (look_own 6 rfl rfl rfl rfl)) | exact (.l rfl (look_own 7 rfl rfl rfl rfl)) | exact (.l rfl (look_agg 0 rfl rfl rfl rfl)) | exact (.l rfl (look_agg 1 rfl rfl rfl rfl)) | exact (.l rfl (look_agg 2 rfl rfl rfl rfl)) | exact (.l rfl (look_agg 3 rfl rfl rfl rfl)) | exact (.l rfl (look_agg 4 rfl rfl rfl rfl)) | exact (.l rfl (look_agg 5 rfl rfl rfl rfl)) | exact (.l rfl (look_agg 6 rfl rfl rfl rfl)) | exact (.l rfl (look_agg 7 rfl rfl rfl rfl)) | exact (.l rfl (look_str 0 rfl rfl rfl rfl rfl rfl rfl)) | exact (.l rfl (look_str 1 rfl rfl rfl rfl rfl rfl rfl)) | exact (.l rfl (look_str 2 rfl rfl rfl rfl rfl rfl rfl)) | exact (.l rfl (look_str 3 rfl rfl rfl rfl rfl rfl rfl)))
        | refine draw_skip rfl rfl rfl rfl ?_
        | refine draw_nil ?_)
    first | refine ops_pl rfl rfl rfl (.p rfl (opP_idx rfl rfl (hl Heap.empty) rfl rfl (by omega) (by omega))) rfl ?_ | refine draw_pl rfl rfl rfl rfl (.p rfl (opP_idx rfl rfl (hl Heap.empty) rfl rfl (by omega) (by omega))) rfl rfl ?_
    repeat (first
        | (apply draw_pl rfl rfl rfl rfl ?_ rfl rfl ?_; rotate_left; focus first | exact (.bld rfl rfl rfl rfl) | exact (.neSelf rfl rfl rfl rfl) | exact (.eqSelf rfl rfl rfl rfl) | exact (.wr64 rfl rfl (by omega) (by omega)) | exact (.wr8 rfl rfl (by omega) (by omega)) | exact (.num rfl rfl (and127_u8N (by omega))) | exact (.num rfl rfl (or128_u8N (by omega))) | exact (.num rfl rfl (and127_i64N (by omega))) | exact (.num rfl rfl (and1_i64N (by omega))) | exact (.p rfl rfl) | exact (.max2 rfl rfl rfl) | exact (.min2 rfl rfl rfl) | exact (.numL rfl (fun _ => rfl) (byte_wrap _)) | exact (.cv64 rfl (fun _ => rfl) (by omega) (by omega)) | exact (.cv8 rfl (fun _ => rfl) (by omega) (by omega)) | exact (.l rfl (fun _ _ => rfl)) | exact (.l rfl (look_own 0 rfl rfl rfl rfl)) | exact (.l rfl (look_own 1 rfl rfl rfl rfl)) | exact (.l rfl (look_own 2 rfl rfl rfl rfl)) | exact (.l rfl (look_own 3 rfl rfl rfl rfl)) | exact (.l rfl (look_own 4 rfl rfl rfl rfl)) | exact (.l rfl (look_own 5 rfl rfl rfl rfl)) | exact (.l rfl (look_own 6 rfl rfl rfl rfl)) | exact (.l rfl (look_own 7 rfl rfl rfl rfl)) | exact (.l rfl (look_agg 0 rfl rfl rfl rfl)) | exact (.l rfl (look_agg 1 rfl rfl rfl rfl)) | exact (.l rfl (look_agg 2 rfl rfl rfl rfl)) | exact (.l rfl (look_agg 3 rfl rfl rfl rfl)) | exact (.l rfl (look_agg 4 rfl rfl rfl rfl)) | exact (.l rfl (look_agg 5 rfl rfl rfl rfl)) | exact (.l rfl (look_agg 6 rfl rfl rfl rfl)) | exact (.l rfl (look_agg 7 rfl rfl rfl rfl)) | exact (.l rfl (look_str 0 rfl rfl rfl rfl rfl rfl rfl)) | exact (.l rfl (look_str 1 rfl rfl rfl rfl rfl rfl rfl)) | exact (.l rfl (look_str 2 rfl rfl rfl rfl rfl rfl rfl)) | exact (.l rfl (look_str 3 rfl rfl rfl rfl rfl rfl rfl)))
        | refine draw_skip rfl rfl rfl rfl ?_
        | refine draw_nil ?_)
    first | refine ops_pl rfl rfl rfl (.l rfl (fun H hs => opL_load rfl ((hl H).ld rfl hget))) rfl ?_ | refine draw_pl rfl rfl rfl rfl (.l rfl (fun H hs => opL_load rfl ((hl H).ld rfl hget))) rfl rfl ?_
    repeat (first
        | (apply draw_pl rfl rfl rfl rfl ?_ rfl rfl ?_; rotate_left; focus first | exact (.bld rfl rfl rfl rfl) | exact (.neSelf rfl rfl rfl rfl) | exact (.eqSelf rfl rfl rfl rfl) | exact (.wr64 rfl rfl (by omega) (by omega)) | exact (.wr8 rfl rfl (by omega) (by omega)) | exact (.num rfl rfl (and127_u8N (by omega))) | exact (.num rfl rfl (or128_u8N (by omega))) | exact (.num rfl rfl (and127_i64N (by omega))) | exact (.num rfl rfl (and1_i64N (by omega))) | exact (.p rfl rfl) | exact (.max2 rfl rfl rfl) | exact (.min2 rfl rfl rfl) | exact (.numL rfl (fun _ => rfl) (byte_wrap _)) | exact (.cv64 rfl (fun _ => rfl) (by omega) (by omega)) | exact (.cv8 rfl (fun _ => rfl) (by omega) (by omega)) | exact (.l rfl (fun _ _ => rfl)) | exact (.l rfl (look_own 0 rfl rfl rfl rfl)) | exact (.l rfl (look_own 1 rfl rfl rfl rfl)) | exact (.l rfl (look_own 2 rfl rfl rfl rfl)) | exact (.l rfl (look_own 3 rfl rfl rfl rfl)) | exact (.l rfl (look_own 4 rfl rfl rfl rfl)) | exact (.l rfl (look_own 5 rfl rfl rfl rfl)) | exact (.l rfl (look_own 6 rfl rfl rfl rfl)) | exact (.l rfl (look_own 7 rfl rfl rfl rfl)) | exact (.l rfl (look_agg 0 rfl rfl rfl rfl)) | exact (.l rfl (look_agg 1 rfl rfl rfl rfl)) | exact (.l rfl (look_agg 2 rfl rfl rfl rfl)) | exact (.l rfl (look_agg 3 rfl rfl rfl rfl)) | exact (.l rfl (look_agg 4 rfl rfl rfl rfl)) | exact (.l rfl (look_agg 5 rfl rfl rfl rfl)) | exact (.l rfl (look_agg 6 rfl rfl rfl rfl)) | exact (.l rfl (look_agg 7 rfl rfl rfl rfl)) | exact (.l rfl (look_str 0 rfl rfl rfl rfl rfl rfl rfl)) | exact (.l rfl (look_str 1 rfl rfl rfl rfl rfl rfl rfl)) | exact (.l rfl (look_str 2 rfl rfl rfl rfl rfl rfl rfl)) | exact (.l rfl (look_str 3 rfl rfl rfl rfl rfl rfl rfl)))
        | refine draw_skip rfl rfl rfl rfl ?_
        | refine draw_nil ?_)
    refine draw_w rfl rfl rfl rfl rfl rfl (step_call_fp F1 F2 rfl rfl rfl (List.Perm.refl _) (fun H hs hst => poolPut_ok (s := z) hst hP (by omega)) (fun v F' h => ?_))
    rw [if_pos hzt] at h
    obtain ⟨hP, rfl⟩ := h
    refine ⟨by repeat (first | exact True.intro | refine And.intro (.inl rfl) ?_ | refine And.intro (.inr ⟨veq_refl rfl, (fun _ _ => rfl)⟩) ?_ | refine And.intro (.inr ⟨veq_refl rfl, (fun H hs => opL_load rfl ((hl H).ld rfl hget))⟩) ?_), ?_⟩
    repeat (first
        | (apply draw_pl rfl rfl rfl rfl ?_ rfl rfl ?_; rotate_left; focus first | exact (.bld rfl rfl rfl rfl) | exact (.neSelf rfl rfl rfl rfl) | exact (.eqSelf rfl rfl rfl rfl) | exact (.wr64 rfl rfl (by omega) (by omega)) | exact (.wr8 rfl rfl (by omega) (by omega)) | exact (.num rfl rfl (and127_u8N (by omega))) | exact (.num rfl rfl (or128_u8N (by omega))) | exact (.num rfl rfl (and127_i64N (by omega))) | exact (.num rfl rfl (and1_i64N (by omega))) | exact (.p rfl rfl) | exact (.max2 rfl rfl rfl) | exact (.min2 rfl rfl rfl) | exact (.numL rfl (fun _ => rfl) (byte_wrap _)) | exact (.cv64 rfl (fun _ => rfl) (by omega) (by omega)) | exact (.cv8 rfl (fun _ => rfl) (by omega) (by omega)) | exact (.l rfl (fun _ _ => rfl)) | exact (.l rfl (look_own 0 rfl rfl rfl rfl)) | exact (.l rfl (look_own 1 rfl rfl rfl rfl)) | exact (.l rfl (look_own 2 rfl rfl rfl rfl)) | exact (.l rfl (look_own 3 rfl rfl rfl rfl)) | exact (.l rfl (look_own 4 rfl rfl rfl rfl)) | exact (.l rfl (look_own 5 rfl rfl rfl rfl)) | exact (.l rfl (look_own 6 rfl rfl rfl rfl)) | exact (.l rfl (look_own 7 rfl rfl rfl rfl)) | exact (.l rfl (look_agg 0 rfl rfl rfl rfl)) | exact (.l rfl (look_agg 1 rfl rfl rfl rfl)) | exact (.l rfl (look_agg 2 rfl rfl rfl rfl)) | exact (.l rfl (look_agg 3 rfl rfl rfl rfl)) | exact (.l rfl (look_agg 4 rfl rfl rfl rfl)) | exact (.l rfl (look_agg 5 rfl rfl rfl rfl)) | exact (.l rfl (look_agg 6 rfl rfl rfl rfl)) | exact (.l rfl (look_agg 7 rfl rfl rfl rfl)) | exact (.l rfl (look_str 0 rfl rfl rfl rfl rfl rfl rfl)) | exact (.l rfl (look_str 1 rfl rfl rfl rfl rfl rfl rfl)) | exact (.l rfl (look_str 2 rfl rfl rfl rfl rfl rfl rfl)) | exact (.l rfl (look_str 3 rfl rfl rfl rfl rfl rfl rfl)))
        | refine draw_skip rfl rfl rfl rfl ?_
        | refine draw_nil ?_)
    refine draw_w rfl rfl rfl rfl rfl rfl (step_call_fp F2 F' rfl rfl rfl List.perm_append_comm (fun H hs hst => poolPut_ok (s := z) hst hQ (by omega)) (fun v F3 h => ?_))
    rw [if_pos hzt] at h
    obtain ⟨hQ, rfl⟩ := h
    refine ⟨by repeat (first | exact True.intro | refine And.intro (.inl rfl) ?_ | refine And.intro (.inr ⟨veq_refl rfl, (fun _ _ => rfl)⟩) ?_ | refine And.intro (.inr ⟨veq_refl rfl, (fun H hs => opL_load rfl ((hl H).ld rfl hget))⟩) ?_), ?_⟩
    refine DrawS.perm List.perm_append_comm ?_
    repeat (first
        | (apply draw_pl rfl rfl rfl rfl ?_ rfl rfl ?_; rotate_left; focus first | exact (.bld rfl rfl rfl rfl) | exact (.neSelf rfl rfl rfl rfl) | exact (.eqSelf rfl rfl rfl rfl) | exact (.wr64 rfl rfl (by omega) (by omega)) | exact (.wr8 rfl rfl (by omega) (by omega)) | exact (.num rfl rfl (and127_u8N (by omega))) | exact (.num rfl rfl (or128_u8N (by omega))) | exact (.num rfl rfl (and127_i64N (by omega))) | exact (.num rfl rfl (and1_i64N (by omega))) | exact (.p rfl rfl) | exact (.max2 rfl rfl rfl) | exact (.min2 rfl rfl rfl) | exact (.numL rfl (fun _ => rfl) (byte_wrap _)) | exact (.cv64 rfl (fun _ => rfl) (by omega) (by omega)) | exact (.cv8 rfl (fun _ => rfl) (by omega) (by omega)) | exact (.l rfl (fun _ _ => rfl)) | exact (.l rfl (look_own 0 rfl rfl rfl rfl)) | exact (.l rfl (look_own 1 rfl rfl rfl rfl)) | exact (.l rfl (look_own 2 rfl rfl rfl rfl)) | exact (.l rfl (look_own 3 rfl rfl rfl rfl)) | exact (.l rfl (look_own 4 rfl rfl rfl rfl)) | exact (.l rfl (look_own 5 rfl rfl rfl rfl)) | exact (.l rfl (look_own 6 rfl rfl rfl rfl)) | exact (.l rfl (look_own 7 rfl rfl rfl rfl)) | exact (.l rfl (look_agg 0 rfl rfl rfl rfl)) | exact (.l rfl (look_agg 1 rfl rfl rfl rfl)) | exact (.l rfl (look_agg 2 rfl rfl rfl rfl)) | exact (.l rfl (look_agg 3 rfl rfl rfl rfl)) | exact (.l rfl (look_agg 4 rfl rfl rfl rfl)) | exact (.l rfl (look_agg 5 rfl rfl rfl rfl)) | exact (.l rfl (look_agg 6 rfl rfl rfl rfl)) | exact (.l rfl (look_agg 7 rfl rfl rfl rfl)) | exact (.l rfl (look_str 0 rfl rfl rfl rfl rfl rfl rfl)) | exact (.l rfl (look_str 1 rfl rfl rfl rfl rfl rfl rfl)) | exact (.l rfl (look_str 2 rfl rfl rfl rfl rfl rfl rfl)) | exact (.l rfl (look_str 3 rfl rfl rfl rfl rfl rfl rfl)))
        | refine draw_skip rfl rfl rfl rfl ?_
        | refine draw_nil ?_)
    rw [show (((ts.idxOf z : Nat) : Int) != ((ts.idxOf z : Nat) : Int)) = false from by simp]
    repeat (first
        | refine exec_seq ?_
        | refine exec_region ?_
        | refine exec_block ?_
        | refine exec_skip ?_
        | refine exec_exit ?_
        | refine exec_ret ?_
        | refine exec_true rfl ?_
        | refine exec_false rfl ?_
        | refine ops_nil ?_
        | (apply ops_pl rfl rfl rfl ?_ rfl ?_; rotate_left; focus first | exact (.bld rfl rfl rfl rfl) | exact (.neSelf rfl rfl rfl rfl) | exact (.eqSelf rfl rfl rfl rfl) | exact (.wr64 rfl rfl (by omega) (by omega)) | exact (.wr8 rfl rfl (by omega) (by omega)) | exact (.num rfl rfl (and127_u8N (by omega))) | exact (.num rfl rfl (or128_u8N (by omega))) | exact (.num rfl rfl (and127_i64N (by omega))) | exact (.num rfl rfl (and1_i64N (by omega))) | exact (.p rfl rfl) | exact (.max2 rfl rfl rfl) | exact (.min2 rfl rfl rfl) | exact (.numL rfl (fun _ => rfl) (byte_wrap _)) | exact (.cv64 rfl (fun _ => rfl) (by omega) (by omega)) | exact (.cv8 rfl (fun _ => rfl) (by omega) (by omega)) | exact (.l rfl (fun _ _ => rfl)) | exact (.l rfl (look_own 0 rfl rfl rfl rfl)) | exact (.l rfl (look_own 1 rfl rfl rfl rfl)) | exact (.l rfl (look_own 2 rfl rfl rfl rfl)) | exact (.l rfl (look_own 3 rfl rfl rfl rfl)) | exact (.l rfl (look_own 4 rfl rfl rfl rfl)) | exact (.l rfl (look_own 5 rfl rfl rfl rfl)) | exact (.l rfl (look_own 6 rfl rfl rfl rfl)) | exact (.l rfl (look_own 7 rfl rfl rfl rfl)) | exact (.l rfl (look_agg 0 rfl rfl rfl rfl)) | exact (.l rfl (look_agg 1 rfl rfl rfl rfl)) | exact (.l rfl (look_agg 2 rfl rfl rfl rfl)) | exact (.l rfl (look_agg 3 rfl rfl rfl rfl)) | exact (.l rfl (look_agg 4 rfl rfl rfl rfl)) | exact (.l rfl (look_agg 5 rfl rfl rfl rfl)) | exact (.l rfl (look_agg 6 rfl rfl rfl rfl)) | exact (.l rfl (look_agg 7 rfl rfl rfl rfl)) | exact (.l rfl (look_str 0 rfl rfl rfl rfl rfl rfl rfl)) | exact (.l rfl (look_str 1 rfl rfl rfl rfl rfl rfl rfl)) | exact (.l rfl (look_str 2 rfl rfl rfl rfl rfl rfl rfl)) | exact (.l rfl (look_str 3 rfl rfl rfl rfl rfl rfl rfl)))
        | refine ops_skip rfl rfl rfl ?_
        | (refine ops_step rfl rfl rfl ?_; first | (refine step_box rfl rfl rfl (fun _ => ?_)) | (refine step_alloc rfl rfl rfl rfl (fun _ => ?_)) | (refine step_buildSlice rfl rfl rfl rfl rfl (fun _ => ?_)) | (refine step_map rfl (fun _ => ?_)) | (refine step_store 0 rfl rfl rfl rfl rfl rfl rfl rfl rfl ?_) | (refine step_store 1 rfl rfl rfl rfl rfl rfl rfl rfl rfl ?_) | (refine step_store 2 rfl rfl rfl rfl rfl rfl rfl rfl rfl ?_) | (refine step_store 3 rfl rfl rfl rfl rfl rfl rfl rfl rfl ?_) | (refine step_store 4 rfl rfl rfl rfl rfl rfl rfl rfl rfl ?_) | (refine step_store 5 rfl rfl rfl rfl rfl rfl rfl rfl rfl ?_) | (refine step_store 6 rfl rfl rfl rfl rfl rfl rfl rfl rfl ?_) | (refine step_store 7 rfl rfl rfl rfl rfl rfl rfl rfl rfl ?_)))
    refine ⟨q - 1, by omega, _, F' ++ F3, ?_, .refl _, i + 1, _, _, by omega, hP, hQ, rfl, rfl⟩
    exact ⟨rfl, rfl, rfl, rfl, rfl, trivial⟩
  clear hge
  repeat (first
      | refine exec_seq ?_
      | refine exec_region ?_
      | refine exec_block ?_
      | refine exec_skip ?_
      | refine exec_exit ?_
      | refine exec_ret ?_
      | refine exec_true rfl ?_
      | refine exec_false rfl ?_
      | refine ops_nil ?_
      | (apply ops_pl rfl rfl rfl ?_ rfl ?_; rotate_left; focus first | exact (.bld rfl rfl rfl rfl) | exact (.neSelf rfl rfl rfl rfl) | exact (.eqSelf rfl rfl rfl rfl) | exact (.wr64 rfl rfl (by omega) (by omega)) | exact (.wr8 rfl rfl (by omega) (by omega)) | exact (.num rfl rfl (and127_u8N (by omega))) | exact (.num rfl rfl (or128_u8N (by omega))) | exact (.num rfl rfl (and127_i64N (by omega))) | exact (.num rfl rfl (and1_i64N (by omega))) | exact (.p rfl rfl) | exact (.max2 rfl rfl rfl) | exact (.min2 rfl rfl rfl) | exact (.numL rfl (fun _ => rfl) (byte_wrap _)) | exact (.cv64 rfl (fun _ => rfl) (by omega) (by omega)) | exact (.cv8 rfl (fun _ => rfl) (by omega) (by omega)) | exact (.l rfl (fun _ _ => rfl)) | exact (.l rfl (look_own 0 rfl rfl rfl rfl)) | exact (.l rfl (look_own 1 rfl rfl rfl rfl)) | exact (.l rfl (look_own 2 rfl rfl rfl rfl)) | exact (.l rfl (look_own 3 rfl rfl rfl rfl)) | exact (.l rfl (look_own 4 rfl rfl rfl rfl)) | exact (.l rfl (look_own 5 rfl rfl rfl rfl)) | exact (.l rfl (look_own 6 rfl rfl rfl rfl)) | exact (.l rfl (look_own 7 rfl rfl rfl rfl)) | exact (.l rfl (look_agg 0 rfl rfl rfl rfl)) | exact (.l rfl (look_agg 1 rfl rfl rfl rfl)) | exact (.l rfl (look_agg 2 rfl rfl rfl rfl)) | exact (.l rfl (look_agg 3 rfl rfl rfl rfl)) | exact (.l rfl (look_agg 4 rfl rfl rfl rfl)) | exact (.l rfl (look_agg 5 rfl rfl rfl rfl)) | exact (.l rfl (look_agg 6 rfl rfl rfl rfl)) | exact (.l rfl (look_agg 7 rfl rfl rfl rfl)) | exact (.l rfl (look_str 0 rfl rfl rfl rfl rfl rfl rfl)) | exact (.l rfl (look_str 1 rfl rfl rfl rfl rfl rfl rfl)) | exact (.l rfl (look_str 2 rfl rfl rfl rfl rfl rfl rfl)) | exact (.l rfl (look_str 3 rfl rfl rfl rfl rfl rfl rfl)))
      | refine ops_skip rfl rfl rfl ?_
      | (refine ops_step rfl rfl rfl ?_; first | (refine step_box rfl rfl rfl (fun _ => ?_)) | (refine step_alloc rfl rfl rfl rfl (fun _ => ?_)) | (refine step_buildSlice rfl rfl rfl rfl rfl (fun _ => ?_)) | (refine step_map rfl (fun _ => ?_)) | (refine step_store 0 rfl rfl rfl rfl rfl rfl rfl rfl rfl ?_) | (refine step_store 1 rfl rfl rfl rfl rfl rfl rfl rfl rfl ?_) | (refine step_store 2 rfl rfl rfl rfl rfl rfl rfl rfl rfl ?_) | (refine step_store 3 rfl rfl rfl rfl rfl rfl rfl rfl rfl ?_) | (refine step_store 4 rfl rfl rfl rfl rfl rfl rfl rfl rfl ?_) | (refine step_store 5 rfl rfl rfl rfl rfl rfl rfl rfl rfl ?_) | (refine step_store 6 rfl rfl rfl rfl rfl rfl rfl rfl rfl ?_) | (refine step_store 7 rfl rfl rfl rfl rfl rfl rfl rfl rfl ?_)))
  refine ops_step rfl rfl rfl (step_call_fp F1 F2 rfl rfl rfl (List.Perm.refl _) (fun H hs hst => poolPut_ok (s := more) hst hP (by omega)) (fun v F' h => ?_))
  obtain ⟨hP, rfl⟩ := h
  repeat (first
      | refine exec_seq ?_
      | refine exec_region ?_
      | refine exec_block ?_
      | refine exec_skip ?_
      | refine exec_exit ?_
      | refine exec_ret ?_
      | refine exec_true rfl ?_
      | refine exec_false rfl ?_
      | refine ops_nil ?_
      | (apply ops_pl rfl rfl rfl ?_ rfl ?_; rotate_left; focus first | exact (.bld rfl rfl rfl rfl) | exact (.neSelf rfl rfl rfl rfl) | exact (.eqSelf rfl rfl rfl rfl) | exact (.wr64 rfl rfl (by omega) (by omega)) | exact (.wr8 rfl rfl (by omega) (by omega)) | exact (.num rfl rfl (and127_u8N (by omega))) | exact (.num rfl rfl (or128_u8N (by omega))) | exact (.num rfl rfl (and127_i64N (by omega))) | exact (.num rfl rfl (and1_i64N (by omega))) | exact (.p rfl rfl) | exact (.max2 rfl rfl rfl) | exact (.min2 rfl rfl rfl) | exact (.numL rfl (fun _ => rfl) (byte_wrap _)) | exact (.cv64 rfl (fun _ => rfl) (by omega) (by omega)) | exact (.cv8 rfl (fun _ => rfl) (by omega) (by omega)) | exact (.l rfl (fun _ _ => rfl)) | exact (.l rfl (look_own 0 rfl rfl rfl rfl)) | exact (.l rfl (look_own 1 rfl rfl rfl rfl)) | exact (.l rfl (look_own 2 rfl rfl rfl rfl)) | exact (.l rfl (look_own 3 rfl rfl rfl rfl)) | exact (.l rfl (look_own 4 rfl rfl rfl rfl)) | exact (.l rfl (look_own 5 rfl rfl rfl rfl)) | exact (.l rfl (look_own 6 rfl rfl rfl rfl)) | exact (.l rfl (look_own 7 rfl rfl rfl rfl)) | exact (.l rfl (look_agg 0 rfl rfl rfl rfl)) | exact (.l rfl (look_agg 1 rfl rfl rfl rfl)) | exact (.l rfl (look_agg 2 rfl rfl rfl rfl)) | exact (.l rfl (look_agg 3 rfl rfl rfl rfl)) | exact (.l rfl (look_agg 4 rfl rfl rfl rfl)) | exact (.l rfl (look_agg 5 rfl rfl rfl rfl)) | exact (.l rfl (look_agg 6 rfl rfl rfl rfl)) | exact (.l rfl (look_agg 7 rfl rfl rfl rfl)) | exact (.l rfl (look_str 0 rfl rfl rfl rfl rfl rfl rfl)) | exact (.l rfl (look_str 1 rfl rfl rfl rfl rfl rfl rfl)) | exact (.l rfl (look_str 2 rfl rfl rfl rfl rfl rfl rfl)) | exact (.l rfl (look_str 3 rfl rfl rfl rfl rfl rfl rfl)))
      | refine ops_skip rfl rfl rfl ?_
      | (refine ops_step rfl rfl rfl ?_; first | (refine step_box rfl rfl rfl (fun _ => ?_)) | (refine step_alloc rfl rfl rfl rfl (fun _ => ?_)) | (refine step_buildSlice rfl rfl rfl rfl rfl (fun _ => ?_)) | (refine step_map rfl (fun _ => ?_)) | (refine step_store 0 rfl rfl rfl rfl rfl rfl rfl rfl rfl ?_) | (refine step_store 1 rfl rfl rfl rfl rfl rfl rfl rfl rfl ?_) | (refine step_store 2 rfl rfl rfl rfl rfl rfl rfl rfl rfl ?_) | (refine step_store 3 rfl rfl rfl rfl rfl rfl rfl rfl rfl ?_) | (refine step_store 4 rfl rfl rfl rfl rfl rfl rfl rfl rfl ?_) | (refine step_store 5 rfl rfl rfl rfl rfl rfl rfl rfl rfl ?_) | (refine step_store 6 rfl rfl rfl rfl rfl rfl rfl rfl rfl ?_) | (refine step_store 7 rfl rfl rfl rfl rfl rfl rfl rfl rfl ?_)))
  refine ops_step rfl rfl rfl (step_call_fp F2 F' rfl rfl rfl List.perm_append_comm (fun H hs hst => poolPut_ok (s := more) hst hQ (by omega)) (fun v F3 h => ?_))
  obtain ⟨hQ, rfl⟩ := h
  refine OpsS.perm List.perm_append_comm ?_
  have hmo : more ∈ putT ts more := mem_putT.2 (.inr rfl)
  have hplen2 := putT_len ts more
  have hmem2 : ∀ x ∈ putT ts more, x.length ≤ 60 := fun x hx => by
    rcases mem_putT.1 hx with hx | rfl
    · exact hmem x hx
    · exact hmore
  have htb2 := textsB_le hmem2 (by omega)
  replace hP : PoolF pb (putT ts more) F' := hP
  replace hQ : PoolF qb (putT ts more) F3 := hQ
  have hix : (putT ts more).idxOf more < (putT ts more).length := List.idxOf_lt_length_iff.2 hmo
  rw [show (if more ∈ ts then ts else ts ++ [more]) = putT ts more from rfl]
  generalize putT ts more = us at hP hQ hmo hplen2 hmem2 htb2 hix
  repeat (first
      | refine exec_seq ?_
      | refine exec_region ?_
      | refine exec_block ?_
      | refine exec_skip ?_
      | refine exec_exit ?_
      | refine exec_ret ?_
      | refine exec_true rfl ?_
      | refine exec_false rfl ?_
      | refine ops_nil ?_
      | (apply ops_pl rfl rfl rfl ?_ rfl ?_; rotate_left; focus first | exact (.bld rfl rfl rfl rfl) | exact (.neSelf rfl rfl rfl rfl) | exact (.eqSelf rfl rfl rfl rfl) | exact (.wr64 rfl rfl (by omega) (by omega)) | exact (.wr8 rfl rfl (by omega) (by omega)) | exact (.num rfl rfl (and127_u8N (by omega))) | exact (.num rfl rfl (or128_u8N (by omega))) | exact (.num rfl rfl (and127_i64N (by omega))) | exact (.num rfl rfl (and1_i64N (by omega))) | exact (.p rfl rfl) | exact (.max2 rfl rfl rfl) | exact (.min2 rfl rfl rfl) | exact (.numL rfl (fun _ => rfl) (byte_wrap _)) | exact (.cv64 rfl (fun _ => rfl) (by omega) (by omega)) | exact (.cv8 rfl (fun _ => rfl) (by omega) (by omega)) | exact (.l rfl (fun _ _ => rfl)) | exact (.l rfl (look_own 0 rfl rfl rfl rfl)) | exact (.l rfl (look_own 1 rfl rfl rfl rfl)) | exact (.l rfl (look_own 2 rfl rfl rfl rfl)) | exact (.l rfl (look_own 3 rfl rfl rfl rfl)) | exact (.l rfl (look_own 4 rfl rfl rfl rfl)) | exact (.l rfl (look_own 5 rfl rfl rfl rfl)) | exact (.l rfl (look_own 6 rfl rfl rfl rfl)) | exact (.l rfl (look_own 7 rfl rfl rfl rfl)) | exact (.l rfl (look_agg 0 rfl rfl rfl rfl)) | exact (.l rfl (look_agg 1 rfl rfl rfl rfl)) | exact (.l rfl (look_agg 2 rfl rfl rfl rfl)) | exact (.l rfl (look_agg 3 rfl rfl rfl rfl)) | exact (.l rfl (look_agg 4 rfl rfl rfl rfl)) | exact (.l rfl (look_agg 5 rfl rfl rfl rfl)) | exact (.l rfl (look_agg 6 rfl rfl rfl rfl)) | exact (.l rfl (look_agg 7 rfl rfl rfl rfl)) | exact (.l rfl (look_str 0 rfl rfl rfl rfl rfl rfl rfl)) | exact (.l rfl (look_str 1 rfl rfl rfl rfl rfl rfl rfl)) | exact (.l rfl (look_str 2 rfl rfl rfl rfl rfl rfl rfl)) | exact (.l rfl (look_str 3 rfl rfl rfl rfl rfl rfl rfl)))
      | refine ops_skip rfl rfl rfl ?_
      | (refine ops_step rfl rfl rfl ?_; first | (refine step_box rfl rfl rfl (fun _ => ?_)) | (refine step_alloc rfl rfl rfl rfl (fun _ => ?_)) | (refine step_buildSlice rfl rfl rfl rfl rfl (fun _ => ?_)) | (refine step_map rfl (fun _ => ?_)) | (refine step_store 0 rfl rfl rfl rfl rfl rfl rfl rfl rfl ?_) | (refine step_store 1 rfl rfl rfl rfl rfl rfl rfl rfl rfl ?_) | (refine step_store 2 rfl rfl rfl rfl rfl rfl rfl rfl rfl ?_) | (refine step_store 3 rfl rfl rfl rfl rfl rfl rfl rfl rfl ?_) | (refine step_store 4 rfl rfl rfl rfl rfl rfl rfl rfl rfl ?_) | (refine step_store 5 rfl rfl rfl rfl rfl rfl rfl rfl rfl ?_) | (refine step_store 6 rfl rfl rfl rfl rfl rfl rfl rfl rfl ?_) | (refine step_store 7 rfl rfl rfl rfl rfl rfl rfl rfl rfl ?_)))
  refine exec_draw (lst := [(0, 0), (1, 0), (2, 3), (3, 7), (4, 15), (6, 15), (5, 31), (7, 127), (8, 255), (9, 511), (10, 1023), (11, 2047), (12, 2047), (13, 6143), (14, 16383), (15, 32767), (16, 65535), (17, 131071), (20, 131071), (18, 262143), (19, 524287), (21, 1572863), (22, 3670015), (23, 8388607), (24, 16777215), (25, 33554431)]) (full := 67108863) (by kernel_rfl) (by kernel_rfl) (by kernel_rfl) (by kernel_rfl) ?_
  repeat (first
      | (apply draw_pl rfl rfl rfl rfl ?_ rfl rfl ?_; rotate_left; focus first | exact (.bld rfl rfl rfl rfl) | exact (.neSelf rfl rfl rfl rfl) | exact (.eqSelf rfl rfl rfl rfl) | exact (.wr64 rfl rfl (by omega) (by omega)) | exact (.wr8 rfl rfl (by omega) (by omega)) | exact (.num rfl rfl (and127_u8N (by omega))) | exact (.num rfl rfl (or128_u8N (by omega))) | exact (.num rfl rfl (and127_i64N (by omega))) | exact (.num rfl rfl (and1_i64N (by omega))) | exact (.p rfl rfl) | exact (.max2 rfl rfl rfl) | exact (.min2 rfl rfl rfl) | exact (.numL rfl (fun _ => rfl) (byte_wrap _)) | exact (.cv64 rfl (fun _ => rfl) (by omega) (by omega)) | exact (.cv8 rfl (fun _ => rfl) (by omega) (by omega)) | exact (.l rfl (fun _ _ => rfl)) | exact (.l rfl (look_own 0 rfl rfl rfl rfl)) | exact (.l rfl (look_own 1 rfl rfl rfl rfl)) | exact (.l rfl (look_own 2 rfl rfl rfl rfl)) | exact (.l rfl (look_own 3 rfl rfl rfl rfl)) | exact (.l rfl (look_own 4 rfl rfl rfl rfl)) | exact (.l rfl (look_own 5 rfl rfl rfl rfl)) | exact (.l rfl (look_own 6 rfl rfl rfl rfl)) | exact (.l rfl (look_own 7 rfl rfl rfl rfl)) | exact (.l rfl (look_agg 0 rfl rfl rfl rfl)) | exact (.l rfl (look_agg 1 rfl rfl rfl rfl)) | exact (.l rfl (look_agg 2 rfl rfl rfl rfl)) | exact (.l rfl (look_agg 3 rfl rfl rfl rfl)) | exact (.l rfl (look_agg 4 rfl rfl rfl rfl)) | exact (.l rfl (look_agg 5 rfl rfl rfl rfl)) | exact (.l rfl (look_agg 6 rfl rfl rfl rfl)) | exact (.l rfl (look_agg 7 rfl rfl rfl rfl)) | exact (.l rfl (look_str 0 rfl rfl rfl rfl rfl rfl rfl)) | exact (.l rfl (look_str 1 rfl rfl rfl rfl rfl rfl rfl)) | exact (.l rfl (look_str 2 rfl rfl rfl rfl rfl rfl rfl)) | exact (.l rfl (look_str 3 rfl rfl rfl rfl rfl rfl rfl)))
      | refine draw_skip rfl rfl rfl rfl ?_
      | refine draw_nil ?_)
  rw [show (((us.idxOf more : Nat) : Int) == ((us.idxOf more : Nat) : Int)) = true from by simp]
  repeat (first
      | (apply draw_pl rfl rfl rfl rfl ?_ rfl rfl ?_; rotate_left; focus first | exact (.bld rfl rfl rfl rfl) | exact (.neSelf rfl rfl rfl rfl) | exact (.eqSelf rfl rfl rfl rfl) | exact (.wr64 rfl rfl (by omega) (by omega)) | exact (.wr8 rfl rfl (by omega) (by omega)) | exact (.num rfl rfl (and127_u8N (by omega))) | exact (.num rfl rfl (or128_u8N (by omega))) | exact (.num rfl rfl (and127_i64N (by omega))) | exact (.num rfl rfl (and1_i64N (by omega))) | exact (.p rfl rfl) | exact (.max2 rfl rfl rfl) | exact (.min2 rfl rfl rfl) | exact (.numL rfl (fun _ => rfl) (byte_wrap _)) | exact (.cv64 rfl (fun _ => rfl) (by omega) (by omega)) | exact (.cv8 rfl (fun _ => rfl) (by omega) (by omega)) | exact (.l rfl (fun _ _ => rfl)) | exact (.l rfl (look_own 0 rfl rfl rfl rfl)) | exact (.l rfl (look_own 1 rfl rfl rfl rfl)) | exact (.l rfl (look_own 2 rfl rfl rfl rfl)) | exact (.l rfl (look_own 3 rfl rfl rfl rfl)) | exact (.l rfl (look_own 4 rfl rfl rfl rfl)) | exact (.l rfl (look_own 5 rfl rfl rfl rfl)) | exact (.l rfl (look_own 6 rfl rfl rfl rfl)) | exact (.l rfl (look_own 7 rfl rfl rfl rfl)) | exact (.l rfl (look_agg 0 rfl rfl rfl rfl)) | exact (.l rfl (look_agg 1 rfl rfl rfl rfl)) | exact (.l rfl (look_agg 2 rfl rfl rfl rfl)) | exact (.l rfl (look_agg 3 rfl rfl rfl rfl)) | exact (.l rfl (look_agg 4 rfl rfl rfl rfl)) | exact (.l rfl (look_agg 5 rfl rfl rfl rfl)) | exact (.l rfl (look_agg 6 rfl rfl rfl rfl)) | exact (.l rfl (look_agg 7 rfl rfl rfl rfl)) | exact (.l rfl (look_str 0 rfl rfl rfl rfl rfl rfl rfl)) | exact (.l rfl (look_str 1 rfl rfl rfl rfl rfl rfl rfl)) | exact (.l rfl (look_str 2 rfl rfl rfl rfl rfl rfl rfl)) | exact (.l rfl (look_str 3 rfl rfl rfl rfl rfl rfl rfl)))
      | refine draw_skip rfl rfl rfl rfl ?_
      | refine draw_nil ?_)
  refine draw_w rfl rfl rfl rfl rfl rfl (step_call_fp F' F3 rfl rfl rfl (List.Perm.refl _) (fun H hs hst => poolLen_ok hst hP) (fun v F4 h => ?_))
  obtain ⟨hP, rfl⟩ := h
  refine ⟨by repeat (first | exact True.intro | refine And.intro (.inl rfl) ?_ | refine And.intro (.inr ⟨veq_refl rfl, (fun _ _ => rfl)⟩) ?_), ?_⟩
  repeat (first
      | (apply draw_pl rfl rfl rfl rfl ?_ rfl rfl ?_; rotate_left; focus first | exact (.bld rfl rfl rfl rfl) | exact (.neSelf rfl rfl rfl rfl) | exact (.eqSelf rfl rfl rfl rfl) | exact (.wr64 rfl rfl (by omega) (by omega)) | exact (.wr8 rfl rfl (by omega) (by omega)) | exact (.num rfl rfl (and127_u8N (by omega))) | exact (.num rfl rfl (or128_u8N (by omega))) | exact (.num rfl rfl (and127_i64N (by omega))) | exact (.num rfl rfl (and1_i64N (by omega))) | exact (.p rfl rfl) | exact (.max2 rfl rfl rfl) | exact (.min2 rfl rfl rfl) | exact (.numL rfl (fun _ => rfl) (byte_wrap _)) | exact (.cv64 rfl (fun _ => rfl) (by omega) (by omega)) | exact (.cv8 rfl (fun _ => rfl) (by omega) (by omega)) | exact (.l rfl (fun _ _ => rfl)) | exact (.l rfl (look_own 0 rfl rfl rfl rfl)) | exact (.l rfl (look_own 1 rfl rfl rfl rfl)) | exact (.l rfl (look_own 2 rfl rfl rfl rfl)) | exact (.l rfl (look_own 3 rfl rfl rfl rfl)) | exact (.l rfl (look_own 4 rfl rfl rfl rfl)) | exact (.l rfl (look_own 5 rfl rfl rfl rfl)) | exact (.l rfl (look_own 6 rfl rfl rfl rfl)) | exact (.l rfl (look_own 7 rfl rfl rfl rfl)) | exact (.l rfl (look_agg 0 rfl rfl rfl rfl)) | exact (.l rfl (look_agg 1 rfl rfl rfl rfl)) | exact (.l rfl (look_agg 2 rfl rfl rfl rfl)) | exact (.l rfl (look_agg 3 rfl rfl rfl rfl)) | exact (.l rfl (look_agg 4 rfl rfl rfl rfl)) | exact (.l rfl (look_agg 5 rfl rfl rfl rfl)) | exact (.l rfl (look_agg 6 rfl rfl rfl rfl)) | exact (.l rfl (look_agg 7 rfl rfl rfl rfl)) | exact (.l rfl (look_str 0 rfl rfl rfl rfl rfl rfl rfl)) | exact (.l rfl (look_str 1 rfl rfl rfl rfl rfl rfl rfl)) | exact (.l rfl (look_str 2 rfl rfl rfl rfl rfl rfl rfl)) | exact (.l rfl (look_str 3 rfl rfl rfl rfl rfl rfl rfl)))
      | refine draw_skip rfl rfl rfl rfl ?_
      | refine draw_nil ?_)
  refine draw_w rfl rfl rfl rfl rfl rfl (step_call_fp F3 F4 rfl rfl rfl List.perm_append_comm (fun H hs hst => poolLen_ok hst hQ) (fun v F5 h => ?_))
  obtain ⟨hQ, rfl⟩ := h
  refine ⟨by repeat (first | exact True.intro | refine And.intro (.inl rfl) ?_ | refine And.intro (.inr ⟨veq_refl rfl, (fun _ _ => rfl)⟩) ?_), ?_⟩
  repeat (first
      | (apply draw_pl rfl rfl rfl rfl ?_ rfl rfl ?_; rotate_left; focus first | exact (.bld rfl rfl rfl rfl) | exact (.neSelf rfl rfl rfl rfl) | exact (.eqSelf rfl rfl rfl rfl) | exact (.wr64 rfl rfl (by omega) (by omega)) | exact (.wr8 rfl rfl (by omega) (by omega)) | exact (.num rfl rfl (and127_u8N (by omega))) | exact (.num rfl rfl (or128_u8N (by omega))) | exact (.num rfl rfl (and127_i64N (by omega))) | exact (.num rfl rfl (and1_i64N (by omega))) | exact (.p rfl rfl) | exact (.max2 rfl rfl rfl) | exact (.min2 rfl rfl rfl) | exact (.numL rfl (fun _ => rfl) (byte_wrap _)) | exact (.cv64 rfl (fun _ => rfl) (by omega) (by omega)) | exact (.cv8 rfl (fun _ => rfl) (by omega) (by omega)) | exact (.l rfl (fun _ _ => rfl)) | exact (.l rfl (look_own 0 rfl rfl rfl rfl)) | exact (.l rfl (look_own 1 rfl rfl rfl rfl)) | exact (.l rfl (look_own 2 rfl rfl rfl rfl)) | exact (.l rfl (look_own 3 rfl rfl rfl rfl)) | exact (.l rfl (look_own 4 rfl rfl rfl rfl)) | exact (.l rfl (look_own 5 rfl rfl rfl rfl)) | exact (.l rfl (look_own 6 rfl rfl rfl rfl)) | exact (.l rfl (look_own 7 rfl rfl rfl rfl)) | exact (.l rfl (look_agg 0 rfl rfl rfl rfl)) | exact (.l rfl (look_agg 1 rfl rfl rfl rfl)) | exact (.l rfl (look_agg 2 rfl rfl rfl rfl)) | exact (.l rfl (look_agg 3 rfl rfl rfl rfl)) | exact (.l rfl (look_agg 4 rfl rfl rfl rfl)) | exact (.l rfl (look_agg 5 rfl rfl rfl rfl)) | exact (.l rfl (look_agg 6 rfl rfl rfl rfl)) | exact (.l rfl (look_agg 7 rfl rfl rfl rfl)) | exact (.l rfl (look_str 0 rfl rfl rfl rfl rfl rfl rfl)) | exact (.l rfl (look_str 1 rfl rfl rfl rfl rfl rfl rfl)) | exact (.l rfl (look_str 2 rfl rfl rfl rfl rfl rfl rfl)) | exact (.l rfl (look_str 3 rfl rfl rfl rfl rfl rfl rfl)))
      | refine draw_skip rfl rfl rfl rfl ?_
      | refine draw_nil ?_)
  rw [show (((us.length : Nat) : Int) == ((us.length : Nat) : Int)) = true from by simp]
  repeat (first
      | (apply draw_pl rfl rfl rfl rfl ?_ rfl rfl ?_; rotate_left; focus first | exact (.bld rfl rfl rfl rfl) | exact (.neSelf rfl rfl rfl rfl) | exact (.eqSelf rfl rfl rfl rfl) | exact (.wr64 rfl rfl (by omega) (by omega)) | exact (.wr8 rfl rfl (by omega) (by omega)) | exact (.num rfl rfl (and127_u8N (by omega))) | exact (.num rfl rfl (or128_u8N (by omega))) | exact (.num rfl rfl (and127_i64N (by omega))) | exact (.num rfl rfl (and1_i64N (by omega))) | exact (.p rfl rfl) | exact (.max2 rfl rfl rfl) | exact (.min2 rfl rfl rfl) | exact (.numL rfl (fun _ => rfl) (byte_wrap _)) | exact (.cv64 rfl (fun _ => rfl) (by omega) (by omega)) | exact (.cv8 rfl (fun _ => rfl) (by omega) (by omega)) | exact (.l rfl (fun _ _ => rfl)) | exact (.l rfl (look_own 0 rfl rfl rfl rfl)) | exact (.l rfl (look_own 1 rfl rfl rfl rfl)) | exact (.l rfl (look_own 2 rfl rfl rfl rfl)) | exact (.l rfl (look_own 3 rfl rfl rfl rfl)) | exact (.l rfl (look_own 4 rfl rfl rfl rfl)) | exact (.l rfl (look_own 5 rfl rfl rfl rfl)) | exact (.l rfl (look_own 6 rfl rfl rfl rfl)) | exact (.l rfl (look_own 7 rfl rfl rfl rfl)) | exact (.l rfl (look_agg 0 rfl rfl rfl rfl)) | exact (.l rfl (look_agg 1 rfl rfl rfl rfl)) | exact (.l rfl (look_agg 2 rfl rfl rfl rfl)) | exact (.l rfl (look_agg 3 rfl rfl rfl rfl)) | exact (.l rfl (look_agg 4 rfl rfl rfl rfl)) | exact (.l rfl (look_agg 5 rfl rfl rfl rfl)) | exact (.l rfl (look_agg 6 rfl rfl rfl rfl)) | exact (.l rfl (look_agg 7 rfl rfl rfl rfl)) | exact (.l rfl (look_str 0 rfl rfl rfl rfl rfl rfl rfl)) | exact (.l rfl (look_str 1 rfl rfl rfl rfl rfl rfl rfl)) | exact (.l rfl (look_str 2 rfl rfl rfl rfl rfl rfl rfl)) | exact (.l rfl (look_str 3 rfl rfl rfl rfl rfl rfl rfl)))
      | refine draw_skip rfl rfl rfl rfl ?_
      | refine draw_nil ?_)
  refine draw_w rfl rfl rfl rfl rfl rfl (step_call_fp F4 F5 rfl rfl rfl List.perm_append_comm (fun H hs hst => poolLen_ok hst hP) (fun v F6 h => ?_))
  obtain ⟨hP, rfl⟩ := h
  refine ⟨by repeat (first | exact True.intro | refine And.intro (.inl rfl) ?_ | refine And.intro (.inr ⟨veq_refl rfl, (fun _ _ => rfl)⟩) ?_), ?_⟩
  repeat (first
      | (apply draw_pl rfl rfl rfl rfl ?_ rfl rfl ?_; rotate_left; focus first | exact (.bld rfl rfl rfl rfl) | exact (.neSelf rfl rfl rfl rfl) | exact (.eqSelf rfl rfl rfl rfl) | exact (.wr64 rfl rfl (by omega) (by omega)) | exact (.wr8 rfl rfl (by omega) (by omega)) | exact (.num rfl rfl (and127_u8N (by omega))) | exact (.num rfl rfl (or128_u8N (by omega))) | exact (.num rfl rfl (and127_i64N (by omega))) | exact (.num rfl rfl (and1_i64N (by omega))) | exact (.p rfl rfl) | exact (.max2 rfl rfl rfl) | exact (.min2 rfl rfl rfl) | exact (.numL rfl (fun _ => rfl) (byte_wrap _)) | exact (.cv64 rfl (fun _ => rfl) (by omega) (by omega)) | exact (.cv8 rfl (fun _ => rfl) (by omega) (by omega)) | exact (.l rfl (fun _ _ => rfl)) | exact (.l rfl (look_own 0 rfl rfl rfl rfl)) | exact (.l rfl (look_own 1 rfl rfl rfl rfl)) | exact (.l rfl (look_own 2 rfl rfl rfl rfl)) | exact (.l rfl (look_own 3 rfl rfl rfl rfl)) | exact (.l rfl (look_own 4 rfl rfl rfl rfl)) | exact (.l rfl (look_own 5 rfl rfl rfl rfl)) | exact (.l rfl (look_own 6 rfl rfl rfl rfl)) | exact (.l rfl (look_own 7 rfl rfl rfl rfl)) | exact (.l rfl (look_agg 0 rfl rfl rfl rfl)) | exact (.l rfl (look_agg 1 rfl rfl rfl rfl)) | exact (.l rfl (look_agg 2 rfl rfl rfl rfl)) | exact (.l rfl (look_agg 3 rfl rfl rfl rfl)) | exact (.l rfl (look_agg 4 rfl rfl rfl rfl)) | exact (.l rfl (look_agg 5 rfl rfl rfl rfl)) | exact (.l rfl (look_agg 6 rfl rfl rfl rfl)) | exact (.l rfl (look_agg 7 rfl rfl rfl rfl)) | exact (.l rfl (look_str 0 rfl rfl rfl rfl rfl rfl rfl)) | exact (.l rfl (look_str 1 rfl rfl rfl rfl rfl rfl rfl)) | exact (.l rfl (look_str 2 rfl rfl rfl rfl rfl rfl rfl)) | exact (.l rfl (look_str 3 rfl rfl rfl rfl rfl rfl rfl)))
      | refine draw_skip rfl rfl rfl rfl ?_
      | refine draw_nil ?_)
  rw [show decide (((us.idxOf more : Nat) : Int) < ((us.length : Nat) : Int)) = true from by simpa using hix]
  repeat (first
      | (apply draw_pl rfl rfl rfl rfl ?_ rfl rfl ?_; rotate_left; focus first | exact (.bld rfl rfl rfl rfl) | exact (.neSelf rfl rfl rfl rfl) | exact (.eqSelf rfl rfl rfl rfl) | exact (.wr64 rfl rfl (by omega) (by omega)) | exact (.wr8 rfl rfl (by omega) (by omega)) | exact (.num rfl rfl (and127_u8N (by omega))) | exact (.num rfl rfl (or128_u8N (by omega))) | exact (.num rfl rfl (and127_i64N (by omega))) | exact (.num rfl rfl (and1_i64N (by omega))) | exact (.p rfl rfl) | exact (.max2 rfl rfl rfl) | exact (.min2 rfl rfl rfl) | exact (.numL rfl (fun _ => rfl) (byte_wrap _)) | exact (.cv64 rfl (fun _ => rfl) (by omega) (by omega)) | exact (.cv8 rfl (fun _ => rfl) (by omega) (by omega)) | exact (.l rfl (fun _ _ => rfl)) | exact (.l rfl (look_own 0 rfl rfl rfl rfl)) | exact (.l rfl (look_own 1 rfl rfl rfl rfl)) | exact (.l rfl (look_own 2 rfl rfl rfl rfl)) | exact (.l rfl (look_own 3 rfl rfl rfl rfl)) | exact (.l rfl (look_own 4 rfl rfl rfl rfl)) | exact (.l rfl (look_own 5 rfl rfl rfl rfl)) | exact (.l rfl (look_own 6 rfl rfl rfl rfl)) | exact (.l rfl (look_own 7 rfl rfl rfl rfl)) | exact (.l rfl (look_agg 0 rfl rfl rfl rfl)) | exact (.l rfl (look_agg 1 rfl rfl rfl rfl)) | exact (.l rfl (look_agg 2 rfl rfl rfl rfl)) | exact (.l rfl (look_agg 3 rfl rfl rfl rfl)) | exact (.l rfl (look_agg 4 rfl rfl rfl rfl)) | exact (.l rfl (look_agg 5 rfl rfl rfl rfl)) | exact (.l rfl (look_agg 6 rfl rfl rfl rfl)) | exact (.l rfl (look_agg 7 rfl rfl rfl rfl)) | exact (.l rfl (look_str 0 rfl rfl rfl rfl rfl rfl rfl)) | exact (.l rfl (look_str 1 rfl rfl rfl rfl rfl rfl rfl)) | exact (.l rfl (look_str 2 rfl rfl rfl rfl rfl rfl rfl)) | exact (.l rfl (look_str 3 rfl rfl rfl rfl rfl rfl rfl)))
      | refine draw_skip rfl rfl rfl rfl ?_
      | refine draw_nil ?_)
  refine draw_w rfl rfl rfl rfl rfl rfl (step_call_fp F6 F5 rfl rfl rfl (List.Perm.refl _) (fun H hs hst => poolBytes_ok hst hP (by omega) (by omega)) (fun v F7 h => ?_))
  obtain ⟨a7, n7, c7, p7, F8, rfl, hP, rfl, own7⟩ := h
  refine ⟨by repeat (first | exact True.intro | refine And.intro (.inl rfl) ?_ | refine And.intro (.inr ⟨veq_refl rfl, (fun _ _ => rfl)⟩) ?_), ?_⟩
  have hb7 : bytesOf ((poolB us).map by8) = some (poolB us) := bytesOf_by8 _
  repeat (first
      | (apply draw_pl rfl rfl rfl rfl ?_ rfl rfl ?_; rotate_left; focus first | exact (.bld rfl rfl rfl rfl) | exact (.neSelf rfl rfl rfl rfl) | exact (.eqSelf rfl rfl rfl rfl) | exact (.wr64 rfl rfl (by omega) (by omega)) | exact (.wr8 rfl rfl (by omega) (by omega)) | exact (.num rfl rfl (and127_u8N (by omega))) | exact (.num rfl rfl (or128_u8N (by omega))) | exact (.num rfl rfl (and127_i64N (by omega))) | exact (.num rfl rfl (and1_i64N (by omega))) | exact (.p rfl rfl) | exact (.max2 rfl rfl rfl) | exact (.min2 rfl rfl rfl) | exact (.numL rfl (fun _ => rfl) (byte_wrap _)) | exact (.cv64 rfl (fun _ => rfl) (by omega) (by omega)) | exact (.cv8 rfl (fun _ => rfl) (by omega) (by omega)) | exact (.l rfl (fun _ _ => rfl)) | exact (.l rfl (look_own 0 rfl rfl rfl rfl)) | exact (.l rfl (look_own 1 rfl rfl rfl rfl)) | exact (.l rfl (look_own 2 rfl rfl rfl rfl)) | exact (.l rfl (look_own 3 rfl rfl rfl rfl)) | exact (.l rfl (look_own 4 rfl rfl rfl rfl)) | exact (.l rfl (look_own 5 rfl rfl rfl rfl)) | exact (.l rfl (look_own 6 rfl rfl rfl rfl)) | exact (.l rfl (look_own 7 rfl rfl rfl rfl)) | exact (.l rfl (look_agg 0 rfl rfl rfl rfl)) | exact (.l rfl (look_agg 1 rfl rfl rfl rfl)) | exact (.l rfl (look_agg 2 rfl rfl rfl rfl)) | exact (.l rfl (look_agg 3 rfl rfl rfl rfl)) | exact (.l rfl (look_agg 4 rfl rfl rfl rfl)) | exact (.l rfl (look_agg 5 rfl rfl rfl rfl)) | exact (.l rfl (look_agg 6 rfl rfl rfl rfl)) | exact (.l rfl (look_agg 7 rfl rfl rfl rfl)) | exact (.l rfl (look_str 0 rfl rfl rfl rfl rfl rfl rfl)) | exact (.l rfl (look_str 1 rfl rfl rfl rfl rfl rfl rfl)) | exact (.l rfl (look_str 2 rfl rfl rfl rfl rfl rfl rfl)) | exact (.l rfl (look_str 3 rfl rfl rfl rfl rfl rfl rfl)))
      | refine draw_skip rfl rfl rfl rfl ?_
      | refine draw_nil ?_)
  first | refine ops_pl rfl rfl rfl (.l rfl (look_strS rfl (fun H hs => OwnA.slM own7 hs (by first | exact List.mem_of_getElem? (i := 0) rfl | exact List.mem_of_getElem? (i := 1) rfl | exact List.mem_of_getElem? (i := 2) rfl | exact List.mem_of_getElem? (i := 3) rfl | simp)) rfl rfl rfl hb7)) rfl ?_ | refine draw_pl rfl rfl rfl rfl (.l rfl (look_strS rfl (fun H hs => OwnA.slM own7 hs (by first | exact List.mem_of_getElem? (i := 0) rfl | exact List.mem_of_getElem? (i := 1) rfl | exact List.mem_of_getElem? (i := 2) rfl | exact List.mem_of_getElem? (i := 3) rfl | simp)) rfl rfl rfl hb7)) rfl rfl ?_
  repeat (first
      | (apply draw_pl rfl rfl rfl rfl ?_ rfl rfl ?_; rotate_left; focus first | exact (.bld rfl rfl rfl rfl) | exact (.neSelf rfl rfl rfl rfl) | exact (.eqSelf rfl rfl rfl rfl) | exact (.wr64 rfl rfl (by omega) (by omega)) | exact (.wr8 rfl rfl (by omega) (by omega)) | exact (.num rfl rfl (and127_u8N (by omega))) | exact (.num rfl rfl (or128_u8N (by omega))) | exact (.num rfl rfl (and127_i64N (by omega))) | exact (.num rfl rfl (and1_i64N (by omega))) | exact (.p rfl rfl) | exact (.max2 rfl rfl rfl) | exact (.min2 rfl rfl rfl) | exact (.numL rfl (fun _ => rfl) (byte_wrap _)) | exact (.cv64 rfl (fun _ => rfl) (by omega) (by omega)) | exact (.cv8 rfl (fun _ => rfl) (by omega) (by omega)) | exact (.l rfl (fun _ _ => rfl)) | exact (.l rfl (look_own 0 rfl rfl rfl rfl)) | exact (.l rfl (look_own 1 rfl rfl rfl rfl)) | exact (.l rfl (look_own 2 rfl rfl rfl rfl)) | exact (.l rfl (look_own 3 rfl rfl rfl rfl)) | exact (.l rfl (look_own 4 rfl rfl rfl rfl)) | exact (.l rfl (look_own 5 rfl rfl rfl rfl)) | exact (.l rfl (look_own 6 rfl rfl rfl rfl)) | exact (.l rfl (look_own 7 rfl rfl rfl rfl)) | exact (.l rfl (look_agg 0 rfl rfl rfl rfl)) | exact (.l rfl (look_agg 1 rfl rfl rfl rfl)) | exact (.l rfl (look_agg 2 rfl rfl rfl rfl)) | exact (.l rfl (look_agg 3 rfl rfl rfl rfl)) | exact (.l rfl (look_agg 4 rfl rfl rfl rfl)) | exact (.l rfl (look_agg 5 rfl rfl rfl rfl)) | exact (.l rfl (look_agg 6 rfl rfl rfl rfl)) | exact (.l rfl (look_agg 7 rfl rfl rfl rfl)) | exact (.l rfl (look_str 0 rfl rfl rfl rfl rfl rfl rfl)) | exact (.l rfl (look_str 1 rfl rfl rfl rfl rfl rfl rfl)) | exact (.l rfl (look_str 2 rfl rfl rfl rfl rfl rfl rfl)) | exact (.l rfl (look_str 3 rfl rfl rfl rfl rfl rfl rfl)))
      | refine draw_skip rfl rfl rfl rfl ?_
      | refine draw_nil ?_)
  refine draw_w rfl rfl rfl rfl rfl rfl (step_call_fp F5 (p7 :: F8) rfl rfl rfl List.perm_append_comm (fun H hs hst => poolBytes_ok hst hQ (by omega) (by omega)) (fun v F9 h => ?_))
  obtain ⟨a9, n9, c9, p9, F10, rfl, hQ, rfl, own9⟩ := h
  refine ⟨by repeat (first | exact True.intro | refine And.intro (.inl rfl) ?_ | refine And.intro (.inr ⟨veq_refl rfl, (fun _ _ => rfl)⟩) ?_ | refine And.intro (.inr ⟨veq_refl rfl, (look_strS rfl (fun H hs => OwnA.slM own7 hs (by first | exact List.mem_of_getElem? (i := 0) rfl | exact List.mem_of_getElem? (i := 1) rfl | exact List.mem_of_getElem? (i := 2) rfl | exact List.mem_of_getElem? (i := 3) rfl | simp)) rfl rfl rfl hb7)⟩) ?_), ?_⟩
  repeat (first
      | (apply draw_pl rfl rfl rfl rfl ?_ rfl rfl ?_; rotate_left; focus first | exact (.bld rfl rfl rfl rfl) | exact (.neSelf rfl rfl rfl rfl) | exact (.eqSelf rfl rfl rfl rfl) | exact (.wr64 rfl rfl (by omega) (by omega)) | exact (.wr8 rfl rfl (by omega) (by omega)) | exact (.num rfl rfl (and127_u8N (by omega))) | exact (.num rfl rfl (or128_u8N (by omega))) | exact (.num rfl rfl (and127_i64N (by omega))) | exact (.num rfl rfl (and1_i64N (by omega))) | exact (.p rfl rfl) | exact (.max2 rfl rfl rfl) | exact (.min2 rfl rfl rfl) | exact (.numL rfl (fun _ => rfl) (byte_wrap _)) | exact (.cv64 rfl (fun _ => rfl) (by omega) (by omega)) | exact (.cv8 rfl (fun _ => rfl) (by omega) (by omega)) | exact (.l rfl (fun _ _ => rfl)) | exact (.l rfl (look_own 0 rfl rfl rfl rfl)) | exact (.l rfl (look_own 1 rfl rfl rfl rfl)) | exact (.l rfl (look_own 2 rfl rfl rfl rfl)) | exact (.l rfl (look_own 3 rfl rfl rfl rfl)) | exact (.l rfl (look_own 4 rfl rfl rfl rfl)) | exact (.l rfl (look_own 5 rfl rfl rfl rfl)) | exact (.l rfl (look_own 6 rfl rfl rfl rfl)) | exact (.l rfl (look_own 7 rfl rfl rfl rfl)) | exact (.l rfl (look_agg 0 rfl rfl rfl rfl)) | exact (.l rfl (look_agg 1 rfl rfl rfl rfl)) | exact (.l rfl (look_agg 2 rfl rfl rfl rfl)) | exact (.l rfl (look_agg 3 rfl rfl rfl rfl)) | exact (.l rfl (look_agg 4 rfl rfl rfl rfl)) | exact (.l rfl (look_agg 5 rfl rfl rfl rfl)) | exact (.l rfl (look_agg 6 rfl rfl rfl rfl)) | exact (.l rfl (look_agg 7 rfl rfl rfl rfl)) | exact (.l rfl (look_str 0 rfl rfl rfl rfl rfl rfl rfl)) | exact (.l rfl (look_str 1 rfl rfl rfl rfl rfl rfl rfl)) | exact (.l rfl (look_str 2 rfl rfl rfl rfl rfl rfl rfl)) | exact (.l rfl (look_str 3 rfl rfl rfl rfl rfl rfl rfl)))
      | refine draw_skip rfl rfl rfl rfl ?_
      | refine draw_nil ?_)
  first | refine ops_pl rfl rfl rfl (.l rfl (look_strS rfl (fun H hs => OwnA.slM own9 hs (by first | exact List.mem_of_getElem? (i := 0) rfl | exact List.mem_of_getElem? (i := 1) rfl | exact List.mem_of_getElem? (i := 2) rfl | exact List.mem_of_getElem? (i := 3) rfl | simp)) rfl rfl rfl hb7)) rfl ?_ | refine draw_pl rfl rfl rfl rfl (.l rfl (look_strS rfl (fun H hs => OwnA.slM own9 hs (by first | exact List.mem_of_getElem? (i := 0) rfl | exact List.mem_of_getElem? (i := 1) rfl | exact List.mem_of_getElem? (i := 2) rfl | exact List.mem_of_getElem? (i := 3) rfl | simp)) rfl rfl rfl hb7)) rfl rfl ?_
  repeat (first
      | (apply draw_pl rfl rfl rfl rfl ?_ rfl rfl ?_; rotate_left; focus first | exact (.bld rfl rfl rfl rfl) | exact (.neSelf rfl rfl rfl rfl) | exact (.eqSelf rfl rfl rfl rfl) | exact (.wr64 rfl rfl (by omega) (by omega)) | exact (.wr8 rfl rfl (by omega) (by omega)) | exact (.num rfl rfl (and127_u8N (by omega))) | exact (.num rfl rfl (or128_u8N (by omega))) | exact (.num rfl rfl (and127_i64N (by omega))) | exact (.num rfl rfl (and1_i64N (by omega))) | exact (.p rfl rfl) | exact (.max2 rfl rfl rfl) | exact (.min2 rfl rfl rfl) | exact (.numL rfl (fun _ => rfl) (byte_wrap _)) | exact (.cv64 rfl (fun _ => rfl) (by omega) (by omega)) | exact (.cv8 rfl (fun _ => rfl) (by omega) (by omega)) | exact (.l rfl (fun _ _ => rfl)) | exact (.l rfl (look_own 0 rfl rfl rfl rfl)) | exact (.l rfl (look_own 1 rfl rfl rfl rfl)) | exact (.l rfl (look_own 2 rfl rfl rfl rfl)) | exact (.l rfl (look_own 3 rfl rfl rfl rfl)) | exact (.l rfl (look_own 4 rfl rfl rfl rfl)) | exact (.l rfl (look_own 5 rfl rfl rfl rfl)) | exact (.l rfl (look_own 6 rfl rfl rfl rfl)) | exact (.l rfl (look_own 7 rfl rfl rfl rfl)) | exact (.l rfl (look_agg 0 rfl rfl rfl rfl)) | exact (.l rfl (look_agg 1 rfl rfl rfl rfl)) | exact (.l rfl (look_agg 2 rfl rfl rfl rfl)) | exact (.l rfl (look_agg 3 rfl rfl rfl rfl)) | exact (.l rfl (look_agg 4 rfl rfl rfl rfl)) | exact (.l rfl (look_agg 5 rfl rfl rfl rfl)) | exact (.l rfl (look_agg 6 rfl rfl rfl rfl)) | exact (.l rfl (look_agg 7 rfl rfl rfl rfl)) | exact (.l rfl (look_str 0 rfl rfl rfl rfl rfl rfl rfl)) | exact (.l rfl (look_str 1 rfl rfl rfl rfl rfl rfl rfl)) | exact (.l rfl (look_str 2 rfl rfl rfl rfl rfl rfl rfl)) | exact (.l rfl (look_str 3 rfl rfl rfl rfl rfl rfl rfl)))
      | refine draw_skip rfl rfl rfl rfl ?_
      | refine draw_nil ?_)
  rw [show (poolB us == poolB us) = true from by simp]
  repeat (first
      | (apply draw_pl rfl rfl rfl rfl ?_ rfl rfl ?_; rotate_left; focus first | exact (.bld rfl rfl rfl rfl) | exact (.neSelf rfl rfl rfl rfl) | exact (.eqSelf rfl rfl rfl rfl) | exact (.wr64 rfl rfl (by omega) (by omega)) | exact (.wr8 rfl rfl (by omega) (by omega)) | exact (.num rfl rfl (and127_u8N (by omega))) | exact (.num rfl rfl (or128_u8N (by omega))) | exact (.num rfl rfl (and127_i64N (by omega))) | exact (.num rfl rfl (and1_i64N (by omega))) | exact (.p rfl rfl) | exact (.max2 rfl rfl rfl) | exact (.min2 rfl rfl rfl) | exact (.numL rfl (fun _ => rfl) (byte_wrap _)) | exact (.cv64 rfl (fun _ => rfl) (by omega) (by omega)) | exact (.cv8 rfl (fun _ => rfl) (by omega) (by omega)) | exact (.l rfl (fun _ _ => rfl)) | exact (.l rfl (look_own 0 rfl rfl rfl rfl)) | exact (.l rfl (look_own 1 rfl rfl rfl rfl)) | exact (.l rfl (look_own 2 rfl rfl rfl rfl)) | exact (.l rfl (look_own 3 rfl rfl rfl rfl)) | exact (.l rfl (look_own 4 rfl rfl rfl rfl)) | exact (.l rfl (look_own 5 rfl rfl rfl rfl)) | exact (.l rfl (look_own 6 rfl rfl rfl rfl)) | exact (.l rfl (look_own 7 rfl rfl rfl rfl)) | exact (.l rfl (look_agg 0 rfl rfl rfl rfl)) | exact (.l rfl (look_agg 1 rfl rfl rfl rfl)) | exact (.l rfl (look_agg 2 rfl rfl rfl rfl)) | exact (.l rfl (look_agg 3 rfl rfl rfl rfl)) | exact (.l rfl (look_agg 4 rfl rfl rfl rfl)) | exact (.l rfl (look_agg 5 rfl rfl rfl rfl)) | exact (.l rfl (look_agg 6 rfl rfl rfl rfl)) | exact (.l rfl (look_agg 7 rfl rfl rfl rfl)) | exact (.l rfl (look_str 0 rfl rfl rfl rfl rfl rfl rfl)) | exact (.l rfl (look_str 1 rfl rfl rfl rfl rfl rfl rfl)) | exact (.l rfl (look_str 2 rfl rfl rfl rfl rfl rfl rfl)) | exact (.l rfl (look_str 3 rfl rfl rfl rfl rfl rfl rfl)))
      | refine draw_skip rfl rfl rfl rfl ?_
      | refine draw_nil ?_)
  repeat (first
      | refine exec_seq ?_
      | refine exec_region ?_
      | refine exec_block ?_
      | refine exec_skip ?_
      | refine exec_exit ?_
      | refine exec_ret ?_
      | refine exec_true rfl ?_
      | refine exec_false rfl ?_
      | refine ops_nil ?_
      | (apply ops_pl rfl rfl rfl ?_ rfl ?_; rotate_left; focus first | exact (.bld rfl rfl rfl rfl) | exact (.neSelf rfl rfl rfl rfl) | exact (.eqSelf rfl rfl rfl rfl) | exact (.wr64 rfl rfl (by omega) (by omega)) | exact (.wr8 rfl rfl (by omega) (by omega)) | exact (.num rfl rfl (and127_u8N (by omega))) | exact (.num rfl rfl (or128_u8N (by omega))) | exact (.num rfl rfl (and127_i64N (by omega))) | exact (.num rfl rfl (and1_i64N (by omega))) | exact (.p rfl rfl) | exact (.max2 rfl rfl rfl) | exact (.min2 rfl rfl rfl) | exact (.numL rfl (fun _ => rfl) (byte_wrap _)) | exact (.cv64 rfl (fun _ => rfl) (by omega) (by omega)) | exact (.cv8 rfl (fun _ => rfl) (by omega) (by omega)) | exact (.l rfl (fun _ _ => rfl)) | exact (.l rfl (look_own 0 rfl rfl rfl rfl)) | exact (.l rfl (look_own 1 rfl rfl rfl rfl)) | exact (.l rfl (look_own 2 rfl rfl rfl rfl)) | exact (.l rfl (look_own 3 rfl rfl rfl rfl)) | exact (.l rfl (look_own 4 rfl rfl rfl rfl)) | exact (.l rfl (look_own 5 rfl rfl rfl rfl)) | exact (.l rfl (look_own 6 rfl rfl rfl rfl)) | exact (.l rfl (look_own 7 rfl rfl rfl rfl)) | exact (.l rfl (look_agg 0 rfl rfl rfl rfl)) | exact (.l rfl (look_agg 1 rfl rfl rfl rfl)) | exact (.l rfl (look_agg 2 rfl rfl rfl rfl)) | exact (.l rfl (look_agg 3 rfl rfl rfl rfl)) | exact (.l rfl (look_agg 4 rfl rfl rfl rfl)) | exact (.l rfl (look_agg 5 rfl rfl rfl rfl)) | exact (.l rfl (look_agg 6 rfl rfl rfl rfl)) | exact (.l rfl (look_agg 7 rfl rfl rfl rfl)) | exact (.l rfl (look_str 0 rfl rfl rfl rfl rfl rfl rfl)) | exact (.l rfl (look_str 1 rfl rfl rfl rfl rfl rfl rfl)) | exact (.l rfl (look_str 2 rfl rfl rfl rfl rfl rfl rfl)) | exact (.l rfl (look_str 3 rfl rfl rfl rfl rfl rfl rfl)))
      | refine ops_skip rfl rfl rfl ?_
      | (refine ops_step rfl rfl rfl ?_; first | (refine step_box rfl rfl rfl (fun _ => ?_)) | (refine step_alloc rfl rfl rfl rfl (fun _ => ?_)) | (refine step_buildSlice rfl rfl rfl rfl rfl (fun _ => ?_)) | (refine step_map rfl (fun _ => ?_)) | (refine step_store 0 rfl rfl rfl rfl rfl rfl rfl rfl rfl ?_) | (refine step_store 1 rfl rfl rfl rfl rfl rfl rfl rfl rfl ?_) | (refine step_store 2 rfl rfl rfl rfl rfl rfl rfl rfl rfl ?_) | (refine step_store 3 rfl rfl rfl rfl rfl rfl rfl rfl rfl ?_) | (refine step_store 4 rfl rfl rfl rfl rfl rfl rfl rfl rfl ?_) | (refine step_store 5 rfl rfl rfl rfl rfl rfl rfl rfl rfl ?_) | (refine step_store 6 rfl rfl rfl rfl rfl rfl rfl rfl rfl ?_) | (refine step_store 7 rfl rfl rfl rfl rfl rfl rfl rfl rfl ?_)))
  exact ⟨trivial, _, rfl, rfl⟩
end Go.Proofs.Ythenkjmfpilicaa

