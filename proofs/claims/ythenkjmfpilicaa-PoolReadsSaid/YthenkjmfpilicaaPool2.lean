/-
  Walks of the reader of texts and of pools.
-/
import Derived.Test.YthenkjmfpilicaaPool1
namespace Go.Proofs.Ythenkjmfpilicaa
open Go.Ev Go.Ev.Wk
set_option linter.unusedVariables false
set_option linter.unusedSimpArgs false
variable {O : Old}

theorem numGo_cases (most : Int) : ∀ (l : List UInt8) (i v : Nat), (∃ x k : Nat, numGo most l i v = ((x : Int), (k : Int), 0) ∧ i < k ∧ k ≤ i + l.length ∧ (x : Int) ≤ max most 0) ∨ ∃ e : Int, 0 < e ∧ e < 23 ∧ numGo most l i v = (0, 0, e)
  | [], i, v => .inr ⟨20, by decide, by decide, rfl⟩
  | c :: r, i, v => by
    rw [numGo]
    split
    · exact .inr ⟨21, by decide, by decide, rfl⟩
    · split
      · rcases numGo_cases most r (i + 1) (v + c.toNat % 128 * 2 ^ (7 * i)) with ⟨x, k, h1, h2, h3, h4⟩ | h
        · exact .inl ⟨x, k, h1, by omega, by rw [List.length_cons]; omega, h4⟩
        · exact .inr h
      · split
        · exact .inr ⟨22, by decide, by decide, rfl⟩
        · rename_i h
          refine .inl ⟨_, i + 1, rfl, by omega, by rw [List.length_cons]; omega, ?_⟩
          omega

theorem numR_cases (l : List UInt8) (most : Int) : (∃ x k : Nat, numR l most = ((x : Int), (k : Int), 0) ∧ 0 < k ∧ k ≤ l.length ∧ (x : Int) ≤ max most 0) ∨ ∃ e : Int, 0 < e ∧ e < 23 ∧ numR l most = (0, 0, e) := by
  rcases numGo_cases most l 0 0 with ⟨x, k, h1, h2, h3, h4⟩ | h
  · exact .inl ⟨x, k, h1, h2, by omega, h4⟩
  · exact .inr h

/-- what a text's bytes tell: the text, how many bytes there are of it, an error -/
def textR (l : List UInt8) (most : Int) : List UInt8 × Nat × Int :=
  if (numR l most).2.2 ≠ 0 then ([], 0, (numR l most).2.2)
  else if l.length < (numR l most).2.1.toNat + (numR l most).1.toNat then ([], 0, 20)
  else ((l.drop (numR l most).2.1.toNat).take (numR l most).1.toNat, (numR l most).2.1.toNat + (numR l most).1.toNat, 0)

theorem textR_cases (l : List UInt8) (most : Int) : (∃ x k : Nat, numR l most = ((x : Int), (k : Int), 0) ∧ k + x ≤ l.length ∧ 0 < k ∧ (x : Int) ≤ max most 0 ∧ textR l most = ((l.drop k).take x, k + x, 0))
    ∨ (∃ x k : Nat, numR l most = ((x : Int), (k : Int), 0) ∧ l.length < k + x ∧ k ≤ l.length ∧ (x : Int) ≤ max most 0 ∧ textR l most = ([], 0, 20)) ∨ ∃ e : Int, 0 < e ∧ e < 23 ∧ numR l most = (0, 0, e) ∧ textR l most = ([], 0, e) := by
  rcases numR_cases l most with ⟨x, k, h1, h2, h3, h4⟩ | ⟨e, h1, h2, h3⟩
  · by_cases h : l.length < k + x
    · refine .inr (.inl ⟨x, k, h1, h, h3, h4, ?_⟩)
      rw [textR, h1]
      simp [h]
    · refine .inl ⟨x, k, h1, by omega, h2, h4, ?_⟩
      rw [textR, h1]
      simp [h]
  · refine .inr (.inr ⟨e, h1, h2, h3, ?_⟩)
    rw [textR, h3]
    have : e ≠ 0 := by omega
    simp [this]

set_option maxHeartbeats 8000000 in
set_option maxRecDepth 100000 in
theorem textShort_ok {H : Heap} {rb : Nat} {a : Option Addr} {n c k x : Nat} {l : List UInt8} {most : Int} (hh : Has H rb (rdr a n c 0)) (hlt : rb < H.next) (hs0 : SlX [rb] O H (.slice a n c) 1 n (l.map by8)) (hn : n ≤ 1073741824) (hr : numR l most = ((x : Int), (k : Int), 0)) (hk : k ≤ n) (hx : n < k + x) :
    CallC TT O 28 [.pointer (some ⟨rb, 0, some 0⟩), .int .i64 most] H fun v H' => ∃ ct', ExtBut [rb] H H' ∧ Has H' rb ct' ∧ (ct' = rdr a n c 20 ∧ v = str []) := by
  refine call_mut rfl rfl rfl rfl rfl hh hlt ?_
  repeat (first
      | refine exec_seq ?_
      | refine exec_region ?_
      | refine exec_block ?_
      | refine exec_skip ?_
      | refine exec_exit ?_
      | refine exec_ret ?_
      | refine exec_true rfl ?_
      | refine exec_false rfl ?_
      | refine ops_nil ?_
      | (apply ops_pl rfl rfl rfl ?_ rfl ?_; rotate_left; focus first | exact (.bld rfl rfl rfl rfl) | exact (.neSelf rfl rfl rfl rfl) | exact (.eqSelf rfl rfl rfl rfl) | exact (.wr64 rfl rfl (by omega) (by omega)) | exact (.wr8 rfl rfl (by omega) (by omega)) | exact (.num rfl rfl (and127_u8N (by omega))) | exact (.num rfl rfl (or128_u8N (by omega))) | exact (.num rfl rfl (and127_i64N (by omega))) | exact (.num rfl rfl (and1_i64N (by omega))) | exact (.p rfl rfl) | exact (.max2 rfl rfl rfl) | exact (.min2 rfl rfl rfl) | exact (.numL rfl (fun _ => rfl) (byte_wrap _)) | exact (.cv64 rfl (fun _ => rfl) (by omega) (by omega)) | exact (.cv8 rfl (fun _ => rfl) (by omega) (by omega)) | exact (.l rfl (fun _ _ => rfl)) | exact (.l rfl (look_own 0 rfl rfl rfl rfl)) | exact (.l rfl (look_own 1 rfl rfl rfl rfl)) | exact (.l rfl (look_own 2 rfl rfl rfl rfl)) | exact (.l rfl (look_own 3 rfl rfl rfl rfl)) | exact (.l rfl (look_own 4 rfl rfl rfl rfl)) | exact (.l rfl (look_own 5 rfl rfl rfl rfl)) | exact (.l rfl (look_own 6 rfl rfl rfl rfl)) | exact (.l rfl (look_own 7 rfl rfl rfl rfl)) | exact (.l rfl (look_agg 0 rfl rfl rfl rfl)) | exact (.l rfl (look_agg 1 rfl rfl rfl rfl)) | exact (.l rfl (look_agg 2 rfl rfl rfl rfl)) | exact (.l rfl (look_agg 3 rfl rfl rfl rfl)) | exact (.l rfl (look_agg 4 rfl rfl rfl rfl)) | exact (.l rfl (look_agg 5 rfl rfl rfl rfl)) | exact (.l rfl (look_agg 6 rfl rfl rfl rfl)) | exact (.l rfl (look_agg 7 rfl rfl rfl rfl)) | exact (.l rfl (look_str 0 rfl rfl rfl rfl rfl rfl rfl)) | exact (.l rfl (look_str 1 rfl rfl rfl rfl rfl rfl rfl)) | exact (.l rfl (look_str 2 rfl rfl rfl rfl rfl rfl rfl)) | exact (.l rfl (look_str 3 rfl rfl rfl rfl rfl rfl rfl)))
      | refine ops_skip rfl rfl rfl ?_
      | (refine ops_step rfl rfl rfl ?_; first | (refine step_box rfl rfl rfl (fun _ => ?_)) | (refine step_alloc rfl rfl rfl rfl (fun _ => ?_)) | (refine step_buildSlice rfl rfl rfl rfl rfl (fun _ => ?_)) | (refine step_map rfl (fun _ => ?_)) | (refine step_store 0 rfl rfl rfl rfl rfl rfl rfl rfl rfl ?_) | (refine step_store 1 rfl rfl rfl rfl rfl rfl rfl rfl rfl ?_) | (refine step_store 2 rfl rfl rfl rfl rfl rfl rfl rfl rfl ?_) | (refine step_store 3 rfl rfl rfl rfl rfl rfl rfl rfl rfl ?_) | (refine step_store 4 rfl rfl rfl rfl rfl rfl rfl rfl rfl ?_) | (refine step_store 5 rfl rfl rfl rfl rfl rfl rfl rfl rfl ?_) | (refine step_store 6 rfl rfl rfl rfl rfl rfl rfl rfl rfl ?_) | (refine step_store 7 rfl rfl rfl rfl rfl rfl rfl rfl rfl ?_)))
  refine ops_step rfl rfl rfl (step_call_mut 0 rfl rfl rfl rfl (fun H' hs hh' hlt' => num_ok' hh' hlt' (hs0.mono hs.ext (fun _ h => h)) hn hr) (fun v ct' h => ?_))
  obtain ⟨rfl, rfl⟩ := h
  repeat (first
      | refine exec_seq ?_
      | refine exec_region ?_
      | refine exec_block ?_
      | refine exec_skip ?_
      | refine exec_exit ?_
      | refine exec_ret ?_
      | refine exec_true rfl ?_
      | refine exec_false rfl ?_
      | refine ops_nil ?_
      | (apply ops_pl rfl rfl rfl ?_ rfl ?_; rotate_left; focus first | exact (.bld rfl rfl rfl rfl) | exact (.neSelf rfl rfl rfl rfl) | exact (.eqSelf rfl rfl rfl rfl) | exact (.wr64 rfl rfl (by omega) (by omega)) | exact (.wr8 rfl rfl (by omega) (by omega)) | exact (.num rfl rfl (and127_u8N (by omega))) | exact (.num rfl rfl (or128_u8N (by omega))) | exact (.num rfl rfl (and127_i64N (by omega))) | exact (.num rfl rfl (and1_i64N (by omega))) | exact (.p rfl rfl) | exact (.max2 rfl rfl rfl) | exact (.min2 rfl rfl rfl) | exact (.numL rfl (fun _ => rfl) (byte_wrap _)) | exact (.cv64 rfl (fun _ => rfl) (by omega) (by omega)) | exact (.cv8 rfl (fun _ => rfl) (by omega) (by omega)) | exact (.l rfl (fun _ _ => rfl)) | exact (.l rfl (look_own 0 rfl rfl rfl rfl)) | exact (.l rfl (look_own 1 rfl rfl rfl rfl)) | exact (.l rfl (look_own 2 rfl rfl rfl rfl)) | exact (.l rfl (look_own 3 rfl rfl rfl rfl)) | exact (.l rfl (look_own 4 rfl rfl rfl rfl)) | exact (.l rfl (look_own 5 rfl rfl rfl rfl)) | exact (.l rfl (look_own 6 rfl rfl rfl rfl)) | exact (.l rfl (look_own 7 rfl rfl rfl rfl)) | exact (.l rfl (look_agg 0 rfl rfl rfl rfl)) | exact (.l rfl (look_agg 1 rfl rfl rfl rfl)) | exact (.l rfl (look_agg 2 rfl rfl rfl rfl)) | exact (.l rfl (look_agg 3 rfl rfl rfl rfl)) | exact (.l rfl (look_agg 4 rfl rfl rfl rfl)) | exact (.l rfl (look_agg 5 rfl rfl rfl rfl)) | exact (.l rfl (look_agg 6 rfl rfl rfl rfl)) | exact (.l rfl (look_agg 7 rfl rfl rfl rfl)) | exact (.l rfl (look_str 0 rfl rfl rfl rfl rfl rfl rfl)) | exact (.l rfl (look_str 1 rfl rfl rfl rfl rfl rfl rfl)) | exact (.l rfl (look_str 2 rfl rfl rfl rfl rfl rfl rfl)) | exact (.l rfl (look_str 3 rfl rfl rfl rfl rfl rfl rfl)))
      | refine ops_skip rfl rfl rfl ?_
      | (refine ops_step rfl rfl rfl ?_; first | (refine step_box rfl rfl rfl (fun _ => ?_)) | (refine step_alloc rfl rfl rfl rfl (fun _ => ?_)) | (refine step_buildSlice rfl rfl rfl rfl rfl (fun _ => ?_)) | (refine step_map rfl (fun _ => ?_)) | (refine step_store 0 rfl rfl rfl rfl rfl rfl rfl rfl rfl ?_) | (refine step_store 1 rfl rfl rfl rfl rfl rfl rfl rfl rfl ?_) | (refine step_store 2 rfl rfl rfl rfl rfl rfl rfl rfl rfl ?_) | (refine step_store 3 rfl rfl rfl rfl rfl rfl rfl rfl rfl ?_) | (refine step_store 4 rfl rfl rfl rfl rfl rfl rfl rfl rfl ?_) | (refine step_store 5 rfl rfl rfl rfl rfl rfl rfl rfl rfl ?_) | (refine step_store 6 rfl rfl rfl rfl rfl rfl rfl rfl rfl ?_) | (refine step_store 7 rfl rfl rfl rfl rfl rfl rfl rfl rfl ?_)))
  rw [show decide ((x : Int) > (n : Int) - (k : Int)) = true from by simp; omega]
  repeat (first
      | refine exec_seq ?_
      | refine exec_region ?_
      | refine exec_block ?_
      | refine exec_skip ?_
      | refine exec_exit ?_
      | refine exec_ret ?_
      | refine exec_true rfl ?_
      | refine exec_false rfl ?_
      | refine ops_nil ?_
      | (apply ops_pl rfl rfl rfl ?_ rfl ?_; rotate_left; focus first | exact (.bld rfl rfl rfl rfl) | exact (.neSelf rfl rfl rfl rfl) | exact (.eqSelf rfl rfl rfl rfl) | exact (.wr64 rfl rfl (by omega) (by omega)) | exact (.wr8 rfl rfl (by omega) (by omega)) | exact (.num rfl rfl (and127_u8N (by omega))) | exact (.num rfl rfl (or128_u8N (by omega))) | exact (.num rfl rfl (and127_i64N (by omega))) | exact (.num rfl rfl (and1_i64N (by omega))) | exact (.p rfl rfl) | exact (.max2 rfl rfl rfl) | exact (.min2 rfl rfl rfl) | exact (.numL rfl (fun _ => rfl) (byte_wrap _)) | exact (.cv64 rfl (fun _ => rfl) (by omega) (by omega)) | exact (.cv8 rfl (fun _ => rfl) (by omega) (by omega)) | exact (.l rfl (fun _ _ => rfl)) | exact (.l rfl (look_own 0 rfl rfl rfl rfl)) | exact (.l rfl (look_own 1 rfl rfl rfl rfl)) | exact (.l rfl (look_own 2 rfl rfl rfl rfl)) | exact (.l rfl (look_own 3 rfl rfl rfl rfl)) | exact (.l rfl (look_own 4 rfl rfl rfl rfl)) | exact (.l rfl (look_own 5 rfl rfl rfl rfl)) | exact (.l rfl (look_own 6 rfl rfl rfl rfl)) | exact (.l rfl (look_own 7 rfl rfl rfl rfl)) | exact (.l rfl (look_agg 0 rfl rfl rfl rfl)) | exact (.l rfl (look_agg 1 rfl rfl rfl rfl)) | exact (.l rfl (look_agg 2 rfl rfl rfl rfl)) | exact (.l rfl (look_agg 3 rfl rfl rfl rfl)) | exact (.l rfl (look_agg 4 rfl rfl rfl rfl)) | exact (.l rfl (look_agg 5 rfl rfl rfl rfl)) | exact (.l rfl (look_agg 6 rfl rfl rfl rfl)) | exact (.l rfl (look_agg 7 rfl rfl rfl rfl)) | exact (.l rfl (look_str 0 rfl rfl rfl rfl rfl rfl rfl)) | exact (.l rfl (look_str 1 rfl rfl rfl rfl rfl rfl rfl)) | exact (.l rfl (look_str 2 rfl rfl rfl rfl rfl rfl rfl)) | exact (.l rfl (look_str 3 rfl rfl rfl rfl rfl rfl rfl)))
      | refine ops_skip rfl rfl rfl ?_
      | (refine ops_step rfl rfl rfl ?_; first | (refine step_box rfl rfl rfl (fun _ => ?_)) | (refine step_alloc rfl rfl rfl rfl (fun _ => ?_)) | (refine step_buildSlice rfl rfl rfl rfl rfl (fun _ => ?_)) | (refine step_map rfl (fun _ => ?_)) | (refine step_store 0 rfl rfl rfl rfl rfl rfl rfl rfl rfl ?_) | (refine step_store 1 rfl rfl rfl rfl rfl rfl rfl rfl rfl ?_) | (refine step_store 2 rfl rfl rfl rfl rfl rfl rfl rfl rfl ?_) | (refine step_store 3 rfl rfl rfl rfl rfl rfl rfl rfl rfl ?_) | (refine step_store 4 rfl rfl rfl rfl rfl rfl rfl rfl rfl ?_) | (refine step_store 5 rfl rfl rfl rfl rfl rfl rfl rfl rfl ?_) | (refine step_store 6 rfl rfl rfl rfl rfl rfl rfl rfl rfl ?_) | (refine step_store 7 rfl rfl rfl rfl rfl rfl rfl rfl rfl ?_)))
  exact ⟨trivial, _, rfl, _, .head _, rfl, rfl⟩

theorem textG_ok {Hb H : Heap} {rb : Nat} {a : Option Addr} {n c : Nat} {l : List UInt8} {most : Int} (hh : Has H rb (rdr a n c 0)) (hlt : rb < H.next) (hs0 : SlX [rb] O Hb (.slice a n c) 1 n (l.map by8)) (he : ExtBut [rb] Hb H) (hn : n ≤ 1073741824) :
    CallC TT O 28 [.pointer (some ⟨rb, 0, some 0⟩), .int .i64 most] H fun v H' => ∃ ct', ExtBut [rb] H H' ∧ Has H' rb ct' ∧ ∃ a' n' c', (ct' = rdr a' n' c' (textR l most).2.2 ∧ v = str (textR l most).1 ∧ ((textR l most).2.2 = 0 → SlX [rb] O Hb (.slice a' n' c') 1 n' ((l.drop (textR l most).2.1).map by8) ∧ n' ≤ n)) := by
  have hln : l.length = n := by have := (hs0 H he).1; simpa using this
  rcases textR_cases l most with ⟨x, k, h1, h2, h3, h4, h5⟩ | ⟨x, k, h1, h2, h3, h4, h5⟩ | ⟨e, h1, h2, h3, h4⟩
  · refine (textM_ok hh hlt (hs0.mono he (fun _ h => h)) hn h1 (by omega)).mono ?_
    rintro v H' ⟨ct', g1, g2, g3, g4⟩
    refine ⟨ct', g1, g2, cutAddr a 1 c (k + x), n - (k + x), cutCap' a c (k + x), ?_⟩
    rw [h5]
    refine ⟨g3, g4, fun _ => ⟨?_, by omega⟩⟩
    have := hs0.cutM (l := k + x) (h := n) (by omega) (Nat.le_refl n)
    rw [List.take_of_length_le (by rw [List.length_drop]; omega)] at this
    exact this
  · refine (textShort_ok hh hlt (hs0.mono he (fun _ h => h)) hn h1 (by omega) (by omega)).mono ?_
    rintro v H' ⟨ct', g1, g2, g3, g4⟩
    refine ⟨ct', g1, g2, a, n, c, ?_⟩
    rw [h5]
    exact ⟨g3, g4, fun h => absurd h (by decide)⟩
  · refine (textE_ok hh hlt (hs0.mono he (fun _ h => h)) hn h3 (by omega)).mono ?_
    rintro v H' ⟨ct', g1, g2, g3, g4⟩
    refine ⟨ct', g1, g2, a, n, c, ?_⟩
    rw [h4]
    exact ⟨g3, g4, fun (h : e = 0) => absurd h (by omega)⟩

/-- what the bytes of so many texts tell: an error, the texts, what is behind -/
def readTs : Nat → List UInt8 → Int × List (List UInt8) × List UInt8
  | 0, l => (0, [], l)
  | n + 1, l => if (textR l 1000).2.2 ≠ 0 then ((textR l 1000).2.2, [], []) else ((readTs n (l.drop (textR l 1000).2.1)).1, (textR l 1000).1 :: (readTs n (l.drop (textR l 1000).2.1)).2.1, (readTs n (l.drop (textR l 1000).2.1)).2.2)

/-- the same of a pool -/
def poolR (l : List UInt8) : Int × List (List UInt8) × List UInt8 :=
  if (numR l 10000).2.2 ≠ 0 then ((numR l 10000).2.2, [], []) else readTs (numR l 10000).1.toNat (l.drop (numR l 10000).2.1.toNat)

set_option maxHeartbeats 8000000 in
set_option maxRecDepth 100000 in
theorem poolRead_ok {H : Heap} {rb : Nat} {a : Option Addr} {n c : Nat} {l : List UInt8} (hst : St (blksOf [(some rb, rdr a n c 0)]) H H [(some rb, rdr a n c 0)]) (hs0 : SlX [rb] O H (.slice a n c) 1 n (l.map by8)) (hn : n ≤ 1073741824) :
    FpC TT O 16 [.pointer (some ⟨rb, 0, some 0⟩)] H [(some rb, rdr a n c 0)] fun v F' => ∃ a' n' c' F1, F' = (some rb, rdr a' n' c' (poolR l).1) :: F1 ∧ ((poolR l).1 ≠ 0 ∧ v = .tuple #[.pointer none, .bool false] ∧ F1 = [] ∨ (poolR l).1 = 0 ∧ n' = (poolR l).2.2.length ∧ ∃ pb, v = .tuple #[.pointer (some ⟨pb, 0, some 0⟩), .bool true] ∧ PoolF pb (poolR l).2.1 F1) := by
  have hln : l.length = n := by have := (hs0 H (ExtBut.refl _ _)).1; simpa using this
  refine call_fp rfl rfl rfl rfl rfl hst ?_
  repeat (first
      | refine exec_seq ?_
      | refine exec_region ?_
      | refine exec_block ?_
      | refine exec_skip ?_
      | refine exec_exit ?_
      | refine exec_ret ?_
      | refine exec_true rfl ?_
      | refine exec_false rfl ?_
      | refine ops_nil ?_
      | (apply ops_pl rfl rfl rfl ?_ rfl ?_; rotate_left; focus first | exact (.bld rfl rfl rfl rfl) | exact (.neSelf rfl rfl rfl rfl) | exact (.eqSelf rfl rfl rfl rfl) | exact (.wr64 rfl rfl (by omega) (by omega)) | exact (.wr8 rfl rfl (by omega) (by omega)) | exact (.num rfl rfl (and127_u8N (by omega))) | exact (.num rfl rfl (or128_u8N (by omega))) | exact (.num rfl rfl (and127_i64N (by omega))) | exact (.num rfl rfl (and1_i64N (by omega))) | exact (.p rfl rfl) | exact (.max2 rfl rfl rfl) | exact (.min2 rfl rfl rfl) | exact (.numL rfl (fun _ => rfl) (byte_wrap _)) | exact (.cv64 rfl (fun _ => rfl) (by omega) (by omega)) | exact (.cv8 rfl (fun _ => rfl) (by omega) (by omega)) | exact (.l rfl (fun _ _ => rfl)) | exact (.l rfl (look_own 0 rfl rfl rfl rfl)) | exact (.l rfl (look_own 1 rfl rfl rfl rfl)) | exact (.l rfl (look_own 2 rfl rfl rfl rfl)) | exact (.l rfl (look_own 3 rfl rfl rfl rfl)) | exact (.l rfl (look_own 4 rfl rfl rfl rfl)) | exact (.l rfl (look_own 5 rfl rfl rfl rfl)) | exact (.l rfl (look_own 6 rfl rfl rfl rfl)) | exact (.l rfl (look_own 7 rfl rfl rfl rfl)) | exact (.l rfl (look_agg 0 rfl rfl rfl rfl)) | exact (.l rfl (look_agg 1 rfl rfl rfl rfl)) | exact (.l rfl (look_agg 2 rfl rfl rfl rfl)) | exact (.l rfl (look_agg 3 rfl rfl rfl rfl)) | exact (.l rfl (look_agg 4 rfl rfl rfl rfl)) | exact (.l rfl (look_agg 5 rfl rfl rfl rfl)) | exact (.l rfl (look_agg 6 rfl rfl rfl rfl)) | exact (.l rfl (look_agg 7 rfl rfl rfl rfl)) | exact (.l rfl (look_str 0 rfl rfl rfl rfl rfl rfl rfl)) | exact (.l rfl (look_str 1 rfl rfl rfl rfl rfl rfl rfl)) | exact (.l rfl (look_str 2 rfl rfl rfl rfl rfl rfl rfl)) | exact (.l rfl (look_str 3 rfl rfl rfl rfl rfl rfl rfl)))
      | refine ops_skip rfl rfl rfl ?_
      | (refine ops_step rfl rfl rfl ?_; first | (refine step_box rfl rfl rfl (fun _ => ?_)) | (refine step_alloc rfl rfl rfl rfl (fun _ => ?_)) | (refine step_buildSlice rfl rfl rfl rfl rfl (fun _ => ?_)) | (refine step_map rfl (fun _ => ?_)) | (refine step_store 0 rfl rfl rfl rfl rfl rfl rfl rfl rfl ?_) | (refine step_store 1 rfl rfl rfl rfl rfl rfl rfl rfl rfl ?_) | (refine step_store 2 rfl rfl rfl rfl rfl rfl rfl rfl rfl ?_) | (refine step_store 3 rfl rfl rfl rfl rfl rfl rfl rfl rfl ?_) | (refine step_store 4 rfl rfl rfl rfl rfl rfl rfl rfl rfl ?_) | (refine step_store 5 rfl rfl rfl rfl rfl rfl rfl rfl rfl ?_) | (refine step_store 6 rfl rfl rfl rfl rfl rfl rfl rfl rfl ?_) | (refine step_store 7 rfl rfl rfl rfl rfl rfl rfl rfl rfl ?_)))
  refine ops_step rfl rfl rfl (step_call_fp [] [_] rfl rfl rfl (List.Perm.refl _) (fun H hs hst => poolNew_ok hst) (fun v F' h => ?_))
  obtain ⟨pb, rfl, hP⟩ := h
  obtain ⟨a1, n1, c1, m1, es1, p1, rfl, own1, says1⟩ := hP
  repeat (first
      | refine exec_seq ?_
      | refine exec_region ?_
      | refine exec_block ?_
      | refine exec_skip ?_
      | refine exec_exit ?_
      | refine exec_ret ?_
      | refine exec_true rfl ?_
      | refine exec_false rfl ?_
      | refine ops_nil ?_
      | (apply ops_pl rfl rfl rfl ?_ rfl ?_; rotate_left; focus first | exact (.bld rfl rfl rfl rfl) | exact (.neSelf rfl rfl rfl rfl) | exact (.eqSelf rfl rfl rfl rfl) | exact (.wr64 rfl rfl (by omega) (by omega)) | exact (.wr8 rfl rfl (by omega) (by omega)) | exact (.num rfl rfl (and127_u8N (by omega))) | exact (.num rfl rfl (or128_u8N (by omega))) | exact (.num rfl rfl (and127_i64N (by omega))) | exact (.num rfl rfl (and1_i64N (by omega))) | exact (.p rfl rfl) | exact (.max2 rfl rfl rfl) | exact (.min2 rfl rfl rfl) | exact (.numL rfl (fun _ => rfl) (byte_wrap _)) | exact (.cv64 rfl (fun _ => rfl) (by omega) (by omega)) | exact (.cv8 rfl (fun _ => rfl) (by omega) (by omega)) | exact (.l rfl (fun _ _ => rfl)) | exact (.l rfl (look_own 0 rfl rfl rfl rfl)) | exact (.l rfl (look_own 1 rfl rfl rfl rfl)) | exact (.l rfl (look_own 2 rfl rfl rfl rfl)) | exact (.l rfl (look_own 3 rfl rfl rfl rfl)) | exact (.l rfl (look_own 4 rfl rfl rfl rfl)) | exact (.l rfl (look_own 5 rfl rfl rfl rfl)) | exact (.l rfl (look_own 6 rfl rfl rfl rfl)) | exact (.l rfl (look_own 7 rfl rfl rfl rfl)) | exact (.l rfl (look_agg 0 rfl rfl rfl rfl)) | exact (.l rfl (look_agg 1 rfl rfl rfl rfl)) | exact (.l rfl (look_agg 2 rfl rfl rfl rfl)) | exact (.l rfl (look_agg 3 rfl rfl rfl rfl)) | exact (.l rfl (look_agg 4 rfl rfl rfl rfl)) | exact (.l rfl (look_agg 5 rfl rfl rfl rfl)) | exact (.l rfl (look_agg 6 rfl rfl rfl rfl)) | exact (.l rfl (look_agg 7 rfl rfl rfl rfl)) | exact (.l rfl (look_str 0 rfl rfl rfl rfl rfl rfl rfl)) | exact (.l rfl (look_str 1 rfl rfl rfl rfl rfl rfl rfl)) | exact (.l rfl (look_str 2 rfl rfl rfl rfl rfl rfl rfl)) | exact (.l rfl (look_str 3 rfl rfl rfl rfl rfl rfl rfl)))
      | refine ops_skip rfl rfl rfl ?_
      | (refine ops_step rfl rfl rfl ?_; first | (refine step_box rfl rfl rfl (fun _ => ?_)) | (refine step_alloc rfl rfl rfl rfl (fun _ => ?_)) | (refine step_buildSlice rfl rfl rfl rfl rfl (fun _ => ?_)) | (refine step_map rfl (fun _ => ?_)) | (refine step_store 0 rfl rfl rfl rfl rfl rfl rfl rfl rfl ?_) | (refine step_store 1 rfl rfl rfl rfl rfl rfl rfl rfl rfl ?_) | (refine step_store 2 rfl rfl rfl rfl rfl rfl rfl rfl rfl ?_) | (refine step_store 3 rfl rfl rfl rfl rfl rfl rfl rfl rfl ?_) | (refine step_store 4 rfl rfl rfl rfl rfl rfl rfl rfl rfl ?_) | (refine step_store 5 rfl rfl rfl rfl rfl rfl rfl rfl rfl ?_) | (refine step_store 6 rfl rfl rfl rfl rfl rfl rfl rfl rfl ?_) | (refine step_store 7 rfl rfl rfl rfl rfl rfl rfl rfl rfl ?_)))
  refine OpsS.perm (L' := [(some rb, rdr a n c 0), (some pb, .cells 0 [.slice a1 n1 c1, .map (some m1)] 0 58), (some m1, .map es1), p1]) (List.perm_append_comm (l₁ := [_, _, _])) ?_
  obtain ⟨x, k, e, hr, hk, hx, he0, hbig⟩ : ∃ (x k : Nat) (e : Int), numR l 10000 = ((x : Int), (k : Int), e) ∧ k ≤ n ∧ x ≤ 10000 ∧ 0 ≤ e ∧ poolR l = if e ≠ 0 then (e, [], []) else readTs x (l.drop k) := by
    rcases numR_cases l 10000 with ⟨x, k, h1, h2, h3, h4⟩ | ⟨e, h1, h2, h3⟩
    · exact ⟨x, k, 0, h1, by omega, by omega, by decide, by rw [poolR, h1]; rfl⟩
    · exact ⟨0, 0, e, h3, by omega, by omega, by omega, by rw [poolR, h3]; simp⟩
  repeat (first
      | refine exec_seq ?_
      | refine exec_region ?_
      | refine exec_block ?_
      | refine exec_skip ?_
      | refine exec_exit ?_
      | refine exec_ret ?_
      | refine exec_true rfl ?_
      | refine exec_false rfl ?_
      | refine ops_nil ?_
      | (apply ops_pl rfl rfl rfl ?_ rfl ?_; rotate_left; focus first | exact (.bld rfl rfl rfl rfl) | exact (.neSelf rfl rfl rfl rfl) | exact (.eqSelf rfl rfl rfl rfl) | exact (.wr64 rfl rfl (by omega) (by omega)) | exact (.wr8 rfl rfl (by omega) (by omega)) | exact (.num rfl rfl (and127_u8N (by omega))) | exact (.num rfl rfl (or128_u8N (by omega))) | exact (.num rfl rfl (and127_i64N (by omega))) | exact (.num rfl rfl (and1_i64N (by omega))) | exact (.p rfl rfl) | exact (.max2 rfl rfl rfl) | exact (.min2 rfl rfl rfl) | exact (.numL rfl (fun _ => rfl) (byte_wrap _)) | exact (.cv64 rfl (fun _ => rfl) (by omega) (by omega)) | exact (.cv8 rfl (fun _ => rfl) (by omega) (by omega)) | exact (.l rfl (fun _ _ => rfl)) | exact (.l rfl (look_own 0 rfl rfl rfl rfl)) | exact (.l rfl (look_own 1 rfl rfl rfl rfl)) | exact (.l rfl (look_own 2 rfl rfl rfl rfl)) | exact (.l rfl (look_own 3 rfl rfl rfl rfl)) | exact (.l rfl (look_own 4 rfl rfl rfl rfl)) | exact (.l rfl (look_own 5 rfl rfl rfl rfl)) | exact (.l rfl (look_own 6 rfl rfl rfl rfl)) | exact (.l rfl (look_own 7 rfl rfl rfl rfl)) | exact (.l rfl (look_agg 0 rfl rfl rfl rfl)) | exact (.l rfl (look_agg 1 rfl rfl rfl rfl)) | exact (.l rfl (look_agg 2 rfl rfl rfl rfl)) | exact (.l rfl (look_agg 3 rfl rfl rfl rfl)) | exact (.l rfl (look_agg 4 rfl rfl rfl rfl)) | exact (.l rfl (look_agg 5 rfl rfl rfl rfl)) | exact (.l rfl (look_agg 6 rfl rfl rfl rfl)) | exact (.l rfl (look_agg 7 rfl rfl rfl rfl)) | exact (.l rfl (look_str 0 rfl rfl rfl rfl rfl rfl rfl)) | exact (.l rfl (look_str 1 rfl rfl rfl rfl rfl rfl rfl)) | exact (.l rfl (look_str 2 rfl rfl rfl rfl rfl rfl rfl)) | exact (.l rfl (look_str 3 rfl rfl rfl rfl rfl rfl rfl)))
      | refine ops_skip rfl rfl rfl ?_
      | (refine ops_step rfl rfl rfl ?_; first | (refine step_box rfl rfl rfl (fun _ => ?_)) | (refine step_alloc rfl rfl rfl rfl (fun _ => ?_)) | (refine step_buildSlice rfl rfl rfl rfl rfl (fun _ => ?_)) | (refine step_map rfl (fun _ => ?_)) | (refine step_store 0 rfl rfl rfl rfl rfl rfl rfl rfl rfl ?_) | (refine step_store 1 rfl rfl rfl rfl rfl rfl rfl rfl rfl ?_) | (refine step_store 2 rfl rfl rfl rfl rfl rfl rfl rfl rfl ?_) | (refine step_store 3 rfl rfl rfl rfl rfl rfl rfl rfl rfl ?_) | (refine step_store 4 rfl rfl rfl rfl rfl rfl rfl rfl rfl ?_) | (refine step_store 5 rfl rfl rfl rfl rfl rfl rfl rfl rfl ?_) | (refine step_store 6 rfl rfl rfl rfl rfl rfl rfl rfl rfl ?_) | (refine step_store 7 rfl rfl rfl rfl rfl rfl rfl rfl rfl ?_)))
  refine ops_step rfl rfl rfl (step_call_mut 0 rfl rfl rfl rfl (fun H hs hh hlt => numM_ok hh hlt (hs0.mono hs.ext (fun _ h => h)) hn hr) (fun v ct h => ?_))
  obtain ⟨rfl, rfl⟩ := h
  repeat (first
      | refine exec_seq ?_
      | refine exec_region ?_
      | refine exec_block ?_
      | refine exec_skip ?_
      | refine exec_exit ?_
      | refine exec_ret ?_
      | refine exec_true rfl ?_
      | refine exec_false rfl ?_
      | refine ops_nil ?_
      | (apply ops_pl rfl rfl rfl ?_ rfl ?_; rotate_left; focus first | exact (.bld rfl rfl rfl rfl) | exact (.neSelf rfl rfl rfl rfl) | exact (.eqSelf rfl rfl rfl rfl) | exact (.wr64 rfl rfl (by omega) (by omega)) | exact (.wr8 rfl rfl (by omega) (by omega)) | exact (.num rfl rfl (and127_u8N (by omega))) | exact (.num rfl rfl (or128_u8N (by omega))) | exact (.num rfl rfl (and127_i64N (by omega))) | exact (.num rfl rfl (and1_i64N (by omega))) | exact (.p rfl rfl) | exact (.max2 rfl rfl rfl) | exact (.min2 rfl rfl rfl) | exact (.numL rfl (fun _ => rfl) (byte_wrap _)) | exact (.cv64 rfl (fun _ => rfl) (by omega) (by omega)) | exact (.cv8 rfl (fun _ => rfl) (by omega) (by omega)) | exact (.l rfl (fun _ _ => rfl)) | exact (.l rfl (look_own 0 rfl rfl rfl rfl)) | exact (.l rfl (look_own 1 rfl rfl rfl rfl)) | exact (.l rfl (look_own 2 rfl rfl rfl rfl)) | exact (.l rfl (look_own 3 rfl rfl rfl rfl)) | exact (.l rfl (look_own 4 rfl rfl rfl rfl)) | exact (.l rfl (look_own 5 rfl rfl rfl rfl)) | exact (.l rfl (look_own 6 rfl rfl rfl rfl)) | exact (.l rfl (look_own 7 rfl rfl rfl rfl)) | exact (.l rfl (look_agg 0 rfl rfl rfl rfl)) | exact (.l rfl (look_agg 1 rfl rfl rfl rfl)) | exact (.l rfl (look_agg 2 rfl rfl rfl rfl)) | exact (.l rfl (look_agg 3 rfl rfl rfl rfl)) | exact (.l rfl (look_agg 4 rfl rfl rfl rfl)) | exact (.l rfl (look_agg 5 rfl rfl rfl rfl)) | exact (.l rfl (look_agg 6 rfl rfl rfl rfl)) | exact (.l rfl (look_agg 7 rfl rfl rfl rfl)) | exact (.l rfl (look_str 0 rfl rfl rfl rfl rfl rfl rfl)) | exact (.l rfl (look_str 1 rfl rfl rfl rfl rfl rfl rfl)) | exact (.l rfl (look_str 2 rfl rfl rfl rfl rfl rfl rfl)) | exact (.l rfl (look_str 3 rfl rfl rfl rfl rfl rfl rfl)))
      | refine ops_skip rfl rfl rfl ?_
      | (refine ops_step rfl rfl rfl ?_; first | (refine step_box rfl rfl rfl (fun _ => ?_)) | (refine step_alloc rfl rfl rfl rfl (fun _ => ?_)) | (refine step_buildSlice rfl rfl rfl rfl rfl (fun _ => ?_)) | (refine step_map rfl (fun _ => ?_)) | (refine step_store 0 rfl rfl rfl rfl rfl rfl rfl rfl rfl ?_) | (refine step_store 1 rfl rfl rfl rfl rfl rfl rfl rfl rfl ?_) | (refine step_store 2 rfl rfl rfl rfl rfl rfl rfl rfl rfl ?_) | (refine step_store 3 rfl rfl rfl rfl rfl rfl rfl rfl rfl ?_) | (refine step_store 4 rfl rfl rfl rfl rfl rfl rfl rfl rfl ?_) | (refine step_store 5 rfl rfl rfl rfl rfl rfl rfl rfl rfl ?_) | (refine step_store 6 rfl rfl rfl rfl rfl rfl rfl rfl rfl ?_) | (refine step_store 7 rfl rfl rfl rfl rfl rfl rfl rfl rfl ?_)))
  refine ExecS.weak (E' := [(0, .pointer (some ⟨rb, 0, some 0⟩)), (4, .pointer (some ⟨pb, 0, some 0⟩)), (5, .int .i64 ((x : Nat) : Int))]) (L' := (some rb, rdr (cutAddr a 1 c k) (n - k) (cutCap' a c k) e) :: [(some pb, .cells 0 [.slice a1 n1 c1, .map (some m1)] 0 58), (some m1, .map es1), p1]) ⟨rfl, rfl, rfl, trivial⟩ (.refl _) ?_
  refine exec_loop (fun q E L => ∃ (n' c' : Nat) (a' : Option Addr) (e' : Int) (ts : List (List UInt8)) (F1 : Atoms), ts.length + q ≤ 10000 ∧ PoolF pb ts F1 ∧ E = [(0, .pointer (some ⟨rb, 0, some 0⟩)), (4, .pointer (some ⟨pb, 0, some 0⟩)), (5, .int .i64 (q : Int))] ∧ L = (some rb, rdr a' n' c' e') :: F1 ∧
    (e' ≠ 0 ∧ (poolR l).1 = e' ∨ e' = 0 ∧ ∃ l' r, SlX [rb] O H (.slice a' n' c') 1 n' (l'.map by8) ∧ n' ≤ n ∧ readTs q l' = r ∧ (poolR l).1 = r.1 ∧ (r.1 = 0 → poolR l = (0, ts ++ r.2.1, r.2.2)))) ?_ x _ _ ⟨_, _, _, e, [], _, by simpa using hx, ⟨_, _, _, _, _, _, rfl, own1, says1⟩, rfl, rfl, ?_⟩
  rotate_left
  · by_cases h : e = 0
    · subst h
      refine .inr ⟨rfl, l.drop k, _, ?_, by omega, rfl, ?_, ?_⟩
      · have := hs0.cutM (l := k) (h := n) (by omega) (Nat.le_refl n)
        rw [List.take_of_length_le (by rw [List.length_drop]; omega)] at this
        exact this
      · rw [hbig]; simp
      · intro h; rw [hbig]; simp at h ⊢; rw [← h]
    · exact .inl ⟨h, by rw [hbig]; simp [h]⟩
  clear own1 says1 hr hk hx he0 hbig x k e a1 n1 c1 m1 es1 p1
  rintro q E L ⟨n', c', a', e', ts, F1, hq, hP, rfl, rfl, hinv⟩
  obtain ⟨a1, n1, c1, m1, es1, p1, rfl, own1, says1⟩ := hP
  have hP : PoolF pb ts [(some pb, .cells 0 [.slice a1 n1 c1, .map (some m1)] 0 58), (some m1, .map es1), p1] := ⟨_, _, _, _, _, _, rfl, own1, says1⟩
  by_cases he : e' = 0
  · subst he
    obtain ⟨l', r, hs1, hn1, hr1, hr0, hr2⟩ := (hinv.resolve_left (by simp)).2
    clear hinv
    by_cases hq0 : q = 0
    · subst hq0
      subst hr1
      repeat (first
          | refine exec_seq ?_
          | refine exec_region ?_
          | refine exec_block ?_
          | refine exec_skip ?_
          | refine exec_exit ?_
          | refine exec_ret ?_
          | refine exec_true rfl ?_
          | refine exec_false rfl ?_
          | refine ops_nil ?_
          | (apply ops_pl rfl rfl rfl ?_ rfl ?_; rotate_left; focus first | exact (.bld rfl rfl rfl rfl) | exact (.neSelf rfl rfl rfl rfl) | exact (.eqSelf rfl rfl rfl rfl) | exact (.wr64 rfl rfl (by omega) (by omega)) | exact (.wr8 rfl rfl (by omega) (by omega)) | exact (.num rfl rfl (and127_u8N (by omega))) | exact (.num rfl rfl (or128_u8N (by omega))) | exact (.num rfl rfl (and127_i64N (by omega))) | exact (.num rfl rfl (and1_i64N (by omega))) | exact (.p rfl rfl) | exact (.max2 rfl rfl rfl) | exact (.min2 rfl rfl rfl) | exact (.numL rfl (fun _ => rfl) (byte_wrap _)) | exact (.cv64 rfl (fun _ => rfl) (by omega) (by omega)) | exact (.cv8 rfl (fun _ => rfl) (by omega) (by omega)) | exact (.l rfl (fun _ _ => rfl)) | exact (.l rfl (look_own 0 rfl rfl rfl rfl)) | exact (.l rfl (look_own 1 rfl rfl rfl rfl)) | exact (.l rfl (look_own 2 rfl rfl rfl rfl)) | exact (.l rfl (look_own 3 rfl rfl rfl rfl)) | exact (.l rfl (look_own 4 rfl rfl rfl rfl)) | exact (.l rfl (look_own 5 rfl rfl rfl rfl)) | exact (.l rfl (look_own 6 rfl rfl rfl rfl)) | exact (.l rfl (look_own 7 rfl rfl rfl rfl)) | exact (.l rfl (look_agg 0 rfl rfl rfl rfl)) | exact (.l rfl (look_agg 1 rfl rfl rfl rfl)) | exact (.l rfl (look_agg 2 rfl rfl rfl rfl)) | exact (.l rfl (look_agg 3 rfl rfl rfl rfl)) | exact (.l rfl (look_agg 4 rfl rfl rfl rfl)) | exact (.l rfl (look_agg 5 rfl rfl rfl rfl)) | exact (.l rfl (look_agg 6 rfl rfl rfl rfl)) | exact (.l rfl (look_agg 7 rfl rfl rfl rfl)) | exact (.l rfl (look_str 0 rfl rfl rfl rfl rfl rfl rfl)) | exact (.l rfl (look_str 1 rfl rfl rfl rfl rfl rfl rfl)) | exact (.l rfl (look_str 2 rfl rfl rfl rfl rfl rfl rfl)) | exact (.l rfl (look_str 3 rfl rfl rfl rfl rfl rfl rfl)))
          | refine ops_skip rfl rfl rfl ?_
          | (refine ops_step rfl rfl rfl ?_; first | (refine step_box rfl rfl rfl (fun _ => ?_)) | (refine step_alloc rfl rfl rfl rfl (fun _ => ?_)) | (refine step_buildSlice rfl rfl rfl rfl rfl (fun _ => ?_)) | (refine step_map rfl (fun _ => ?_)) | (refine step_store 0 rfl rfl rfl rfl rfl rfl rfl rfl rfl ?_) | (refine step_store 1 rfl rfl rfl rfl rfl rfl rfl rfl rfl ?_) | (refine step_store 2 rfl rfl rfl rfl rfl rfl rfl rfl rfl ?_) | (refine step_store 3 rfl rfl rfl rfl rfl rfl rfl rfl rfl ?_) | (refine step_store 4 rfl rfl rfl rfl rfl rfl rfl rfl rfl ?_) | (refine step_store 5 rfl rfl rfl rfl rfl rfl rfl rfl rfl ?_) | (refine step_store 6 rfl rfl rfl rfl rfl rfl rfl rfl rfl ?_) | (refine step_store 7 rfl rfl rfl rfl rfl rfl rfl rfl rfl ?_)))
      refine ops_step rfl rfl rfl (step_call_mut 0 rfl rfl rfl rfl (fun H hs hh hlt => err_ok hh hlt) (fun v ct h => ?_))
      obtain ⟨rfl, rfl⟩ := h
      repeat (first
          | refine exec_seq ?_
          | refine exec_region ?_
          | refine exec_block ?_
          | refine exec_skip ?_
          | refine exec_exit ?_
          | refine exec_ret ?_
          | refine exec_true rfl ?_
          | refine exec_false rfl ?_
          | refine ops_nil ?_
          | (apply ops_pl rfl rfl rfl ?_ rfl ?_; rotate_left; focus first | exact (.bld rfl rfl rfl rfl) | exact (.neSelf rfl rfl rfl rfl) | exact (.eqSelf rfl rfl rfl rfl) | exact (.wr64 rfl rfl (by omega) (by omega)) | exact (.wr8 rfl rfl (by omega) (by omega)) | exact (.num rfl rfl (and127_u8N (by omega))) | exact (.num rfl rfl (or128_u8N (by omega))) | exact (.num rfl rfl (and127_i64N (by omega))) | exact (.num rfl rfl (and1_i64N (by omega))) | exact (.p rfl rfl) | exact (.max2 rfl rfl rfl) | exact (.min2 rfl rfl rfl) | exact (.numL rfl (fun _ => rfl) (byte_wrap _)) | exact (.cv64 rfl (fun _ => rfl) (by omega) (by omega)) | exact (.cv8 rfl (fun _ => rfl) (by omega) (by omega)) | exact (.l rfl (fun _ _ => rfl)) | exact (.l rfl (look_own 0 rfl rfl rfl rfl)) | exact (.l rfl (look_own 1 rfl rfl rfl rfl)) | exact (.l rfl (look_own 2 rfl rfl rfl rfl)) | exact (.l rfl (look_own 3 rfl rfl rfl rfl)) | exact (.l rfl (look_own 4 rfl rfl rfl rfl)) | exact (.l rfl (look_own 5 rfl rfl rfl rfl)) | exact (.l rfl (look_own 6 rfl rfl rfl rfl)) | exact (.l rfl (look_own 7 rfl rfl rfl rfl)) | exact (.l rfl (look_agg 0 rfl rfl rfl rfl)) | exact (.l rfl (look_agg 1 rfl rfl rfl rfl)) | exact (.l rfl (look_agg 2 rfl rfl rfl rfl)) | exact (.l rfl (look_agg 3 rfl rfl rfl rfl)) | exact (.l rfl (look_agg 4 rfl rfl rfl rfl)) | exact (.l rfl (look_agg 5 rfl rfl rfl rfl)) | exact (.l rfl (look_agg 6 rfl rfl rfl rfl)) | exact (.l rfl (look_agg 7 rfl rfl rfl rfl)) | exact (.l rfl (look_str 0 rfl rfl rfl rfl rfl rfl rfl)) | exact (.l rfl (look_str 1 rfl rfl rfl rfl rfl rfl rfl)) | exact (.l rfl (look_str 2 rfl rfl rfl rfl rfl rfl rfl)) | exact (.l rfl (look_str 3 rfl rfl rfl rfl rfl rfl rfl)))
          | refine ops_skip rfl rfl rfl ?_
          | (refine ops_step rfl rfl rfl ?_; first | (refine step_box rfl rfl rfl (fun _ => ?_)) | (refine step_alloc rfl rfl rfl rfl (fun _ => ?_)) | (refine step_buildSlice rfl rfl rfl rfl rfl (fun _ => ?_)) | (refine step_map rfl (fun _ => ?_)) | (refine step_store 0 rfl rfl rfl rfl rfl rfl rfl rfl rfl ?_) | (refine step_store 1 rfl rfl rfl rfl rfl rfl rfl rfl rfl ?_) | (refine step_store 2 rfl rfl rfl rfl rfl rfl rfl rfl rfl ?_) | (refine step_store 3 rfl rfl rfl rfl rfl rfl rfl rfl rfl ?_) | (refine step_store 4 rfl rfl rfl rfl rfl rfl rfl rfl rfl ?_) | (refine step_store 5 rfl rfl rfl rfl rfl rfl rfl rfl rfl ?_) | (refine step_store 6 rfl rfl rfl rfl rfl rfl rfl rfl rfl ?_) | (refine step_store 7 rfl rfl rfl rfl rfl rfl rfl rfl rfl ?_)))
      have hp : poolR l = (0, ts, l') := by rw [hr2 rfl]; simp [readTs]
      have hl' : l'.length = n' := by have := (hs1 H (ExtBut.refl _ _)).1; simpa using this
      rw [hp]
      exact ⟨trivial, _, rfl, _, [], List.Perm.of_eq (List.append_nil _).symm, _, _, _, _, rfl, .inr ⟨rfl, hl'.symm, pb, rfl, hP⟩⟩
    · obtain ⟨k, rfl⟩ : ∃ k, q = k + 1 := ⟨q - 1, by omega⟩
      repeat (first
          | refine exec_seq ?_
          | refine exec_region ?_
          | refine exec_block ?_
          | refine exec_skip ?_
          | refine exec_exit ?_
          | refine exec_ret ?_
          | refine exec_true rfl ?_
          | refine exec_false rfl ?_
          | refine ops_nil ?_
          | (apply ops_pl rfl rfl rfl ?_ rfl ?_; rotate_left; focus first | exact (.bld rfl rfl rfl rfl) | exact (.neSelf rfl rfl rfl rfl) | exact (.eqSelf rfl rfl rfl rfl) | exact (.wr64 rfl rfl (by omega) (by omega)) | exact (.wr8 rfl rfl (by omega) (by omega)) | exact (.num rfl rfl (and127_u8N (by omega))) | exact (.num rfl rfl (or128_u8N (by omega))) | exact (.num rfl rfl (and127_i64N (by omega))) | exact (.num rfl rfl (and1_i64N (by omega))) | exact (.p rfl rfl) | exact (.max2 rfl rfl rfl) | exact (.min2 rfl rfl rfl) | exact (.numL rfl (fun _ => rfl) (byte_wrap _)) | exact (.cv64 rfl (fun _ => rfl) (by omega) (by omega)) | exact (.cv8 rfl (fun _ => rfl) (by omega) (by omega)) | exact (.l rfl (fun _ _ => rfl)) | exact (.l rfl (look_own 0 rfl rfl rfl rfl)) | exact (.l rfl (look_own 1 rfl rfl rfl rfl)) | exact (.l rfl (look_own 2 rfl rfl rfl rfl)) | exact (.l rfl (look_own 3 rfl rfl rfl rfl)) | exact (.l rfl (look_own 4 rfl rfl rfl rfl)) | exact (.l rfl (look_own 5 rfl rfl rfl rfl)) | exact (.l rfl (look_own 6 rfl rfl rfl rfl)) | exact (.l rfl (look_own 7 rfl rfl rfl rfl)) | exact (.l rfl (look_agg 0 rfl rfl rfl rfl)) | exact (.l rfl (look_agg 1 rfl rfl rfl rfl)) | exact (.l rfl (look_agg 2 rfl rfl rfl rfl)) | exact (.l rfl (look_agg 3 rfl rfl rfl rfl)) | exact (.l rfl (look_agg 4 rfl rfl rfl rfl)) | exact (.l rfl (look_agg 5 rfl rfl rfl rfl)) | exact (.l rfl (look_agg 6 rfl rfl rfl rfl)) | exact (.l rfl (look_agg 7 rfl rfl rfl rfl)) | exact (.l rfl (look_str 0 rfl rfl rfl rfl rfl rfl rfl)) | exact (.l rfl (look_str 1 rfl rfl rfl rfl rfl rfl rfl)) | exact (.l rfl (look_str 2 rfl rfl rfl rfl rfl rfl rfl)) | exact (.l rfl (look_str 3 rfl rfl rfl rfl rfl rfl rfl)))
          | refine ops_skip rfl rfl rfl ?_
          | (refine ops_step rfl rfl rfl ?_; first | (refine step_box rfl rfl rfl (fun _ => ?_)) | (refine step_alloc rfl rfl rfl rfl (fun _ => ?_)) | (refine step_buildSlice rfl rfl rfl rfl rfl (fun _ => ?_)) | (refine step_map rfl (fun _ => ?_)) | (refine step_store 0 rfl rfl rfl rfl rfl rfl rfl rfl rfl ?_) | (refine step_store 1 rfl rfl rfl rfl rfl rfl rfl rfl rfl ?_) | (refine step_store 2 rfl rfl rfl rfl rfl rfl rfl rfl rfl ?_) | (refine step_store 3 rfl rfl rfl rfl rfl rfl rfl rfl rfl ?_) | (refine step_store 4 rfl rfl rfl rfl rfl rfl rfl rfl rfl ?_) | (refine step_store 5 rfl rfl rfl rfl rfl rfl rfl rfl rfl ?_) | (refine step_store 6 rfl rfl rfl rfl rfl rfl rfl rfl rfl ?_) | (refine step_store 7 rfl rfl rfl rfl rfl rfl rfl rfl rfl ?_)))
      rw [show decide (((k + 1 : Nat) : Int) > 0) = true from by simp]
      repeat (first
          | refine exec_seq ?_
          | refine exec_region ?_
          | refine exec_block ?_
          | refine exec_skip ?_
          | refine exec_exit ?_
          | refine exec_ret ?_
          | refine exec_true rfl ?_
          | refine exec_false rfl ?_
          | refine ops_nil ?_
          | (apply ops_pl rfl rfl rfl ?_ rfl ?_; rotate_left; focus first | exact (.bld rfl rfl rfl rfl) | exact (.neSelf rfl rfl rfl rfl) | exact (.eqSelf rfl rfl rfl rfl) | exact (.wr64 rfl rfl (by omega) (by omega)) | exact (.wr8 rfl rfl (by omega) (by omega)) | exact (.num rfl rfl (and127_u8N (by omega))) | exact (.num rfl rfl (or128_u8N (by omega))) | exact (.num rfl rfl (and127_i64N (by omega))) | exact (.num rfl rfl (and1_i64N (by omega))) | exact (.p rfl rfl) | exact (.max2 rfl rfl rfl) | exact (.min2 rfl rfl rfl) | exact (.numL rfl (fun _ => rfl) (byte_wrap _)) | exact (.cv64 rfl (fun _ => rfl) (by omega) (by omega)) | exact (.cv8 rfl (fun _ => rfl) (by omega) (by omega)) | exact (.l rfl (fun _ _ => rfl)) | exact (.l rfl (look_own 0 rfl rfl rfl rfl)) | exact (.l rfl (look_own 1 rfl rfl rfl rfl)) | exact (.l rfl (look_own 2 rfl rfl rfl rfl)) | exact (.l rfl (look_own 3 rfl rfl rfl rfl)) | exact (.l rfl (look_own 4 rfl rfl rfl rfl)) | exact (.l rfl (look_own 5 rfl rfl rfl rfl)) | exact (.l rfl (look_own 6 rfl rfl rfl rfl)) | exact (.l rfl (look_own 7 rfl rfl rfl rfl)) | exact (.l rfl (look_agg 0 rfl rfl rfl rfl)) | exact (.l rfl (look_agg 1 rfl rfl rfl rfl)) | exact (.l rfl (look_agg 2 rfl rfl rfl rfl)) | exact (.l rfl (look_agg 3 rfl rfl rfl rfl)) | exact (.l rfl (look_agg 4 rfl rfl rfl rfl)) | exact (.l rfl (look_agg 5 rfl rfl rfl rfl)) | exact (.l rfl (look_agg 6 rfl rfl rfl rfl)) | exact (.l rfl (look_agg 7 rfl rfl rfl rfl)) | exact (.l rfl (look_str 0 rfl rfl rfl rfl rfl rfl rfl)) | exact (.l rfl (look_str 1 rfl rfl rfl rfl rfl rfl rfl)) | exact (.l rfl (look_str 2 rfl rfl rfl rfl rfl rfl rfl)) | exact (.l rfl (look_str 3 rfl rfl rfl rfl rfl rfl rfl)))
          | refine ops_skip rfl rfl rfl ?_
          | (refine ops_step rfl rfl rfl ?_; first | (refine step_box rfl rfl rfl (fun _ => ?_)) | (refine step_alloc rfl rfl rfl rfl (fun _ => ?_)) | (refine step_buildSlice rfl rfl rfl rfl rfl (fun _ => ?_)) | (refine step_map rfl (fun _ => ?_)) | (refine step_store 0 rfl rfl rfl rfl rfl rfl rfl rfl rfl ?_) | (refine step_store 1 rfl rfl rfl rfl rfl rfl rfl rfl rfl ?_) | (refine step_store 2 rfl rfl rfl rfl rfl rfl rfl rfl rfl ?_) | (refine step_store 3 rfl rfl rfl rfl rfl rfl rfl rfl rfl ?_) | (refine step_store 4 rfl rfl rfl rfl rfl rfl rfl rfl rfl ?_) | (refine step_store 5 rfl rfl rfl rfl rfl rfl rfl rfl rfl ?_) | (refine step_store 6 rfl rfl rfl rfl rfl rfl rfl rfl rfl ?_) | (refine step_store 7 rfl rfl rfl rfl rfl rfl rfl rfl rfl ?_)))
      refine ops_step rfl rfl rfl (step_call_mut 0 rfl rfl rfl rfl (fun H hs hh hlt => err_ok hh hlt) (fun v ct h => ?_))
      obtain ⟨rfl, rfl⟩ := h
      repeat (first
          | refine exec_seq ?_
          | refine exec_region ?_
          | refine exec_block ?_
          | refine exec_skip ?_
          | refine exec_exit ?_
          | refine exec_ret ?_
          | refine exec_true rfl ?_
          | refine exec_false rfl ?_
          | refine ops_nil ?_
          | (apply ops_pl rfl rfl rfl ?_ rfl ?_; rotate_left; focus first | exact (.bld rfl rfl rfl rfl) | exact (.neSelf rfl rfl rfl rfl) | exact (.eqSelf rfl rfl rfl rfl) | exact (.wr64 rfl rfl (by omega) (by omega)) | exact (.wr8 rfl rfl (by omega) (by omega)) | exact (.num rfl rfl (and127_u8N (by omega))) | exact (.num rfl rfl (or128_u8N (by omega))) | exact (.num rfl rfl (and127_i64N (by omega))) | exact (.num rfl rfl (and1_i64N (by omega))) | exact (.p rfl rfl) | exact (.max2 rfl rfl rfl) | exact (.min2 rfl rfl rfl) | exact (.numL rfl (fun _ => rfl) (byte_wrap _)) | exact (.cv64 rfl (fun _ => rfl) (by omega) (by omega)) | exact (.cv8 rfl (fun _ => rfl) (by omega) (by omega)) | exact (.l rfl (fun _ _ => rfl)) | exact (.l rfl (look_own 0 rfl rfl rfl rfl)) | exact (.l rfl (look_own 1 rfl rfl rfl rfl)) | exact (.l rfl (look_own 2 rfl rfl rfl rfl)) | exact (.l rfl (look_own 3 rfl rfl rfl rfl)) | exact (.l rfl (look_own 4 rfl rfl rfl rfl)) | exact (.l rfl (look_own 5 rfl rfl rfl rfl)) | exact (.l rfl (look_own 6 rfl rfl rfl rfl)) | exact (.l rfl (look_own 7 rfl rfl rfl rfl)) | exact (.l rfl (look_agg 0 rfl rfl rfl rfl)) | exact (.l rfl (look_agg 1 rfl rfl rfl rfl)) | exact (.l rfl (look_agg 2 rfl rfl rfl rfl)) | exact (.l rfl (look_agg 3 rfl rfl rfl rfl)) | exact (.l rfl (look_agg 4 rfl rfl rfl rfl)) | exact (.l rfl (look_agg 5 rfl rfl rfl rfl)) | exact (.l rfl (look_agg 6 rfl rfl rfl rfl)) | exact (.l rfl (look_agg 7 rfl rfl rfl rfl)) | exact (.l rfl (look_str 0 rfl rfl rfl rfl rfl rfl rfl)) | exact (.l rfl (look_str 1 rfl rfl rfl rfl rfl rfl rfl)) | exact (.l rfl (look_str 2 rfl rfl rfl rfl rfl rfl rfl)) | exact (.l rfl (look_str 3 rfl rfl rfl rfl rfl rfl rfl)))
          | refine ops_skip rfl rfl rfl ?_
          | (refine ops_step rfl rfl rfl ?_; first | (refine step_box rfl rfl rfl (fun _ => ?_)) | (refine step_alloc rfl rfl rfl rfl (fun _ => ?_)) | (refine step_buildSlice rfl rfl rfl rfl rfl (fun _ => ?_)) | (refine step_map rfl (fun _ => ?_)) | (refine step_store 0 rfl rfl rfl rfl rfl rfl rfl rfl rfl ?_) | (refine step_store 1 rfl rfl rfl rfl rfl rfl rfl rfl rfl ?_) | (refine step_store 2 rfl rfl rfl rfl rfl rfl rfl rfl rfl ?_) | (refine step_store 3 rfl rfl rfl rfl rfl rfl rfl rfl rfl ?_) | (refine step_store 4 rfl rfl rfl rfl rfl rfl rfl rfl rfl ?_) | (refine step_store 5 rfl rfl rfl rfl rfl rfl rfl rfl rfl ?_) | (refine step_store 6 rfl rfl rfl rfl rfl rfl rfl rfl rfl ?_) | (refine step_store 7 rfl rfl rfl rfl rfl rfl rfl rfl rfl ?_)))
      refine ops_step rfl rfl rfl (step_call_mut (R := fun v ct' => ∃ a2 n2 c2, (ct' = rdr a2 n2 c2 (textR l' 1000).2.2 ∧ v = str (textR l' 1000).1 ∧ ((textR l' 1000).2.2 = 0 → SlX [rb] O H (.slice a2 n2 c2) 1 n2 ((l'.drop (textR l' 1000).2.1).map by8) ∧ n2 ≤ n))) 0 rfl rfl rfl rfl (fun H' hs hh hlt => ?_) (fun v ct' h => ?_))
      · refine (textG_ok (most := 1000) hh hlt hs1 hs.ext (by omega)).mono ?_
        rintro v H'' ⟨ct', g1, g2, a2, n2, c2, g3, g4, g5⟩
        exact ⟨ct', g1, g2, a2, n2, c2, g3, g4, fun h0 => ⟨(g5 h0).1, by have := (g5 h0).2; omega⟩⟩
      obtain ⟨a2, n2, c2, rfl, rfl, g5⟩ := h
      repeat (first
          | refine exec_seq ?_
          | refine exec_region ?_
          | refine exec_block ?_
          | refine exec_skip ?_
          | refine exec_exit ?_
          | refine exec_ret ?_
          | refine exec_true rfl ?_
          | refine exec_false rfl ?_
          | refine ops_nil ?_
          | (apply ops_pl rfl rfl rfl ?_ rfl ?_; rotate_left; focus first | exact (.bld rfl rfl rfl rfl) | exact (.neSelf rfl rfl rfl rfl) | exact (.eqSelf rfl rfl rfl rfl) | exact (.wr64 rfl rfl (by omega) (by omega)) | exact (.wr8 rfl rfl (by omega) (by omega)) | exact (.num rfl rfl (and127_u8N (by omega))) | exact (.num rfl rfl (or128_u8N (by omega))) | exact (.num rfl rfl (and127_i64N (by omega))) | exact (.num rfl rfl (and1_i64N (by omega))) | exact (.p rfl rfl) | exact (.max2 rfl rfl rfl) | exact (.min2 rfl rfl rfl) | exact (.numL rfl (fun _ => rfl) (byte_wrap _)) | exact (.cv64 rfl (fun _ => rfl) (by omega) (by omega)) | exact (.cv8 rfl (fun _ => rfl) (by omega) (by omega)) | exact (.l rfl (fun _ _ => rfl)) | exact (.l rfl (look_own 0 rfl rfl rfl rfl)) | exact (.l rfl (look_own 1 rfl rfl rfl rfl)) | exact (.l rfl (look_own 2 rfl rfl rfl rfl)) | exact (.l rfl (look_own 3 rfl rfl rfl rfl)) | exact (.l rfl (look_own 4 rfl rfl rfl rfl)) | exact (.l rfl (look_own 5 rfl rfl rfl rfl)) | exact (.l rfl (look_own 6 rfl rfl rfl rfl)) | exact (.l rfl (look_own 7 rfl rfl rfl rfl)) | exact (.l rfl (look_agg 0 rfl rfl rfl rfl)) | exact (.l rfl (look_agg 1 rfl rfl rfl rfl)) | exact (.l rfl (look_agg 2 rfl rfl rfl rfl)) | exact (.l rfl (look_agg 3 rfl rfl rfl rfl)) | exact (.l rfl (look_agg 4 rfl rfl rfl rfl)) | exact (.l rfl (look_agg 5 rfl rfl rfl rfl)) | exact (.l rfl (look_agg 6 rfl rfl rfl rfl)) | exact (.l rfl (look_agg 7 rfl rfl rfl rfl)) | exact (.l rfl (look_str 0 rfl rfl rfl rfl rfl rfl rfl)) | exact (.l rfl (look_str 1 rfl rfl rfl rfl rfl rfl rfl)) | exact (.l rfl (look_str 2 rfl rfl rfl rfl rfl rfl rfl)) | exact (.l rfl (look_str 3 rfl rfl rfl rfl rfl rfl rfl)))
          | refine ops_skip rfl rfl rfl ?_
          | (refine ops_step rfl rfl rfl ?_; first | (refine step_box rfl rfl rfl (fun _ => ?_)) | (refine step_alloc rfl rfl rfl rfl (fun _ => ?_)) | (refine step_buildSlice rfl rfl rfl rfl rfl (fun _ => ?_)) | (refine step_map rfl (fun _ => ?_)) | (refine step_store 0 rfl rfl rfl rfl rfl rfl rfl rfl rfl ?_) | (refine step_store 1 rfl rfl rfl rfl rfl rfl rfl rfl rfl ?_) | (refine step_store 2 rfl rfl rfl rfl rfl rfl rfl rfl rfl ?_) | (refine step_store 3 rfl rfl rfl rfl rfl rfl rfl rfl rfl ?_) | (refine step_store 4 rfl rfl rfl rfl rfl rfl rfl rfl rfl ?_) | (refine step_store 5 rfl rfl rfl rfl rfl rfl rfl rfl rfl ?_) | (refine step_store 6 rfl rfl rfl rfl rfl rfl rfl rfl rfl ?_) | (refine step_store 7 rfl rfl rfl rfl rfl rfl rfl rfl rfl ?_)))
      refine ops_step rfl rfl rfl (step_call_fp [_, _, _] [_] rfl rfl rfl (List.perm_append_comm (l₁ := [_])) (fun H hs hst => poolAdd_ok (s := (textR l' 1000).1) hst hP (by omega)) (fun v F' h => ?_))
      obtain ⟨a3, n3, c3, m3, es3, p3, rfl, own3, says3⟩ := h
      refine OpsS.perm (L' := _ :: [_, _, _]) (List.perm_append_comm (l₁ := [_, _, _])) ?_
      repeat (first
          | refine exec_seq ?_
          | refine exec_region ?_
          | refine exec_block ?_
          | refine exec_skip ?_
          | refine exec_exit ?_
          | refine exec_ret ?_
          | refine exec_true rfl ?_
          | refine exec_false rfl ?_
          | refine ops_nil ?_
          | (apply ops_pl rfl rfl rfl ?_ rfl ?_; rotate_left; focus first | exact (.bld rfl rfl rfl rfl) | exact (.neSelf rfl rfl rfl rfl) | exact (.eqSelf rfl rfl rfl rfl) | exact (.wr64 rfl rfl (by omega) (by omega)) | exact (.wr8 rfl rfl (by omega) (by omega)) | exact (.num rfl rfl (and127_u8N (by omega))) | exact (.num rfl rfl (or128_u8N (by omega))) | exact (.num rfl rfl (and127_i64N (by omega))) | exact (.num rfl rfl (and1_i64N (by omega))) | exact (.p rfl rfl) | exact (.max2 rfl rfl rfl) | exact (.min2 rfl rfl rfl) | exact (.numL rfl (fun _ => rfl) (byte_wrap _)) | exact (.cv64 rfl (fun _ => rfl) (by omega) (by omega)) | exact (.cv8 rfl (fun _ => rfl) (by omega) (by omega)) | exact (.l rfl (fun _ _ => rfl)) | exact (.l rfl (look_own 0 rfl rfl rfl rfl)) | exact (.l rfl (look_own 1 rfl rfl rfl rfl)) | exact (.l rfl (look_own 2 rfl rfl rfl rfl)) | exact (.l rfl (look_own 3 rfl rfl rfl rfl)) | exact (.l rfl (look_own 4 rfl rfl rfl rfl)) | exact (.l rfl (look_own 5 rfl rfl rfl rfl)) | exact (.l rfl (look_own 6 rfl rfl rfl rfl)) | exact (.l rfl (look_own 7 rfl rfl rfl rfl)) | exact (.l rfl (look_agg 0 rfl rfl rfl rfl)) | exact (.l rfl (look_agg 1 rfl rfl rfl rfl)) | exact (.l rfl (look_agg 2 rfl rfl rfl rfl)) | exact (.l rfl (look_agg 3 rfl rfl rfl rfl)) | exact (.l rfl (look_agg 4 rfl rfl rfl rfl)) | exact (.l rfl (look_agg 5 rfl rfl rfl rfl)) | exact (.l rfl (look_agg 6 rfl rfl rfl rfl)) | exact (.l rfl (look_agg 7 rfl rfl rfl rfl)) | exact (.l rfl (look_str 0 rfl rfl rfl rfl rfl rfl rfl)) | exact (.l rfl (look_str 1 rfl rfl rfl rfl rfl rfl rfl)) | exact (.l rfl (look_str 2 rfl rfl rfl rfl rfl rfl rfl)) | exact (.l rfl (look_str 3 rfl rfl rfl rfl rfl rfl rfl)))
          | refine ops_skip rfl rfl rfl ?_
          | (refine ops_step rfl rfl rfl ?_; first | (refine step_box rfl rfl rfl (fun _ => ?_)) | (refine step_alloc rfl rfl rfl rfl (fun _ => ?_)) | (refine step_buildSlice rfl rfl rfl rfl rfl (fun _ => ?_)) | (refine step_map rfl (fun _ => ?_)) | (refine step_store 0 rfl rfl rfl rfl rfl rfl rfl rfl rfl ?_) | (refine step_store 1 rfl rfl rfl rfl rfl rfl rfl rfl rfl ?_) | (refine step_store 2 rfl rfl rfl rfl rfl rfl rfl rfl rfl ?_) | (refine step_store 3 rfl rfl rfl rfl rfl rfl rfl rfl rfl ?_) | (refine step_store 4 rfl rfl rfl rfl rfl rfl rfl rfl rfl ?_) | (refine step_store 5 rfl rfl rfl rfl rfl rfl rfl rfl rfl ?_) | (refine step_store 6 rfl rfl rfl rfl rfl rfl rfl rfl rfl ?_) | (refine step_store 7 rfl rfl rfl rfl rfl rfl rfl rfl rfl ?_)))
      refine ⟨k, by omega, _, _, ?_, ?_, n2, c2, a2, (textR l' 1000).2.2, ts ++ [(textR l' 1000).1], _, by rw [List.length_append, List.length_singleton]; omega, ⟨a3, n3, c3, m3, es3, p3, rfl, own3, says3⟩, rfl, rfl, ?_⟩
      · refine ⟨rfl, rfl, ?_, trivial⟩
        show some (Value.int .i64 (((k + 1 : Nat) : Int) - 1)) = some (Value.int .i64 (k : Int))
        congr 2
        omega
      · exact .refl _
      · subst hr1
        by_cases h0 : (textR l' 1000).2.2 = 0
        · have hrt : readTs (k + 1) l' = ((readTs k (l'.drop (textR l' 1000).2.1)).1, (textR l' 1000).1 :: (readTs k (l'.drop (textR l' 1000).2.1)).2.1, (readTs k (l'.drop (textR l' 1000).2.1)).2.2) := by simp only [readTs, h0, ne_eq, not_true_eq_false, if_false]
          refine .inr ⟨h0, l'.drop (textR l' 1000).2.1, _, (g5 h0).1, (g5 h0).2, rfl, ?_, fun h1 => ?_⟩
          · rw [hr0, hrt]
          · rw [hrt] at hr2
            rw [hr2 h1]
            simp
        · refine .inl ⟨h0, ?_⟩
          rw [hr0]
          simp only [readTs, h0, ne_eq, not_false_eq_true, if_true]
  · have hp := (hinv.resolve_right (fun h => he h.1)).2
    cases hq0 : decide ((q : Int) > 0)
    · repeat (first
          | refine exec_seq ?_
          | refine exec_region ?_
          | refine exec_block ?_
          | refine exec_skip ?_
          | refine exec_exit ?_
          | refine exec_ret ?_
          | refine exec_true rfl ?_
          | refine exec_false rfl ?_
          | refine ops_nil ?_
          | (apply ops_pl rfl rfl rfl ?_ rfl ?_; rotate_left; focus first | exact (.bld rfl rfl rfl rfl) | exact (.neSelf rfl rfl rfl rfl) | exact (.eqSelf rfl rfl rfl rfl) | exact (.wr64 rfl rfl (by omega) (by omega)) | exact (.wr8 rfl rfl (by omega) (by omega)) | exact (.num rfl rfl (and127_u8N (by omega))) | exact (.num rfl rfl (or128_u8N (by omega))) | exact (.num rfl rfl (and127_i64N (by omega))) | exact (.num rfl rfl (and1_i64N (by omega))) | exact (.p rfl rfl) | exact (.max2 rfl rfl rfl) | exact (.min2 rfl rfl rfl) | exact (.numL rfl (fun _ => rfl) (byte_wrap _)) | exact (.cv64 rfl (fun _ => rfl) (by omega) (by omega)) | exact (.cv8 rfl (fun _ => rfl) (by omega) (by omega)) | exact (.l rfl (fun _ _ => rfl)) | exact (.l rfl (look_own 0 rfl rfl rfl rfl)) | exact (.l rfl (look_own 1 rfl rfl rfl rfl)) | exact (.l rfl (look_own 2 rfl rfl rfl rfl)) | exact (.l rfl (look_own 3 rfl rfl rfl rfl)) | exact (.l rfl (look_own 4 rfl rfl rfl rfl)) | exact (.l rfl (look_own 5 rfl rfl rfl rfl)) | exact (.l rfl (look_own 6 rfl rfl rfl rfl)) | exact (.l rfl (look_own 7 rfl rfl rfl rfl)) | exact (.l rfl (look_agg 0 rfl rfl rfl rfl)) | exact (.l rfl (look_agg 1 rfl rfl rfl rfl)) | exact (.l rfl (look_agg 2 rfl rfl rfl rfl)) | exact (.l rfl (look_agg 3 rfl rfl rfl rfl)) | exact (.l rfl (look_agg 4 rfl rfl rfl rfl)) | exact (.l rfl (look_agg 5 rfl rfl rfl rfl)) | exact (.l rfl (look_agg 6 rfl rfl rfl rfl)) | exact (.l rfl (look_agg 7 rfl rfl rfl rfl)) | exact (.l rfl (look_str 0 rfl rfl rfl rfl rfl rfl rfl)) | exact (.l rfl (look_str 1 rfl rfl rfl rfl rfl rfl rfl)) | exact (.l rfl (look_str 2 rfl rfl rfl rfl rfl rfl rfl)) | exact (.l rfl (look_str 3 rfl rfl rfl rfl rfl rfl rfl)))
          | refine ops_skip rfl rfl rfl ?_
          | (refine ops_step rfl rfl rfl ?_; first | (refine step_box rfl rfl rfl (fun _ => ?_)) | (refine step_alloc rfl rfl rfl rfl (fun _ => ?_)) | (refine step_buildSlice rfl rfl rfl rfl rfl (fun _ => ?_)) | (refine step_map rfl (fun _ => ?_)) | (refine step_store 0 rfl rfl rfl rfl rfl rfl rfl rfl rfl ?_) | (refine step_store 1 rfl rfl rfl rfl rfl rfl rfl rfl rfl ?_) | (refine step_store 2 rfl rfl rfl rfl rfl rfl rfl rfl rfl ?_) | (refine step_store 3 rfl rfl rfl rfl rfl rfl rfl rfl rfl ?_) | (refine step_store 4 rfl rfl rfl rfl rfl rfl rfl rfl rfl ?_) | (refine step_store 5 rfl rfl rfl rfl rfl rfl rfl rfl rfl ?_) | (refine step_store 6 rfl rfl rfl rfl rfl rfl rfl rfl rfl ?_) | (refine step_store 7 rfl rfl rfl rfl rfl rfl rfl rfl rfl ?_)))
      rw [hq0]
      repeat (first
          | refine exec_seq ?_
          | refine exec_region ?_
          | refine exec_block ?_
          | refine exec_skip ?_
          | refine exec_exit ?_
          | refine exec_ret ?_
          | refine exec_true rfl ?_
          | refine exec_false rfl ?_
          | refine ops_nil ?_
          | (apply ops_pl rfl rfl rfl ?_ rfl ?_; rotate_left; focus first | exact (.bld rfl rfl rfl rfl) | exact (.neSelf rfl rfl rfl rfl) | exact (.eqSelf rfl rfl rfl rfl) | exact (.wr64 rfl rfl (by omega) (by omega)) | exact (.wr8 rfl rfl (by omega) (by omega)) | exact (.num rfl rfl (and127_u8N (by omega))) | exact (.num rfl rfl (or128_u8N (by omega))) | exact (.num rfl rfl (and127_i64N (by omega))) | exact (.num rfl rfl (and1_i64N (by omega))) | exact (.p rfl rfl) | exact (.max2 rfl rfl rfl) | exact (.min2 rfl rfl rfl) | exact (.numL rfl (fun _ => rfl) (byte_wrap _)) | exact (.cv64 rfl (fun _ => rfl) (by omega) (by omega)) | exact (.cv8 rfl (fun _ => rfl) (by omega) (by omega)) | exact (.l rfl (fun _ _ => rfl)) | exact (.l rfl (look_own 0 rfl rfl rfl rfl)) | exact (.l rfl (look_own 1 rfl rfl rfl rfl)) | exact (.l rfl (look_own 2 rfl rfl rfl rfl)) | exact (.l rfl (look_own 3 rfl rfl rfl rfl)) | exact (.l rfl (look_own 4 rfl rfl rfl rfl)) | exact (.l rfl (look_own 5 rfl rfl rfl rfl)) | exact (.l rfl (look_own 6 rfl rfl rfl rfl)) | exact (.l rfl (look_own 7 rfl rfl rfl rfl)) | exact (.l rfl (look_agg 0 rfl rfl rfl rfl)) | exact (.l rfl (look_agg 1 rfl rfl rfl rfl)) | exact (.l rfl (look_agg 2 rfl rfl rfl rfl)) | exact (.l rfl (look_agg 3 rfl rfl rfl rfl)) | exact (.l rfl (look_agg 4 rfl rfl rfl rfl)) | exact (.l rfl (look_agg 5 rfl rfl rfl rfl)) | exact (.l rfl (look_agg 6 rfl rfl rfl rfl)) | exact (.l rfl (look_agg 7 rfl rfl rfl rfl)) | exact (.l rfl (look_str 0 rfl rfl rfl rfl rfl rfl rfl)) | exact (.l rfl (look_str 1 rfl rfl rfl rfl rfl rfl rfl)) | exact (.l rfl (look_str 2 rfl rfl rfl rfl rfl rfl rfl)) | exact (.l rfl (look_str 3 rfl rfl rfl rfl rfl rfl rfl)))
          | refine ops_skip rfl rfl rfl ?_
          | (refine ops_step rfl rfl rfl ?_; first | (refine step_box rfl rfl rfl (fun _ => ?_)) | (refine step_alloc rfl rfl rfl rfl (fun _ => ?_)) | (refine step_buildSlice rfl rfl rfl rfl rfl (fun _ => ?_)) | (refine step_map rfl (fun _ => ?_)) | (refine step_store 0 rfl rfl rfl rfl rfl rfl rfl rfl rfl ?_) | (refine step_store 1 rfl rfl rfl rfl rfl rfl rfl rfl rfl ?_) | (refine step_store 2 rfl rfl rfl rfl rfl rfl rfl rfl rfl ?_) | (refine step_store 3 rfl rfl rfl rfl rfl rfl rfl rfl rfl ?_) | (refine step_store 4 rfl rfl rfl rfl rfl rfl rfl rfl rfl ?_) | (refine step_store 5 rfl rfl rfl rfl rfl rfl rfl rfl rfl ?_) | (refine step_store 6 rfl rfl rfl rfl rfl rfl rfl rfl rfl ?_) | (refine step_store 7 rfl rfl rfl rfl rfl rfl rfl rfl rfl ?_)))
      refine ops_step rfl rfl rfl (step_call_mut 0 rfl rfl rfl rfl (fun H hs hh hlt => err_ok hh hlt) (fun v ct h => ?_))
      obtain ⟨rfl, rfl⟩ := h
      repeat (first
          | refine exec_seq ?_
          | refine exec_region ?_
          | refine exec_block ?_
          | refine exec_skip ?_
          | refine exec_exit ?_
          | refine exec_ret ?_
          | refine exec_true rfl ?_
          | refine exec_false rfl ?_
          | refine ops_nil ?_
          | (apply ops_pl rfl rfl rfl ?_ rfl ?_; rotate_left; focus first | exact (.bld rfl rfl rfl rfl) | exact (.neSelf rfl rfl rfl rfl) | exact (.eqSelf rfl rfl rfl rfl) | exact (.wr64 rfl rfl (by omega) (by omega)) | exact (.wr8 rfl rfl (by omega) (by omega)) | exact (.num rfl rfl (and127_u8N (by omega))) | exact (.num rfl rfl (or128_u8N (by omega))) | exact (.num rfl rfl (and127_i64N (by omega))) | exact (.num rfl rfl (and1_i64N (by omega))) | exact (.p rfl rfl) | exact (.max2 rfl rfl rfl) | exact (.min2 rfl rfl rfl) | exact (.numL rfl (fun _ => rfl) (byte_wrap _)) | exact (.cv64 rfl (fun _ => rfl) (by omega) (by omega)) | exact (.cv8 rfl (fun _ => rfl) (by omega) (by omega)) | exact (.l rfl (fun _ _ => rfl)) | exact (.l rfl (look_own 0 rfl rfl rfl rfl)) | exact (.l rfl (look_own 1 rfl rfl rfl rfl)) | exact (.l rfl (look_own 2 rfl rfl rfl rfl)) | exact (.l rfl (look_own 3 rfl rfl rfl rfl)) | exact (.l rfl (look_own 4 rfl rfl rfl rfl)) | exact (.l rfl (look_own 5 rfl rfl rfl rfl)) | exact (.l rfl (look_own 6 rfl rfl rfl rfl)) | exact (.l rfl (look_own 7 rfl rfl rfl rfl)) | exact (.l rfl (look_agg 0 rfl rfl rfl rfl)) | exact (.l rfl (look_agg 1 rfl rfl rfl rfl)) | exact (.l rfl (look_agg 2 rfl rfl rfl rfl)) | exact (.l rfl (look_agg 3 rfl rfl rfl rfl)) | exact (.l rfl (look_agg 4 rfl rfl rfl rfl)) | exact (.l rfl (look_agg 5 rfl rfl rfl rfl)) | exact (.l rfl (look_agg 6 rfl rfl rfl rfl)) | exact (.l rfl (look_agg 7 rfl rfl rfl rfl)) | exact (.l rfl (look_str 0 rfl rfl rfl rfl rfl rfl rfl)) | exact (.l rfl (look_str 1 rfl rfl rfl rfl rfl rfl rfl)) | exact (.l rfl (look_str 2 rfl rfl rfl rfl rfl rfl rfl)) | exact (.l rfl (look_str 3 rfl rfl rfl rfl rfl rfl rfl)))
          | refine ops_skip rfl rfl rfl ?_
          | (refine ops_step rfl rfl rfl ?_; first | (refine step_box rfl rfl rfl (fun _ => ?_)) | (refine step_alloc rfl rfl rfl rfl (fun _ => ?_)) | (refine step_buildSlice rfl rfl rfl rfl rfl (fun _ => ?_)) | (refine step_map rfl (fun _ => ?_)) | (refine step_store 0 rfl rfl rfl rfl rfl rfl rfl rfl rfl ?_) | (refine step_store 1 rfl rfl rfl rfl rfl rfl rfl rfl rfl ?_) | (refine step_store 2 rfl rfl rfl rfl rfl rfl rfl rfl rfl ?_) | (refine step_store 3 rfl rfl rfl rfl rfl rfl rfl rfl rfl ?_) | (refine step_store 4 rfl rfl rfl rfl rfl rfl rfl rfl rfl ?_) | (refine step_store 5 rfl rfl rfl rfl rfl rfl rfl rfl rfl ?_) | (refine step_store 6 rfl rfl rfl rfl rfl rfl rfl rfl rfl ?_) | (refine step_store 7 rfl rfl rfl rfl rfl rfl rfl rfl rfl ?_)))
      rw [show (e' != 0) = true from by simpa using he]
      repeat (first
          | refine exec_seq ?_
          | refine exec_region ?_
          | refine exec_block ?_
          | refine exec_skip ?_
          | refine exec_exit ?_
          | refine exec_ret ?_
          | refine exec_true rfl ?_
          | refine exec_false rfl ?_
          | refine ops_nil ?_
          | (apply ops_pl rfl rfl rfl ?_ rfl ?_; rotate_left; focus first | exact (.bld rfl rfl rfl rfl) | exact (.neSelf rfl rfl rfl rfl) | exact (.eqSelf rfl rfl rfl rfl) | exact (.wr64 rfl rfl (by omega) (by omega)) | exact (.wr8 rfl rfl (by omega) (by omega)) | exact (.num rfl rfl (and127_u8N (by omega))) | exact (.num rfl rfl (or128_u8N (by omega))) | exact (.num rfl rfl (and127_i64N (by omega))) | exact (.num rfl rfl (and1_i64N (by omega))) | exact (.p rfl rfl) | exact (.max2 rfl rfl rfl) | exact (.min2 rfl rfl rfl) | exact (.numL rfl (fun _ => rfl) (byte_wrap _)) | exact (.cv64 rfl (fun _ => rfl) (by omega) (by omega)) | exact (.cv8 rfl (fun _ => rfl) (by omega) (by omega)) | exact (.l rfl (fun _ _ => rfl)) | exact (.l rfl (look_own 0 rfl rfl rfl rfl)) | exact (.l rfl (look_own 1 rfl rfl rfl rfl)) | exact (.l rfl (look_own 2 rfl rfl rfl rfl)) | exact (.l rfl (look_own 3 rfl rfl rfl rfl)) | exact (.l rfl (look_own 4 rfl rfl rfl rfl)) | exact (.l rfl (look_own 5 rfl rfl rfl rfl)) | exact (.l rfl (look_own 6 rfl rfl rfl rfl)) | exact (.l rfl (look_own 7 rfl rfl rfl rfl)) | exact (.l rfl (look_agg 0 rfl rfl rfl rfl)) | exact (.l rfl (look_agg 1 rfl rfl rfl rfl)) | exact (.l rfl (look_agg 2 rfl rfl rfl rfl)) | exact (.l rfl (look_agg 3 rfl rfl rfl rfl)) | exact (.l rfl (look_agg 4 rfl rfl rfl rfl)) | exact (.l rfl (look_agg 5 rfl rfl rfl rfl)) | exact (.l rfl (look_agg 6 rfl rfl rfl rfl)) | exact (.l rfl (look_agg 7 rfl rfl rfl rfl)) | exact (.l rfl (look_str 0 rfl rfl rfl rfl rfl rfl rfl)) | exact (.l rfl (look_str 1 rfl rfl rfl rfl rfl rfl rfl)) | exact (.l rfl (look_str 2 rfl rfl rfl rfl rfl rfl rfl)) | exact (.l rfl (look_str 3 rfl rfl rfl rfl rfl rfl rfl)))
          | refine ops_skip rfl rfl rfl ?_
          | (refine ops_step rfl rfl rfl ?_; first | (refine step_box rfl rfl rfl (fun _ => ?_)) | (refine step_alloc rfl rfl rfl rfl (fun _ => ?_)) | (refine step_buildSlice rfl rfl rfl rfl rfl (fun _ => ?_)) | (refine step_map rfl (fun _ => ?_)) | (refine step_store 0 rfl rfl rfl rfl rfl rfl rfl rfl rfl ?_) | (refine step_store 1 rfl rfl rfl rfl rfl rfl rfl rfl rfl ?_) | (refine step_store 2 rfl rfl rfl rfl rfl rfl rfl rfl rfl ?_) | (refine step_store 3 rfl rfl rfl rfl rfl rfl rfl rfl rfl ?_) | (refine step_store 4 rfl rfl rfl rfl rfl rfl rfl rfl rfl ?_) | (refine step_store 5 rfl rfl rfl rfl rfl rfl rfl rfl rfl ?_) | (refine step_store 6 rfl rfl rfl rfl rfl rfl rfl rfl rfl ?_) | (refine step_store 7 rfl rfl rfl rfl rfl rfl rfl rfl rfl ?_)))
      rw [← hp] at he ⊢
      exact ⟨trivial, _, rfl, [_], [_, _, _], List.Perm.refl _, _, _, _, _, rfl, .inl ⟨he, rfl, rfl⟩⟩
    · repeat (first
          | refine exec_seq ?_
          | refine exec_region ?_
          | refine exec_block ?_
          | refine exec_skip ?_
          | refine exec_exit ?_
          | refine exec_ret ?_
          | refine exec_true rfl ?_
          | refine exec_false rfl ?_
          | refine ops_nil ?_
          | (apply ops_pl rfl rfl rfl ?_ rfl ?_; rotate_left; focus first | exact (.bld rfl rfl rfl rfl) | exact (.neSelf rfl rfl rfl rfl) | exact (.eqSelf rfl rfl rfl rfl) | exact (.wr64 rfl rfl (by omega) (by omega)) | exact (.wr8 rfl rfl (by omega) (by omega)) | exact (.num rfl rfl (and127_u8N (by omega))) | exact (.num rfl rfl (or128_u8N (by omega))) | exact (.num rfl rfl (and127_i64N (by omega))) | exact (.num rfl rfl (and1_i64N (by omega))) | exact (.p rfl rfl) | exact (.max2 rfl rfl rfl) | exact (.min2 rfl rfl rfl) | exact (.numL rfl (fun _ => rfl) (byte_wrap _)) | exact (.cv64 rfl (fun _ => rfl) (by omega) (by omega)) | exact (.cv8 rfl (fun _ => rfl) (by omega) (by omega)) | exact (.l rfl (fun _ _ => rfl)) | exact (.l rfl (look_own 0 rfl rfl rfl rfl)) | exact (.l rfl (look_own 1 rfl rfl rfl rfl)) | exact (.l rfl (look_own 2 rfl rfl rfl rfl)) | exact (.l rfl (look_own 3 rfl rfl rfl rfl)) | exact (.l rfl (look_own 4 rfl rfl rfl rfl)) | exact (.l rfl (look_own 5 rfl rfl rfl rfl)) | exact (.l rfl (look_own 6 rfl rfl rfl rfl)) | exact (.l rfl (look_own 7 rfl rfl rfl rfl)) | exact (.l rfl (look_agg 0 rfl rfl rfl rfl)) | exact (.l rfl (look_agg 1 rfl rfl rfl rfl)) | exact (.l rfl (look_agg 2 rfl rfl rfl rfl)) | exact (.l rfl (look_agg 3 rfl rfl rfl rfl)) | exact (.l rfl (look_agg 4 rfl rfl rfl rfl)) | exact (.l rfl (look_agg 5 rfl rfl rfl rfl)) | exact (.l rfl (look_agg 6 rfl rfl rfl rfl)) | exact (.l rfl (look_agg 7 rfl rfl rfl rfl)) | exact (.l rfl (look_str 0 rfl rfl rfl rfl rfl rfl rfl)) | exact (.l rfl (look_str 1 rfl rfl rfl rfl rfl rfl rfl)) | exact (.l rfl (look_str 2 rfl rfl rfl rfl rfl rfl rfl)) | exact (.l rfl (look_str 3 rfl rfl rfl rfl rfl rfl rfl)))
          | refine ops_skip rfl rfl rfl ?_
          | (refine ops_step rfl rfl rfl ?_; first | (refine step_box rfl rfl rfl (fun _ => ?_)) | (refine step_alloc rfl rfl rfl rfl (fun _ => ?_)) | (refine step_buildSlice rfl rfl rfl rfl rfl (fun _ => ?_)) | (refine step_map rfl (fun _ => ?_)) | (refine step_store 0 rfl rfl rfl rfl rfl rfl rfl rfl rfl ?_) | (refine step_store 1 rfl rfl rfl rfl rfl rfl rfl rfl rfl ?_) | (refine step_store 2 rfl rfl rfl rfl rfl rfl rfl rfl rfl ?_) | (refine step_store 3 rfl rfl rfl rfl rfl rfl rfl rfl rfl ?_) | (refine step_store 4 rfl rfl rfl rfl rfl rfl rfl rfl rfl ?_) | (refine step_store 5 rfl rfl rfl rfl rfl rfl rfl rfl rfl ?_) | (refine step_store 6 rfl rfl rfl rfl rfl rfl rfl rfl rfl ?_) | (refine step_store 7 rfl rfl rfl rfl rfl rfl rfl rfl rfl ?_)))
      rw [hq0]
      repeat (first
          | refine exec_seq ?_
          | refine exec_region ?_
          | refine exec_block ?_
          | refine exec_skip ?_
          | refine exec_exit ?_
          | refine exec_ret ?_
          | refine exec_true rfl ?_
          | refine exec_false rfl ?_
          | refine ops_nil ?_
          | (apply ops_pl rfl rfl rfl ?_ rfl ?_; rotate_left; focus first | exact (.bld rfl rfl rfl rfl) | exact (.neSelf rfl rfl rfl rfl) | exact (.eqSelf rfl rfl rfl rfl) | exact (.wr64 rfl rfl (by omega) (by omega)) | exact (.wr8 rfl rfl (by omega) (by omega)) | exact (.num rfl rfl (and127_u8N (by omega))) | exact (.num rfl rfl (or128_u8N (by omega))) | exact (.num rfl rfl (and127_i64N (by omega))) | exact (.num rfl rfl (and1_i64N (by omega))) | exact (.p rfl rfl) | exact (.max2 rfl rfl rfl) | exact (.min2 rfl rfl rfl) | exact (.numL rfl (fun _ => rfl) (byte_wrap _)) | exact (.cv64 rfl (fun _ => rfl) (by omega) (by omega)) | exact (.cv8 rfl (fun _ => rfl) (by omega) (by omega)) | exact (.l rfl (fun _ _ => rfl)) | exact (.l rfl (look_own 0 rfl rfl rfl rfl)) | exact (.l rfl (look_own 1 rfl rfl rfl rfl)) | exact (.l rfl (look_own 2 rfl rfl rfl rfl)) | exact (.l rfl (look_own 3 rfl rfl rfl rfl)) | exact (.l rfl (look_own 4 rfl rfl rfl rfl)) | exact (.l rfl (look_own 5 rfl rfl rfl rfl)) | exact (.l rfl (look_own 6 rfl rfl rfl rfl)) | exact (.l rfl (look_own 7 rfl rfl rfl rfl)) | exact (.l rfl (look_agg 0 rfl rfl rfl rfl)) | exact (.l rfl (look_agg 1 rfl rfl rfl rfl)) | exact (.l rfl (look_agg 2 rfl rfl rfl rfl)) | exact (.l rfl (look_agg 3 rfl rfl rfl rfl)) | exact (.l rfl (look_agg 4 rfl rfl rfl rfl)) | exact (.l rfl (look_agg 5 rfl rfl rfl rfl)) | exact (.l rfl (look_agg 6 rfl rfl rfl rfl)) | exact (.l rfl (look_agg 7 rfl rfl rfl rfl)) | exact (.l rfl (look_str 0 rfl rfl rfl rfl rfl rfl rfl)) | exact (.l rfl (look_str 1 rfl rfl rfl rfl rfl rfl rfl)) | exact (.l rfl (look_str 2 rfl rfl rfl rfl rfl rfl rfl)) | exact (.l rfl (look_str 3 rfl rfl rfl rfl rfl rfl rfl)))
          | refine ops_skip rfl rfl rfl ?_
          | (refine ops_step rfl rfl rfl ?_; first | (refine step_box rfl rfl rfl (fun _ => ?_)) | (refine step_alloc rfl rfl rfl rfl (fun _ => ?_)) | (refine step_buildSlice rfl rfl rfl rfl rfl (fun _ => ?_)) | (refine step_map rfl (fun _ => ?_)) | (refine step_store 0 rfl rfl rfl rfl rfl rfl rfl rfl rfl ?_) | (refine step_store 1 rfl rfl rfl rfl rfl rfl rfl rfl rfl ?_) | (refine step_store 2 rfl rfl rfl rfl rfl rfl rfl rfl rfl ?_) | (refine step_store 3 rfl rfl rfl rfl rfl rfl rfl rfl rfl ?_) | (refine step_store 4 rfl rfl rfl rfl rfl rfl rfl rfl rfl ?_) | (refine step_store 5 rfl rfl rfl rfl rfl rfl rfl rfl rfl ?_) | (refine step_store 6 rfl rfl rfl rfl rfl rfl rfl rfl rfl ?_) | (refine step_store 7 rfl rfl rfl rfl rfl rfl rfl rfl rfl ?_)))
      refine ops_step rfl rfl rfl (step_call_mut 0 rfl rfl rfl rfl (fun H hs hh hlt => err_ok hh hlt) (fun v ct h => ?_))
      obtain ⟨rfl, rfl⟩ := h
      repeat (first
          | refine exec_seq ?_
          | refine exec_region ?_
          | refine exec_block ?_
          | refine exec_skip ?_
          | refine exec_exit ?_
          | refine exec_ret ?_
          | refine exec_true rfl ?_
          | refine exec_false rfl ?_
          | refine ops_nil ?_
          | (apply ops_pl rfl rfl rfl ?_ rfl ?_; rotate_left; focus first | exact (.bld rfl rfl rfl rfl) | exact (.neSelf rfl rfl rfl rfl) | exact (.eqSelf rfl rfl rfl rfl) | exact (.wr64 rfl rfl (by omega) (by omega)) | exact (.wr8 rfl rfl (by omega) (by omega)) | exact (.num rfl rfl (and127_u8N (by omega))) | exact (.num rfl rfl (or128_u8N (by omega))) | exact (.num rfl rfl (and127_i64N (by omega))) | exact (.num rfl rfl (and1_i64N (by omega))) | exact (.p rfl rfl) | exact (.max2 rfl rfl rfl) | exact (.min2 rfl rfl rfl) | exact (.numL rfl (fun _ => rfl) (byte_wrap _)) | exact (.cv64 rfl (fun _ => rfl) (by omega) (by omega)) | exact (.cv8 rfl (fun _ => rfl) (by omega) (by omega)) | exact (.l rfl (fun _ _ => rfl)) | exact (.l rfl (look_own 0 rfl rfl rfl rfl)) | exact (.l rfl (look_own 1 rfl rfl rfl rfl)) | exact (.l rfl (look_own 2 rfl rfl rfl rfl)) | exact (.l rfl (look_own 3 rfl rfl rfl rfl)) | exact (.l rfl (look_own 4 rfl rfl rfl rfl)) | exact (.l rfl (look_own 5 rfl rfl rfl rfl)) | exact (.l rfl (look_own 6 rfl rfl rfl rfl)) | exact (.l rfl (look_own 7 rfl rfl rfl rfl)) | exact (.l rfl (look_agg 0 rfl rfl rfl rfl)) | exact (.l rfl (look_agg 1 rfl rfl rfl rfl)) | exact (.l rfl (look_agg 2 rfl rfl rfl rfl)) | exact (.l rfl (look_agg 3 rfl rfl rfl rfl)) | exact (.l rfl (look_agg 4 rfl rfl rfl rfl)) | exact (.l rfl (look_agg 5 rfl rfl rfl rfl)) | exact (.l rfl (look_agg 6 rfl rfl rfl rfl)) | exact (.l rfl (look_agg 7 rfl rfl rfl rfl)) | exact (.l rfl (look_str 0 rfl rfl rfl rfl rfl rfl rfl)) | exact (.l rfl (look_str 1 rfl rfl rfl rfl rfl rfl rfl)) | exact (.l rfl (look_str 2 rfl rfl rfl rfl rfl rfl rfl)) | exact (.l rfl (look_str 3 rfl rfl rfl rfl rfl rfl rfl)))
          | refine ops_skip rfl rfl rfl ?_
          | (refine ops_step rfl rfl rfl ?_; first | (refine step_box rfl rfl rfl (fun _ => ?_)) | (refine step_alloc rfl rfl rfl rfl (fun _ => ?_)) | (refine step_buildSlice rfl rfl rfl rfl rfl (fun _ => ?_)) | (refine step_map rfl (fun _ => ?_)) | (refine step_store 0 rfl rfl rfl rfl rfl rfl rfl rfl rfl ?_) | (refine step_store 1 rfl rfl rfl rfl rfl rfl rfl rfl rfl ?_) | (refine step_store 2 rfl rfl rfl rfl rfl rfl rfl rfl rfl ?_) | (refine step_store 3 rfl rfl rfl rfl rfl rfl rfl rfl rfl ?_) | (refine step_store 4 rfl rfl rfl rfl rfl rfl rfl rfl rfl ?_) | (refine step_store 5 rfl rfl rfl rfl rfl rfl rfl rfl rfl ?_) | (refine step_store 6 rfl rfl rfl rfl rfl rfl rfl rfl rfl ?_) | (refine step_store 7 rfl rfl rfl rfl rfl rfl rfl rfl rfl ?_)))
      rw [show (e' == 0) = false from by simpa using he]
      repeat (first
          | refine exec_seq ?_
          | refine exec_region ?_
          | refine exec_block ?_
          | refine exec_skip ?_
          | refine exec_exit ?_
          | refine exec_ret ?_
          | refine exec_true rfl ?_
          | refine exec_false rfl ?_
          | refine ops_nil ?_
          | (apply ops_pl rfl rfl rfl ?_ rfl ?_; rotate_left; focus first | exact (.bld rfl rfl rfl rfl) | exact (.neSelf rfl rfl rfl rfl) | exact (.eqSelf rfl rfl rfl rfl) | exact (.wr64 rfl rfl (by omega) (by omega)) | exact (.wr8 rfl rfl (by omega) (by omega)) | exact (.num rfl rfl (and127_u8N (by omega))) | exact (.num rfl rfl (or128_u8N (by omega))) | exact (.num rfl rfl (and127_i64N (by omega))) | exact (.num rfl rfl (and1_i64N (by omega))) | exact (.p rfl rfl) | exact (.max2 rfl rfl rfl) | exact (.min2 rfl rfl rfl) | exact (.numL rfl (fun _ => rfl) (byte_wrap _)) | exact (.cv64 rfl (fun _ => rfl) (by omega) (by omega)) | exact (.cv8 rfl (fun _ => rfl) (by omega) (by omega)) | exact (.l rfl (fun _ _ => rfl)) | exact (.l rfl (look_own 0 rfl rfl rfl rfl)) | exact (.l rfl (look_own 1 rfl rfl rfl rfl)) | exact (.l rfl (look_own 2 rfl rfl rfl rfl)) | exact (.l rfl (look_own 3 rfl rfl rfl rfl)) | exact (.l rfl (look_own 4 rfl rfl rfl rfl)) | exact (.l rfl (look_own 5 rfl rfl rfl rfl)) | exact (.l rfl (look_own 6 rfl rfl rfl rfl)) | exact (.l rfl (look_own 7 rfl rfl rfl rfl)) | exact (.l rfl (look_agg 0 rfl rfl rfl rfl)) | exact (.l rfl (look_agg 1 rfl rfl rfl rfl)) | exact (.l rfl (look_agg 2 rfl rfl rfl rfl)) | exact (.l rfl (look_agg 3 rfl rfl rfl rfl)) | exact (.l rfl (look_agg 4 rfl rfl rfl rfl)) | exact (.l rfl (look_agg 5 rfl rfl rfl rfl)) | exact (.l rfl (look_agg 6 rfl rfl rfl rfl)) | exact (.l rfl (look_agg 7 rfl rfl rfl rfl)) | exact (.l rfl (look_str 0 rfl rfl rfl rfl rfl rfl rfl)) | exact (.l rfl (look_str 1 rfl rfl rfl rfl rfl rfl rfl)) | exact (.l rfl (look_str 2 rfl rfl rfl rfl rfl rfl rfl)) | exact (.l rfl (look_str 3 rfl rfl rfl rfl rfl rfl rfl)))
          | refine ops_skip rfl rfl rfl ?_
          | (refine ops_step rfl rfl rfl ?_; first | (refine step_box rfl rfl rfl (fun _ => ?_)) | (refine step_alloc rfl rfl rfl rfl (fun _ => ?_)) | (refine step_buildSlice rfl rfl rfl rfl rfl (fun _ => ?_)) | (refine step_map rfl (fun _ => ?_)) | (refine step_store 0 rfl rfl rfl rfl rfl rfl rfl rfl rfl ?_) | (refine step_store 1 rfl rfl rfl rfl rfl rfl rfl rfl rfl ?_) | (refine step_store 2 rfl rfl rfl rfl rfl rfl rfl rfl rfl ?_) | (refine step_store 3 rfl rfl rfl rfl rfl rfl rfl rfl rfl ?_) | (refine step_store 4 rfl rfl rfl rfl rfl rfl rfl rfl rfl ?_) | (refine step_store 5 rfl rfl rfl rfl rfl rfl rfl rfl rfl ?_) | (refine step_store 6 rfl rfl rfl rfl rfl rfl rfl rfl rfl ?_) | (refine step_store 7 rfl rfl rfl rfl rfl rfl rfl rfl rfl ?_)))
      refine ops_step rfl rfl rfl (step_call_mut 0 rfl rfl rfl rfl (fun H hs hh hlt => err_ok hh hlt) (fun v ct h => ?_))
      obtain ⟨rfl, rfl⟩ := h
      repeat (first
          | refine exec_seq ?_
          | refine exec_region ?_
          | refine exec_block ?_
          | refine exec_skip ?_
          | refine exec_exit ?_
          | refine exec_ret ?_
          | refine exec_true rfl ?_
          | refine exec_false rfl ?_
          | refine ops_nil ?_
          | (apply ops_pl rfl rfl rfl ?_ rfl ?_; rotate_left; focus first | exact (.bld rfl rfl rfl rfl) | exact (.neSelf rfl rfl rfl rfl) | exact (.eqSelf rfl rfl rfl rfl) | exact (.wr64 rfl rfl (by omega) (by omega)) | exact (.wr8 rfl rfl (by omega) (by omega)) | exact (.num rfl rfl (and127_u8N (by omega))) | exact (.num rfl rfl (or128_u8N (by omega))) | exact (.num rfl rfl (and127_i64N (by omega))) | exact (.num rfl rfl (and1_i64N (by omega))) | exact (.p rfl rfl) | exact (.max2 rfl rfl rfl) | exact (.min2 rfl rfl rfl) | exact (.numL rfl (fun _ => rfl) (byte_wrap _)) | exact (.cv64 rfl (fun _ => rfl) (by omega) (by omega)) | exact (.cv8 rfl (fun _ => rfl) (by omega) (by omega)) | exact (.l rfl (fun _ _ => rfl)) | exact (.l rfl (look_own 0 rfl rfl rfl rfl)) | exact (.l rfl (look_own 1 rfl rfl rfl rfl)) | exact (.l rfl (look_own 2 rfl rfl rfl rfl)) | exact (.l rfl (look_own 3 rfl rfl rfl rfl)) | exact (.l rfl (look_own 4 rfl rfl rfl rfl)) | exact (.l rfl (look_own 5 rfl rfl rfl rfl)) | exact (.l rfl (look_own 6 rfl rfl rfl rfl)) | exact (.l rfl (look_own 7 rfl rfl rfl rfl)) | exact (.l rfl (look_agg 0 rfl rfl rfl rfl)) | exact (.l rfl (look_agg 1 rfl rfl rfl rfl)) | exact (.l rfl (look_agg 2 rfl rfl rfl rfl)) | exact (.l rfl (look_agg 3 rfl rfl rfl rfl)) | exact (.l rfl (look_agg 4 rfl rfl rfl rfl)) | exact (.l rfl (look_agg 5 rfl rfl rfl rfl)) | exact (.l rfl (look_agg 6 rfl rfl rfl rfl)) | exact (.l rfl (look_agg 7 rfl rfl rfl rfl)) | exact (.l rfl (look_str 0 rfl rfl rfl rfl rfl rfl rfl)) | exact (.l rfl (look_str 1 rfl rfl rfl rfl rfl rfl rfl)) | exact (.l rfl (look_str 2 rfl rfl rfl rfl rfl rfl rfl)) | exact (.l rfl (look_str 3 rfl rfl rfl rfl rfl rfl rfl)))
          | refine ops_skip rfl rfl rfl ?_
          | (refine ops_step rfl rfl rfl ?_; first | (refine step_box rfl rfl rfl (fun _ => ?_)) | (refine step_alloc rfl rfl rfl rfl (fun _ => ?_)) | (refine step_buildSlice rfl rfl rfl rfl rfl (fun _ => ?_)) | (refine step_map rfl (fun _ => ?_)) | (refine step_store 0 rfl rfl rfl rfl rfl rfl rfl rfl rfl ?_) | (refine step_store 1 rfl rfl rfl rfl rfl rfl rfl rfl rfl ?_) | (refine step_store 2 rfl rfl rfl rfl rfl rfl rfl rfl rfl ?_) | (refine step_store 3 rfl rfl rfl rfl rfl rfl rfl rfl rfl ?_) | (refine step_store 4 rfl rfl rfl rfl rfl rfl rfl rfl rfl ?_) | (refine step_store 5 rfl rfl rfl rfl rfl rfl rfl rfl rfl ?_) | (refine step_store 6 rfl rfl rfl rfl rfl rfl rfl rfl rfl ?_) | (refine step_store 7 rfl rfl rfl rfl rfl rfl rfl rfl rfl ?_)))
      rw [show (e' != 0) = true from by simpa using he]
      repeat (first
          | refine exec_seq ?_
          | refine exec_region ?_
          | refine exec_block ?_
          | refine exec_skip ?_
          | refine exec_exit ?_
          | refine exec_ret ?_
          | refine exec_true rfl ?_
          | refine exec_false rfl ?_
          | refine ops_nil ?_
          | (apply ops_pl rfl rfl rfl ?_ rfl ?_; rotate_left; focus first | exact (.bld rfl rfl rfl rfl) | exact (.neSelf rfl rfl rfl rfl) | exact (.eqSelf rfl rfl rfl rfl) | exact (.wr64 rfl rfl (by omega) (by omega)) | exact (.wr8 rfl rfl (by omega) (by omega)) | exact (.num rfl rfl (and127_u8N (by omega))) | exact (.num rfl rfl (or128_u8N (by omega))) | exact (.num rfl rfl (and127_i64N (by omega))) | exact (.num rfl rfl (and1_i64N (by omega))) | exact (.p rfl rfl) | exact (.max2 rfl rfl rfl) | exact (.min2 rfl rfl rfl) | exact (.numL rfl (fun _ => rfl) (byte_wrap _)) | exact (.cv64 rfl (fun _ => rfl) (by omega) (by omega)) | exact (.cv8 rfl (fun _ => rfl) (by omega) (by omega)) | exact (.l rfl (fun _ _ => rfl)) | exact (.l rfl (look_own 0 rfl rfl rfl rfl)) | exact (.l rfl (look_own 1 rfl rfl rfl rfl)) | exact (.l rfl (look_own 2 rfl rfl rfl rfl)) | exact (.l rfl (look_own 3 rfl rfl rfl rfl)) | exact (.l rfl (look_own 4 rfl rfl rfl rfl)) | exact (.l rfl (look_own 5 rfl rfl rfl rfl)) | exact (.l rfl (look_own 6 rfl rfl rfl rfl)) | exact (.l rfl (look_own 7 rfl rfl rfl rfl)) | exact (.l rfl (look_agg 0 rfl rfl rfl rfl)) | exact (.l rfl (look_agg 1 rfl rfl rfl rfl)) | exact (.l rfl (look_agg 2 rfl rfl rfl rfl)) | exact (.l rfl (look_agg 3 rfl rfl rfl rfl)) | exact (.l rfl (look_agg 4 rfl rfl rfl rfl)) | exact (.l rfl (look_agg 5 rfl rfl rfl rfl)) | exact (.l rfl (look_agg 6 rfl rfl rfl rfl)) | exact (.l rfl (look_agg 7 rfl rfl rfl rfl)) | exact (.l rfl (look_str 0 rfl rfl rfl rfl rfl rfl rfl)) | exact (.l rfl (look_str 1 rfl rfl rfl rfl rfl rfl rfl)) | exact (.l rfl (look_str 2 rfl rfl rfl rfl rfl rfl rfl)) | exact (.l rfl (look_str 3 rfl rfl rfl rfl rfl rfl rfl)))
          | refine ops_skip rfl rfl rfl ?_
          | (refine ops_step rfl rfl rfl ?_; first | (refine step_box rfl rfl rfl (fun _ => ?_)) | (refine step_alloc rfl rfl rfl rfl (fun _ => ?_)) | (refine step_buildSlice rfl rfl rfl rfl rfl (fun _ => ?_)) | (refine step_map rfl (fun _ => ?_)) | (refine step_store 0 rfl rfl rfl rfl rfl rfl rfl rfl rfl ?_) | (refine step_store 1 rfl rfl rfl rfl rfl rfl rfl rfl rfl ?_) | (refine step_store 2 rfl rfl rfl rfl rfl rfl rfl rfl rfl ?_) | (refine step_store 3 rfl rfl rfl rfl rfl rfl rfl rfl rfl ?_) | (refine step_store 4 rfl rfl rfl rfl rfl rfl rfl rfl rfl ?_) | (refine step_store 5 rfl rfl rfl rfl rfl rfl rfl rfl rfl ?_) | (refine step_store 6 rfl rfl rfl rfl rfl rfl rfl rfl rfl ?_) | (refine step_store 7 rfl rfl rfl rfl rfl rfl rfl rfl rfl ?_)))
      rw [← hp] at he ⊢
      exact ⟨trivial, _, rfl, [_], [_, _, _], List.Perm.refl _, _, _, _, _, rfl, .inl ⟨he, rfl, rfl⟩⟩
end Go.Proofs.Ythenkjmfpilicaa

