/-
  What a text's bytes tell; the walk of the reader where there are too few of them.
-/
import Derived.Test.YtafbconajhpijaaWWire5
namespace Go.Proofs.Ytafbconajhpijaa
open Go.Ev Go.Ev.Wk
set_option linter.unusedVariables false
set_option linter.unusedSimpArgs false
variable {O : Old}

theorem numGo_cases (most : Int) : ∀ (l : List UInt8) (i v : Nat), (∃ x k : Nat, numGo most l i v = ((x : Int), (k : Int), 0) ∧ i < k ∧ k ≤ i + l.length ∧ (x : Int) ≤ max most 0) ∨ ∃ e : Int, 0 < e ∧ e < 23 ∧ numGo most l i v = (0, 0, e)
  | [], i, v => .inr ⟨20, by decide, by decide, rfl⟩
  | c :: r, i, v => by
    rw [numGo]
    split
    · exact .inr ⟨21, by decide, by decide, rfl⟩
    · split
      · rcases numGo_cases most r (i + 1) (v + c.toNat % 128 * 2 ^ (7 * i)) with ⟨x, k, h1, h2, h3, h4⟩ | h
        · exact .inl ⟨x, k, h1, by omega, by rw [List.length_cons]; omega, h4⟩
        · exact .inr h
      · split
        · exact .inr ⟨22, by decide, by decide, rfl⟩
        · rename_i h
          refine .inl ⟨_, i + 1, rfl, by omega, by rw [List.length_cons]; omega, ?_⟩
          omega

theorem numR_cases (l : List UInt8) (most : Int) : (∃ x k : Nat, numR l most = ((x : Int), (k : Int), 0) ∧ 0 < k ∧ k ≤ l.length ∧ (x : Int) ≤ max most 0) ∨ ∃ e : Int, 0 < e ∧ e < 23 ∧ numR l most = (0, 0, e) := by
  rcases numGo_cases most l 0 0 with ⟨x, k, h1, h2, h3, h4⟩ | h
  · exact .inl ⟨x, k, h1, h2, by omega, h4⟩
  · exact .inr h

/-- what a text's bytes tell: the text, how many bytes there are of it, an error -/
def textR (l : List UInt8) (most : Int) : List UInt8 × Nat × Int :=
  if (numR l most).2.2 ≠ 0 then ([], 0, (numR l most).2.2)
  else if l.length < (numR l most).2.1.toNat + (numR l most).1.toNat then ([], 0, 20)
  else ((l.drop (numR l most).2.1.toNat).take (numR l most).1.toNat, (numR l most).2.1.toNat + (numR l most).1.toNat, 0)

theorem textR_cases (l : List UInt8) (most : Int) : (∃ x k : Nat, numR l most = ((x : Int), (k : Int), 0) ∧ k + x ≤ l.length ∧ 0 < k ∧ (x : Int) ≤ max most 0 ∧ textR l most = ((l.drop k).take x, k + x, 0))
    ∨ (∃ x k : Nat, numR l most = ((x : Int), (k : Int), 0) ∧ l.length < k + x ∧ k ≤ l.length ∧ (x : Int) ≤ max most 0 ∧ textR l most = ([], 0, 20)) ∨ ∃ e : Int, 0 < e ∧ e < 23 ∧ numR l most = (0, 0, e) ∧ textR l most = ([], 0, e) := by
  rcases numR_cases l most with ⟨x, k, h1, h2, h3, h4⟩ | ⟨e, h1, h2, h3⟩
  · by_cases h : l.length < k + x
    · refine .inr (.inl ⟨x, k, h1, h, h3, h4, ?_⟩)
      rw [textR, h1]
      simp [h]
    · refine .inl ⟨x, k, h1, by omega, h2, h4, ?_⟩
      rw [textR, h1]
      simp [h]
  · refine .inr (.inr ⟨e, h1, h2, h3, ?_⟩)
    rw [textR, h3]
    have : e ≠ 0 := by omega
    simp [this]

set_option maxHeartbeats 8000000 in
set_option maxRecDepth 100000 in
theorem textShort_ok {H : Heap} {rb : Nat} {a : Option Addr} {n c k x : Nat} {l : List UInt8} {most : Int} (hh : Has H rb (rdr a n c 0)) (hlt : rb < H.next) (hs0 : SlX [rb] O H (.slice a n c) 1 n (l.map by8)) (hn : n ≤ 1073741824) (hr : numR l most = ((x : Int), (k : Int), 0)) (hk : k ≤ n) (hx : n < k + x) :
    CallC TT O 28 [.pointer (some ⟨rb, 0, some 0⟩), .int .i64 most] H fun v H' => ∃ ct', ExtBut [rb] H H' ∧ Has H' rb ct' ∧ (ct' = rdr a n c 20 ∧ v = str []) := by
  refine call_mut rfl rfl rfl rfl rfl hh hlt ?_
  repeat (first
      | refine exec_seq ?_
      | refine exec_region ?_
      | refine exec_block ?_
      | refine exec_skip ?_
      | refine exec_exit ?_
      | refine exec_ret ?_
      | refine exec_true rfl ?_
      | refine exec_false rfl ?_
      | refine ops_nil ?_
      | (apply ops_pl rfl rfl rfl ?_ rfl ?_; rotate_left; focus first | exact (.bld rfl rfl rfl rfl) | exact (.neSelf rfl rfl rfl rfl) | exact (.eqSelf rfl rfl rfl rfl) | exact (.wr64 rfl rfl (by omega) (by omega)) | exact (.wr8 rfl rfl (by omega) (by omega)) | exact (.num rfl rfl (and127_u8N (by omega))) | exact (.num rfl rfl (or128_u8N (by omega))) | exact (.num rfl rfl (and127_i64N (by omega))) | exact (.num rfl rfl (and1_i64N (by omega))) | exact (.p rfl rfl) | exact (.max2 rfl rfl rfl) | exact (.min2 rfl rfl rfl) | exact (.numL rfl (fun _ => rfl) (byte_wrap _)) | exact (.cv64 rfl (fun _ => rfl) (by omega) (by omega)) | exact (.cv8 rfl (fun _ => rfl) (by omega) (by omega)) | exact (.l rfl (fun _ _ => rfl)) | exact (.l rfl (look_own 0 rfl rfl rfl rfl)) | exact (.l rfl (look_own 1 rfl rfl rfl rfl)) | exact (.l rfl (look_own 2 rfl rfl rfl rfl)) | exact (.l rfl (look_own 3 rfl rfl rfl rfl)) | exact (.l rfl (look_own 4 rfl rfl rfl rfl)) | exact (.l rfl (look_own 5 rfl rfl rfl rfl)) | exact (.l rfl (look_own 6 rfl rfl rfl rfl)) | exact (.l rfl (look_own 7 rfl rfl rfl rfl)) | exact (.l rfl (look_agg 0 rfl rfl rfl rfl)) | exact (.l rfl (look_agg 1 rfl rfl rfl rfl)) | exact (.l rfl (look_agg 2 rfl rfl rfl rfl)) | exact (.l rfl (look_agg 3 rfl rfl rfl rfl)) | exact (.l rfl (look_agg 4 rfl rfl rfl rfl)) | exact (.l rfl (look_agg 5 rfl rfl rfl rfl)) | exact (.l rfl (look_agg 6 rfl rfl rfl rfl)) | exact (.l rfl (look_agg 7 rfl rfl rfl rfl)) | exact (.l rfl (look_str 0 rfl rfl rfl rfl rfl rfl rfl)) | exact (.l rfl (look_str 1 rfl rfl rfl rfl rfl rfl rfl)) | exact (.l rfl (look_str 2 rfl rfl rfl rfl rfl rfl rfl)) | exact (.l rfl (look_str 3 rfl rfl rfl rfl rfl rfl rfl)))
      | refine ops_skip rfl rfl rfl ?_
      | (refine ops_step rfl rfl rfl ?_; first | (refine step_box rfl rfl rfl (fun _ => ?_)) | (refine step_alloc rfl rfl rfl rfl (fun _ => ?_)) | (refine step_buildSlice rfl rfl rfl rfl rfl (fun _ => ?_)) | (refine step_map rfl (fun _ => ?_)) | (refine step_store 0 rfl rfl rfl rfl rfl rfl rfl rfl rfl ?_) | (refine step_store 1 rfl rfl rfl rfl rfl rfl rfl rfl rfl ?_) | (refine step_store 2 rfl rfl rfl rfl rfl rfl rfl rfl rfl ?_) | (refine step_store 3 rfl rfl rfl rfl rfl rfl rfl rfl rfl ?_) | (refine step_store 4 rfl rfl rfl rfl rfl rfl rfl rfl rfl ?_) | (refine step_store 5 rfl rfl rfl rfl rfl rfl rfl rfl rfl ?_) | (refine step_store 6 rfl rfl rfl rfl rfl rfl rfl rfl rfl ?_) | (refine step_store 7 rfl rfl rfl rfl rfl rfl rfl rfl rfl ?_)))
  refine ops_step rfl rfl rfl (step_call_mut 0 rfl rfl rfl rfl (fun H' hs hh' hlt' => num_ok' hh' hlt' (hs0.mono hs.ext (fun _ h => h)) hn hr) (fun v ct' h => ?_))
  obtain ⟨rfl, rfl⟩ := h
  repeat (first
      | refine exec_seq ?_
      | refine exec_region ?_
      | refine exec_block ?_
      | refine exec_skip ?_
      | refine exec_exit ?_
      | refine exec_ret ?_
      | refine exec_true rfl ?_
      | refine exec_false rfl ?_
      | refine ops_nil ?_
      | (apply ops_pl rfl rfl rfl ?_ rfl ?_; rotate_left; focus first | exact (.bld rfl rfl rfl rfl) | exact (.neSelf rfl rfl rfl rfl) | exact (.eqSelf rfl rfl rfl rfl) | exact (.wr64 rfl rfl (by omega) (by omega)) | exact (.wr8 rfl rfl (by omega) (by omega)) | exact (.num rfl rfl (and127_u8N (by omega))) | exact (.num rfl rfl (or128_u8N (by omega))) | exact (.num rfl rfl (and127_i64N (by omega))) | exact (.num rfl rfl (and1_i64N (by omega))) | exact (.p rfl rfl) | exact (.max2 rfl rfl rfl) | exact (.min2 rfl rfl rfl) | exact (.numL rfl (fun _ => rfl) (byte_wrap _)) | exact (.cv64 rfl (fun _ => rfl) (by omega) (by omega)) | exact (.cv8 rfl (fun _ => rfl) (by omega) (by omega)) | exact (.l rfl (fun _ _ => rfl)) | exact (.l rfl (look_own 0 rfl rfl rfl rfl)) | exact (.l rfl (look_own 1 rfl rfl rfl rfl)) | exact (.l rfl (look_own 2 rfl rfl rfl rfl)) | exact (.l rfl (look_own 3 rfl rfl rfl rfl)) | exact (.l rfl (look_own 4 rfl rfl rfl rfl)) | exact (.l rfl (look_own 5 rfl rfl rfl rfl)) | exact (.l rfl (look_own 6 rfl rfl rfl rfl)) | exact (.l rfl (look_own 7 rfl rfl rfl rfl)) | exact (.l rfl (look_agg 0 rfl rfl rfl rfl)) | exact (.l rfl (look_agg 1 rfl rfl rfl rfl)) | exact (.l rfl (look_agg 2 rfl rfl rfl rfl)) | exact (.l rfl (look_agg 3 rfl rfl rfl rfl)) | exact (.l rfl (look_agg 4 rfl rfl rfl rfl)) | exact (.l rfl (look_agg 5 rfl rfl rfl rfl)) | exact (.l rfl (look_agg 6 rfl rfl rfl rfl)) | exact (.l rfl (look_agg 7 rfl rfl rfl rfl)) | exact (.l rfl (look_str 0 rfl rfl rfl rfl rfl rfl rfl)) | exact (.l rfl (look_str 1 rfl rfl rfl rfl rfl rfl rfl)) | exact (.l rfl (look_str 2 rfl rfl rfl rfl rfl rfl rfl)) | exact (.l rfl (look_str 3 rfl rfl rfl rfl rfl rfl rfl)))
      | refine ops_skip rfl rfl rfl ?_
      | (refine ops_step rfl rfl rfl ?_; first | (refine step_box rfl rfl rfl (fun _ => ?_)) | (refine step_alloc rfl rfl rfl rfl (fun _ => ?_)) | (refine step_buildSlice rfl rfl rfl rfl rfl (fun _ => ?_)) | (refine step_map rfl (fun _ => ?_)) | (refine step_store 0 rfl rfl rfl rfl rfl rfl rfl rfl rfl ?_) | (refine step_store 1 rfl rfl rfl rfl rfl rfl rfl rfl rfl ?_) | (refine step_store 2 rfl rfl rfl rfl rfl rfl rfl rfl rfl ?_) | (refine step_store 3 rfl rfl rfl rfl rfl rfl rfl rfl rfl ?_) | (refine step_store 4 rfl rfl rfl rfl rfl rfl rfl rfl rfl ?_) | (refine step_store 5 rfl rfl rfl rfl rfl rfl rfl rfl rfl ?_) | (refine step_store 6 rfl rfl rfl rfl rfl rfl rfl rfl rfl ?_) | (refine step_store 7 rfl rfl rfl rfl rfl rfl rfl rfl rfl ?_)))
  rw [show decide ((x : Int) > (n : Int) - (k : Int)) = true from by simp; omega]
  repeat (first
      | refine exec_seq ?_
      | refine exec_region ?_
      | refine exec_block ?_
      | refine exec_skip ?_
      | refine exec_exit ?_
      | refine exec_ret ?_
      | refine exec_true rfl ?_
      | refine exec_false rfl ?_
      | refine ops_nil ?_
      | (apply ops_pl rfl rfl rfl ?_ rfl ?_; rotate_left; focus first | exact (.bld rfl rfl rfl rfl) | exact (.neSelf rfl rfl rfl rfl) | exact (.eqSelf rfl rfl rfl rfl) | exact (.wr64 rfl rfl (by omega) (by omega)) | exact (.wr8 rfl rfl (by omega) (by omega)) | exact (.num rfl rfl (and127_u8N (by omega))) | exact (.num rfl rfl (or128_u8N (by omega))) | exact (.num rfl rfl (and127_i64N (by omega))) | exact (.num rfl rfl (and1_i64N (by omega))) | exact (.p rfl rfl) | exact (.max2 rfl rfl rfl) | exact (.min2 rfl rfl rfl) | exact (.numL rfl (fun _ => rfl) (byte_wrap _)) | exact (.cv64 rfl (fun _ => rfl) (by omega) (by omega)) | exact (.cv8 rfl (fun _ => rfl) (by omega) (by omega)) | exact (.l rfl (fun _ _ => rfl)) | exact (.l rfl (look_own 0 rfl rfl rfl rfl)) | exact (.l rfl (look_own 1 rfl rfl rfl rfl)) | exact (.l rfl (look_own 2 rfl rfl rfl rfl)) | exact (.l rfl (look_own 3 rfl rfl rfl rfl)) | exact (.l rfl (look_own 4 rfl rfl rfl rfl)) | exact (.l rfl (look_own 5 rfl rfl rfl rfl)) | exact (.l rfl (look_own 6 rfl rfl rfl rfl)) | exact (.l rfl (look_own 7 rfl rfl rfl rfl)) | exact (.l rfl (look_agg 0 rfl rfl rfl rfl)) | exact (.l rfl (look_agg 1 rfl rfl rfl rfl)) | exact (.l rfl (look_agg 2 rfl rfl rfl rfl)) | exact (.l rfl (look_agg 3 rfl rfl rfl rfl)) | exact (.l rfl (look_agg 4 rfl rfl rfl rfl)) | exact (.l rfl (look_agg 5 rfl rfl rfl rfl)) | exact (.l rfl (look_agg 6 rfl rfl rfl rfl)) | exact (.l rfl (look_agg 7 rfl rfl rfl rfl)) | exact (.l rfl (look_str 0 rfl rfl rfl rfl rfl rfl rfl)) | exact (.l rfl (look_str 1 rfl rfl rfl rfl rfl rfl rfl)) | exact (.l rfl (look_str 2 rfl rfl rfl rfl rfl rfl rfl)) | exact (.l rfl (look_str 3 rfl rfl rfl rfl rfl rfl rfl)))
      | refine ops_skip rfl rfl rfl ?_
      | (refine ops_step rfl rfl rfl ?_; first | (refine step_box rfl rfl rfl (fun _ => ?_)) | (refine step_alloc rfl rfl rfl rfl (fun _ => ?_)) | (refine step_buildSlice rfl rfl rfl rfl rfl (fun _ => ?_)) | (refine step_map rfl (fun _ => ?_)) | (refine step_store 0 rfl rfl rfl rfl rfl rfl rfl rfl rfl ?_) | (refine step_store 1 rfl rfl rfl rfl rfl rfl rfl rfl rfl ?_) | (refine step_store 2 rfl rfl rfl rfl rfl rfl rfl rfl rfl ?_) | (refine step_store 3 rfl rfl rfl rfl rfl rfl rfl rfl rfl ?_) | (refine step_store 4 rfl rfl rfl rfl rfl rfl rfl rfl rfl ?_) | (refine step_store 5 rfl rfl rfl rfl rfl rfl rfl rfl rfl ?_) | (refine step_store 6 rfl rfl rfl rfl rfl rfl rfl rfl rfl ?_) | (refine step_store 7 rfl rfl rfl rfl rfl rfl rfl rfl rfl ?_)))
  exact ⟨trivial, _, rfl, _, .head _, rfl, rfl⟩
end Go.Proofs.Ytafbconajhpijaa

