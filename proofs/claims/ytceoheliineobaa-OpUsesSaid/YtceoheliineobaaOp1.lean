/-
  Walks: what an op uses, and its name.
-/
import Derived.Test.YtceoheliineobaaDesc1
namespace Go.Proofs.Ytceoheliineobaa
open Go.Ev Go.Ev.Wk
set_option linter.unusedVariables false
set_option linter.unusedSimpArgs false
variable {O : Old}


/-- what an op uses -/
def usesZ (o : Int) : Int :=
  if o = 1 then 1 else if o = 2 then 2 else if o = 4 then 3 else if o = 5 then 3 else if o = 19 then 3 else if o = 20 then 3 else if o = 26 then 4 else if o = 27 then 4 else if o = 28 then 4 else if o = 29 then 4 else if o = 34 then 5 else if o = 35 then 5 else if o = 36 then 5 else if o = 37 then 5 else if o = 25 then 6 else if o = 30 then 6 else if o = 31 then 6 else 0

def opN : List (List UInt8) := [[80, 117, 115, 104, 73], [80, 117, 115, 104, 83], [80, 117, 115, 104, 78], [76, 111, 97, 100], [83, 116, 111, 114, 101], [80, 111, 112], [68, 117, 112], [65, 100, 100], [83, 117, 98], [77, 117, 108], [68, 105, 118], [82, 101, 109], [78, 101, 103], [76, 116], [69, 113], [67, 111, 110, 99, 97, 116], [76, 101, 110], [84, 101, 120, 116], [74, 117, 109, 112], [74, 117, 109, 112, 90], [78, 101, 119, 65], [76, 101, 110, 65], [71, 101, 116, 65], [80, 117, 116, 65], [78, 101, 119], [71, 101, 116, 70], [80, 117, 116, 70], [71, 101, 116, 83], [80, 117, 116, 83], [67, 97, 115, 116], [73, 115], [83, 97, 109, 101], [67, 104, 101, 99, 107], [67, 97, 108, 108, 86], [67, 97, 108, 108, 73], [67, 97, 108, 108, 83], [67, 97, 108, 108, 88], [84, 104, 114, 111, 119], [82, 101, 116], [82, 101, 116, 86], [80, 114, 105, 110, 116], [82, 101, 97, 100], [69, 120, 105, 116]]
/-- an op's name -/
def opnL (o : Int) : List UInt8 := if 1 ≤ o ∧ o ≤ 43 then opN[(o - 1).toNat]?.getD [] else []

theorem opnL_nil (o : Int) : decide (opnL o = []) = !(decide (1 ≤ o) && decide (o ≤ 43)) := by
  by_cases h : 1 ≤ o ∧ o ≤ 43
  · have hi : (o - 1).toNat < 43 := by omega
    have e : ∀ i, i < 43 → opN[i]?.getD [] ≠ [] := by decide
    have := e _ hi
    rw [opnL, if_pos h, decide_eq_false this, decide_eq_true h.1, decide_eq_true h.2]
    rfl
  · rw [opnL, if_neg h, decide_eq_true rfl]
    by_cases h1 : 1 ≤ o
    · have h2 : ¬ o ≤ 43 := fun h2 => h ⟨h1, h2⟩
      rw [decide_eq_true h1, decide_eq_false h2]; rfl
    · rw [decide_eq_false h1]; rfl

set_option maxHeartbeats 8000000 in
set_option maxRecDepth 100000 in
theorem uses_ok {H : Heap} {o : Int} : CallC TT O 32 [.int .i64 o] H fun v H' => v = .int .i64 (usesZ o) ∧ Ext H H' := by
  refine call_pure rfl rfl rfl rfl rfl ?_
  repeat (first
  | refine exec_seq ?_
  | refine exec_region ?_
  | refine exec_block ?_
  | refine exec_skip ?_
  | refine exec_exit ?_
  | refine exec_ret ?_
  | refine exec_true rfl ?_
  | refine exec_false rfl ?_
  | refine ops_nil ?_
  | (apply ops_pl rfl rfl rfl ?_ rfl ?_; rotate_left; focus first | exact (.bld rfl rfl rfl rfl) | exact (.cat rfl rfl rfl (by first | (simp; done) | (simp; omega))) | exact (.neSelf rfl rfl rfl rfl) | exact (.eqSelf rfl rfl rfl rfl) | exact (.wr64 rfl rfl (by omega) (by omega)) | exact (.p rfl rfl) | exact (.cv64 rfl (fun _ => rfl) (by omega) (by omega)) | exact (.l rfl (fun _ _ => rfl)) | exact (.l rfl (look_own 0 rfl rfl rfl rfl)) | exact (.l rfl (look_own 1 rfl rfl rfl rfl)))
  | refine ops_skip rfl rfl rfl ?_
  | (refine ops_step rfl rfl rfl ?_; first | (refine step_box rfl rfl rfl (fun _ => ?_)) | (refine step_alloc rfl rfl rfl rfl (fun _ => ?_)) | (refine step_buildSlice rfl rfl rfl rfl rfl (fun _ => ?_)) | (refine step_map rfl (fun _ => ?_))))
  cases h1 : (o == 1)
  rotate_left
  · repeat (first
    | refine exec_seq ?_
    | refine exec_region ?_
    | refine exec_block ?_
    | refine exec_skip ?_
    | refine exec_exit ?_
    | refine exec_ret ?_
    | refine exec_true rfl ?_
    | refine exec_false rfl ?_
    | refine ops_nil ?_
    | (apply ops_pl rfl rfl rfl ?_ rfl ?_; rotate_left; focus first | exact (.bld rfl rfl rfl rfl) | exact (.cat rfl rfl rfl (by first | (simp; done) | (simp; omega))) | exact (.neSelf rfl rfl rfl rfl) | exact (.eqSelf rfl rfl rfl rfl) | exact (.wr64 rfl rfl (by omega) (by omega)) | exact (.p rfl rfl) | exact (.cv64 rfl (fun _ => rfl) (by omega) (by omega)) | exact (.l rfl (fun _ _ => rfl)) | exact (.l rfl (look_own 0 rfl rfl rfl rfl)) | exact (.l rfl (look_own 1 rfl rfl rfl rfl)))
    | refine ops_skip rfl rfl rfl ?_
    | (refine ops_step rfl rfl rfl ?_; first | (refine step_box rfl rfl rfl (fun _ => ?_)) | (refine step_alloc rfl rfl rfl rfl (fun _ => ?_)) | (refine step_buildSlice rfl rfl rfl rfl rfl (fun _ => ?_)) | (refine step_map rfl (fun _ => ?_))))
    obtain rfl : o = 1 := by simpa using h1
    exact ⟨trivial, _, rfl, rfl⟩
  repeat (first
  | refine exec_seq ?_
  | refine exec_region ?_
  | refine exec_block ?_
  | refine exec_skip ?_
  | refine exec_exit ?_
  | refine exec_ret ?_
  | refine exec_true rfl ?_
  | refine exec_false rfl ?_
  | refine ops_nil ?_
  | (apply ops_pl rfl rfl rfl ?_ rfl ?_; rotate_left; focus first | exact (.bld rfl rfl rfl rfl) | exact (.cat rfl rfl rfl (by first | (simp; done) | (simp; omega))) | exact (.neSelf rfl rfl rfl rfl) | exact (.eqSelf rfl rfl rfl rfl) | exact (.wr64 rfl rfl (by omega) (by omega)) | exact (.p rfl rfl) | exact (.cv64 rfl (fun _ => rfl) (by omega) (by omega)) | exact (.l rfl (fun _ _ => rfl)) | exact (.l rfl (look_own 0 rfl rfl rfl rfl)) | exact (.l rfl (look_own 1 rfl rfl rfl rfl)))
  | refine ops_skip rfl rfl rfl ?_
  | (refine ops_step rfl rfl rfl ?_; first | (refine step_box rfl rfl rfl (fun _ => ?_)) | (refine step_alloc rfl rfl rfl rfl (fun _ => ?_)) | (refine step_buildSlice rfl rfl rfl rfl rfl (fun _ => ?_)) | (refine step_map rfl (fun _ => ?_))))
  cases h2 : (o == 2)
  rotate_left
  · repeat (first
    | refine exec_seq ?_
    | refine exec_region ?_
    | refine exec_block ?_
    | refine exec_skip ?_
    | refine exec_exit ?_
    | refine exec_ret ?_
    | refine exec_true rfl ?_
    | refine exec_false rfl ?_
    | refine ops_nil ?_
    | (apply ops_pl rfl rfl rfl ?_ rfl ?_; rotate_left; focus first | exact (.bld rfl rfl rfl rfl) | exact (.cat rfl rfl rfl (by first | (simp; done) | (simp; omega))) | exact (.neSelf rfl rfl rfl rfl) | exact (.eqSelf rfl rfl rfl rfl) | exact (.wr64 rfl rfl (by omega) (by omega)) | exact (.p rfl rfl) | exact (.cv64 rfl (fun _ => rfl) (by omega) (by omega)) | exact (.l rfl (fun _ _ => rfl)) | exact (.l rfl (look_own 0 rfl rfl rfl rfl)) | exact (.l rfl (look_own 1 rfl rfl rfl rfl)))
    | refine ops_skip rfl rfl rfl ?_
    | (refine ops_step rfl rfl rfl ?_; first | (refine step_box rfl rfl rfl (fun _ => ?_)) | (refine step_alloc rfl rfl rfl rfl (fun _ => ?_)) | (refine step_buildSlice rfl rfl rfl rfl rfl (fun _ => ?_)) | (refine step_map rfl (fun _ => ?_))))
    obtain rfl : o = 2 := by simpa using h2
    exact ⟨trivial, _, rfl, rfl⟩
  repeat (first
  | refine exec_seq ?_
  | refine exec_region ?_
  | refine exec_block ?_
  | refine exec_skip ?_
  | refine exec_exit ?_
  | refine exec_ret ?_
  | refine exec_true rfl ?_
  | refine exec_false rfl ?_
  | refine ops_nil ?_
  | (apply ops_pl rfl rfl rfl ?_ rfl ?_; rotate_left; focus first | exact (.bld rfl rfl rfl rfl) | exact (.cat rfl rfl rfl (by first | (simp; done) | (simp; omega))) | exact (.neSelf rfl rfl rfl rfl) | exact (.eqSelf rfl rfl rfl rfl) | exact (.wr64 rfl rfl (by omega) (by omega)) | exact (.p rfl rfl) | exact (.cv64 rfl (fun _ => rfl) (by omega) (by omega)) | exact (.l rfl (fun _ _ => rfl)) | exact (.l rfl (look_own 0 rfl rfl rfl rfl)) | exact (.l rfl (look_own 1 rfl rfl rfl rfl)))
  | refine ops_skip rfl rfl rfl ?_
  | (refine ops_step rfl rfl rfl ?_; first | (refine step_box rfl rfl rfl (fun _ => ?_)) | (refine step_alloc rfl rfl rfl rfl (fun _ => ?_)) | (refine step_buildSlice rfl rfl rfl rfl rfl (fun _ => ?_)) | (refine step_map rfl (fun _ => ?_))))
  cases h4 : (o == 4)
  rotate_left
  · repeat (first
    | refine exec_seq ?_
    | refine exec_region ?_
    | refine exec_block ?_
    | refine exec_skip ?_
    | refine exec_exit ?_
    | refine exec_ret ?_
    | refine exec_true rfl ?_
    | refine exec_false rfl ?_
    | refine ops_nil ?_
    | (apply ops_pl rfl rfl rfl ?_ rfl ?_; rotate_left; focus first | exact (.bld rfl rfl rfl rfl) | exact (.cat rfl rfl rfl (by first | (simp; done) | (simp; omega))) | exact (.neSelf rfl rfl rfl rfl) | exact (.eqSelf rfl rfl rfl rfl) | exact (.wr64 rfl rfl (by omega) (by omega)) | exact (.p rfl rfl) | exact (.cv64 rfl (fun _ => rfl) (by omega) (by omega)) | exact (.l rfl (fun _ _ => rfl)) | exact (.l rfl (look_own 0 rfl rfl rfl rfl)) | exact (.l rfl (look_own 1 rfl rfl rfl rfl)))
    | refine ops_skip rfl rfl rfl ?_
    | (refine ops_step rfl rfl rfl ?_; first | (refine step_box rfl rfl rfl (fun _ => ?_)) | (refine step_alloc rfl rfl rfl rfl (fun _ => ?_)) | (refine step_buildSlice rfl rfl rfl rfl rfl (fun _ => ?_)) | (refine step_map rfl (fun _ => ?_))))
    obtain rfl : o = 4 := by simpa using h4
    exact ⟨trivial, _, rfl, rfl⟩
  repeat (first
  | refine exec_seq ?_
  | refine exec_region ?_
  | refine exec_block ?_
  | refine exec_skip ?_
  | refine exec_exit ?_
  | refine exec_ret ?_
  | refine exec_true rfl ?_
  | refine exec_false rfl ?_
  | refine ops_nil ?_
  | (apply ops_pl rfl rfl rfl ?_ rfl ?_; rotate_left; focus first | exact (.bld rfl rfl rfl rfl) | exact (.cat rfl rfl rfl (by first | (simp; done) | (simp; omega))) | exact (.neSelf rfl rfl rfl rfl) | exact (.eqSelf rfl rfl rfl rfl) | exact (.wr64 rfl rfl (by omega) (by omega)) | exact (.p rfl rfl) | exact (.cv64 rfl (fun _ => rfl) (by omega) (by omega)) | exact (.l rfl (fun _ _ => rfl)) | exact (.l rfl (look_own 0 rfl rfl rfl rfl)) | exact (.l rfl (look_own 1 rfl rfl rfl rfl)))
  | refine ops_skip rfl rfl rfl ?_
  | (refine ops_step rfl rfl rfl ?_; first | (refine step_box rfl rfl rfl (fun _ => ?_)) | (refine step_alloc rfl rfl rfl rfl (fun _ => ?_)) | (refine step_buildSlice rfl rfl rfl rfl rfl (fun _ => ?_)) | (refine step_map rfl (fun _ => ?_))))
  cases h5 : (o == 5)
  rotate_left
  · repeat (first
    | refine exec_seq ?_
    | refine exec_region ?_
    | refine exec_block ?_
    | refine exec_skip ?_
    | refine exec_exit ?_
    | refine exec_ret ?_
    | refine exec_true rfl ?_
    | refine exec_false rfl ?_
    | refine ops_nil ?_
    | (apply ops_pl rfl rfl rfl ?_ rfl ?_; rotate_left; focus first | exact (.bld rfl rfl rfl rfl) | exact (.cat rfl rfl rfl (by first | (simp; done) | (simp; omega))) | exact (.neSelf rfl rfl rfl rfl) | exact (.eqSelf rfl rfl rfl rfl) | exact (.wr64 rfl rfl (by omega) (by omega)) | exact (.p rfl rfl) | exact (.cv64 rfl (fun _ => rfl) (by omega) (by omega)) | exact (.l rfl (fun _ _ => rfl)) | exact (.l rfl (look_own 0 rfl rfl rfl rfl)) | exact (.l rfl (look_own 1 rfl rfl rfl rfl)))
    | refine ops_skip rfl rfl rfl ?_
    | (refine ops_step rfl rfl rfl ?_; first | (refine step_box rfl rfl rfl (fun _ => ?_)) | (refine step_alloc rfl rfl rfl rfl (fun _ => ?_)) | (refine step_buildSlice rfl rfl rfl rfl rfl (fun _ => ?_)) | (refine step_map rfl (fun _ => ?_))))
    obtain rfl : o = 5 := by simpa using h5
    exact ⟨trivial, _, rfl, rfl⟩
  repeat (first
  | refine exec_seq ?_
  | refine exec_region ?_
  | refine exec_block ?_
  | refine exec_skip ?_
  | refine exec_exit ?_
  | refine exec_ret ?_
  | refine exec_true rfl ?_
  | refine exec_false rfl ?_
  | refine ops_nil ?_
  | (apply ops_pl rfl rfl rfl ?_ rfl ?_; rotate_left; focus first | exact (.bld rfl rfl rfl rfl) | exact (.cat rfl rfl rfl (by first | (simp; done) | (simp; omega))) | exact (.neSelf rfl rfl rfl rfl) | exact (.eqSelf rfl rfl rfl rfl) | exact (.wr64 rfl rfl (by omega) (by omega)) | exact (.p rfl rfl) | exact (.cv64 rfl (fun _ => rfl) (by omega) (by omega)) | exact (.l rfl (fun _ _ => rfl)) | exact (.l rfl (look_own 0 rfl rfl rfl rfl)) | exact (.l rfl (look_own 1 rfl rfl rfl rfl)))
  | refine ops_skip rfl rfl rfl ?_
  | (refine ops_step rfl rfl rfl ?_; first | (refine step_box rfl rfl rfl (fun _ => ?_)) | (refine step_alloc rfl rfl rfl rfl (fun _ => ?_)) | (refine step_buildSlice rfl rfl rfl rfl rfl (fun _ => ?_)) | (refine step_map rfl (fun _ => ?_))))
  cases h19 : (o == 19)
  rotate_left
  · repeat (first
    | refine exec_seq ?_
    | refine exec_region ?_
    | refine exec_block ?_
    | refine exec_skip ?_
    | refine exec_exit ?_
    | refine exec_ret ?_
    | refine exec_true rfl ?_
    | refine exec_false rfl ?_
    | refine ops_nil ?_
    | (apply ops_pl rfl rfl rfl ?_ rfl ?_; rotate_left; focus first | exact (.bld rfl rfl rfl rfl) | exact (.cat rfl rfl rfl (by first | (simp; done) | (simp; omega))) | exact (.neSelf rfl rfl rfl rfl) | exact (.eqSelf rfl rfl rfl rfl) | exact (.wr64 rfl rfl (by omega) (by omega)) | exact (.p rfl rfl) | exact (.cv64 rfl (fun _ => rfl) (by omega) (by omega)) | exact (.l rfl (fun _ _ => rfl)) | exact (.l rfl (look_own 0 rfl rfl rfl rfl)) | exact (.l rfl (look_own 1 rfl rfl rfl rfl)))
    | refine ops_skip rfl rfl rfl ?_
    | (refine ops_step rfl rfl rfl ?_; first | (refine step_box rfl rfl rfl (fun _ => ?_)) | (refine step_alloc rfl rfl rfl rfl (fun _ => ?_)) | (refine step_buildSlice rfl rfl rfl rfl rfl (fun _ => ?_)) | (refine step_map rfl (fun _ => ?_))))
    obtain rfl : o = 19 := by simpa using h19
    exact ⟨trivial, _, rfl, rfl⟩
  repeat (first
  | refine exec_seq ?_
  | refine exec_region ?_
  | refine exec_block ?_
  | refine exec_skip ?_
  | refine exec_exit ?_
  | refine exec_ret ?_
  | refine exec_true rfl ?_
  | refine exec_false rfl ?_
  | refine ops_nil ?_
  | (apply ops_pl rfl rfl rfl ?_ rfl ?_; rotate_left; focus first | exact (.bld rfl rfl rfl rfl) | exact (.cat rfl rfl rfl (by first | (simp; done) | (simp; omega))) | exact (.neSelf rfl rfl rfl rfl) | exact (.eqSelf rfl rfl rfl rfl) | exact (.wr64 rfl rfl (by omega) (by omega)) | exact (.p rfl rfl) | exact (.cv64 rfl (fun _ => rfl) (by omega) (by omega)) | exact (.l rfl (fun _ _ => rfl)) | exact (.l rfl (look_own 0 rfl rfl rfl rfl)) | exact (.l rfl (look_own 1 rfl rfl rfl rfl)))
  | refine ops_skip rfl rfl rfl ?_
  | (refine ops_step rfl rfl rfl ?_; first | (refine step_box rfl rfl rfl (fun _ => ?_)) | (refine step_alloc rfl rfl rfl rfl (fun _ => ?_)) | (refine step_buildSlice rfl rfl rfl rfl rfl (fun _ => ?_)) | (refine step_map rfl (fun _ => ?_))))
  cases h20 : (o == 20)
  rotate_left
  · repeat (first
    | refine exec_seq ?_
    | refine exec_region ?_
    | refine exec_block ?_
    | refine exec_skip ?_
    | refine exec_exit ?_
    | refine exec_ret ?_
    | refine exec_true rfl ?_
    | refine exec_false rfl ?_
    | refine ops_nil ?_
    | (apply ops_pl rfl rfl rfl ?_ rfl ?_; rotate_left; focus first | exact (.bld rfl rfl rfl rfl) | exact (.cat rfl rfl rfl (by first | (simp; done) | (simp; omega))) | exact (.neSelf rfl rfl rfl rfl) | exact (.eqSelf rfl rfl rfl rfl) | exact (.wr64 rfl rfl (by omega) (by omega)) | exact (.p rfl rfl) | exact (.cv64 rfl (fun _ => rfl) (by omega) (by omega)) | exact (.l rfl (fun _ _ => rfl)) | exact (.l rfl (look_own 0 rfl rfl rfl rfl)) | exact (.l rfl (look_own 1 rfl rfl rfl rfl)))
    | refine ops_skip rfl rfl rfl ?_
    | (refine ops_step rfl rfl rfl ?_; first | (refine step_box rfl rfl rfl (fun _ => ?_)) | (refine step_alloc rfl rfl rfl rfl (fun _ => ?_)) | (refine step_buildSlice rfl rfl rfl rfl rfl (fun _ => ?_)) | (refine step_map rfl (fun _ => ?_))))
    obtain rfl : o = 20 := by simpa using h20
    exact ⟨trivial, _, rfl, rfl⟩
  repeat (first
  | refine exec_seq ?_
  | refine exec_region ?_
  | refine exec_block ?_
  | refine exec_skip ?_
  | refine exec_exit ?_
  | refine exec_ret ?_
  | refine exec_true rfl ?_
  | refine exec_false rfl ?_
  | refine ops_nil ?_
  | (apply ops_pl rfl rfl rfl ?_ rfl ?_; rotate_left; focus first | exact (.bld rfl rfl rfl rfl) | exact (.cat rfl rfl rfl (by first | (simp; done) | (simp; omega))) | exact (.neSelf rfl rfl rfl rfl) | exact (.eqSelf rfl rfl rfl rfl) | exact (.wr64 rfl rfl (by omega) (by omega)) | exact (.p rfl rfl) | exact (.cv64 rfl (fun _ => rfl) (by omega) (by omega)) | exact (.l rfl (fun _ _ => rfl)) | exact (.l rfl (look_own 0 rfl rfl rfl rfl)) | exact (.l rfl (look_own 1 rfl rfl rfl rfl)))
  | refine ops_skip rfl rfl rfl ?_
  | (refine ops_step rfl rfl rfl ?_; first | (refine step_box rfl rfl rfl (fun _ => ?_)) | (refine step_alloc rfl rfl rfl rfl (fun _ => ?_)) | (refine step_buildSlice rfl rfl rfl rfl rfl (fun _ => ?_)) | (refine step_map rfl (fun _ => ?_))))
  cases h26 : (o == 26)
  rotate_left
  · repeat (first
    | refine exec_seq ?_
    | refine exec_region ?_
    | refine exec_block ?_
    | refine exec_skip ?_
    | refine exec_exit ?_
    | refine exec_ret ?_
    | refine exec_true rfl ?_
    | refine exec_false rfl ?_
    | refine ops_nil ?_
    | (apply ops_pl rfl rfl rfl ?_ rfl ?_; rotate_left; focus first | exact (.bld rfl rfl rfl rfl) | exact (.cat rfl rfl rfl (by first | (simp; done) | (simp; omega))) | exact (.neSelf rfl rfl rfl rfl) | exact (.eqSelf rfl rfl rfl rfl) | exact (.wr64 rfl rfl (by omega) (by omega)) | exact (.p rfl rfl) | exact (.cv64 rfl (fun _ => rfl) (by omega) (by omega)) | exact (.l rfl (fun _ _ => rfl)) | exact (.l rfl (look_own 0 rfl rfl rfl rfl)) | exact (.l rfl (look_own 1 rfl rfl rfl rfl)))
    | refine ops_skip rfl rfl rfl ?_
    | (refine ops_step rfl rfl rfl ?_; first | (refine step_box rfl rfl rfl (fun _ => ?_)) | (refine step_alloc rfl rfl rfl rfl (fun _ => ?_)) | (refine step_buildSlice rfl rfl rfl rfl rfl (fun _ => ?_)) | (refine step_map rfl (fun _ => ?_))))
    obtain rfl : o = 26 := by simpa using h26
    exact ⟨trivial, _, rfl, rfl⟩
  repeat (first
  | refine exec_seq ?_
  | refine exec_region ?_
  | refine exec_block ?_
  | refine exec_skip ?_
  | refine exec_exit ?_
  | refine exec_ret ?_
  | refine exec_true rfl ?_
  | refine exec_false rfl ?_
  | refine ops_nil ?_
  | (apply ops_pl rfl rfl rfl ?_ rfl ?_; rotate_left; focus first | exact (.bld rfl rfl rfl rfl) | exact (.cat rfl rfl rfl (by first | (simp; done) | (simp; omega))) | exact (.neSelf rfl rfl rfl rfl) | exact (.eqSelf rfl rfl rfl rfl) | exact (.wr64 rfl rfl (by omega) (by omega)) | exact (.p rfl rfl) | exact (.cv64 rfl (fun _ => rfl) (by omega) (by omega)) | exact (.l rfl (fun _ _ => rfl)) | exact (.l rfl (look_own 0 rfl rfl rfl rfl)) | exact (.l rfl (look_own 1 rfl rfl rfl rfl)))
  | refine ops_skip rfl rfl rfl ?_
  | (refine ops_step rfl rfl rfl ?_; first | (refine step_box rfl rfl rfl (fun _ => ?_)) | (refine step_alloc rfl rfl rfl rfl (fun _ => ?_)) | (refine step_buildSlice rfl rfl rfl rfl rfl (fun _ => ?_)) | (refine step_map rfl (fun _ => ?_))))
  cases h27 : (o == 27)
  rotate_left
  · repeat (first
    | refine exec_seq ?_
    | refine exec_region ?_
    | refine exec_block ?_
    | refine exec_skip ?_
    | refine exec_exit ?_
    | refine exec_ret ?_
    | refine exec_true rfl ?_
    | refine exec_false rfl ?_
    | refine ops_nil ?_
    | (apply ops_pl rfl rfl rfl ?_ rfl ?_; rotate_left; focus first | exact (.bld rfl rfl rfl rfl) | exact (.cat rfl rfl rfl (by first | (simp; done) | (simp; omega))) | exact (.neSelf rfl rfl rfl rfl) | exact (.eqSelf rfl rfl rfl rfl) | exact (.wr64 rfl rfl (by omega) (by omega)) | exact (.p rfl rfl) | exact (.cv64 rfl (fun _ => rfl) (by omega) (by omega)) | exact (.l rfl (fun _ _ => rfl)) | exact (.l rfl (look_own 0 rfl rfl rfl rfl)) | exact (.l rfl (look_own 1 rfl rfl rfl rfl)))
    | refine ops_skip rfl rfl rfl ?_
    | (refine ops_step rfl rfl rfl ?_; first | (refine step_box rfl rfl rfl (fun _ => ?_)) | (refine step_alloc rfl rfl rfl rfl (fun _ => ?_)) | (refine step_buildSlice rfl rfl rfl rfl rfl (fun _ => ?_)) | (refine step_map rfl (fun _ => ?_))))
    obtain rfl : o = 27 := by simpa using h27
    exact ⟨trivial, _, rfl, rfl⟩
  repeat (first
  | refine exec_seq ?_
  | refine exec_region ?_
  | refine exec_block ?_
  | refine exec_skip ?_
  | refine exec_exit ?_
  | refine exec_ret ?_
  | refine exec_true rfl ?_
  | refine exec_false rfl ?_
  | refine ops_nil ?_
  | (apply ops_pl rfl rfl rfl ?_ rfl ?_; rotate_left; focus first | exact (.bld rfl rfl rfl rfl) | exact (.cat rfl rfl rfl (by first | (simp; done) | (simp; omega))) | exact (.neSelf rfl rfl rfl rfl) | exact (.eqSelf rfl rfl rfl rfl) | exact (.wr64 rfl rfl (by omega) (by omega)) | exact (.p rfl rfl) | exact (.cv64 rfl (fun _ => rfl) (by omega) (by omega)) | exact (.l rfl (fun _ _ => rfl)) | exact (.l rfl (look_own 0 rfl rfl rfl rfl)) | exact (.l rfl (look_own 1 rfl rfl rfl rfl)))
  | refine ops_skip rfl rfl rfl ?_
  | (refine ops_step rfl rfl rfl ?_; first | (refine step_box rfl rfl rfl (fun _ => ?_)) | (refine step_alloc rfl rfl rfl rfl (fun _ => ?_)) | (refine step_buildSlice rfl rfl rfl rfl rfl (fun _ => ?_)) | (refine step_map rfl (fun _ => ?_))))
  cases h28 : (o == 28)
  rotate_left
  · repeat (first
    | refine exec_seq ?_
    | refine exec_region ?_
    | refine exec_block ?_
    | refine exec_skip ?_
    | refine exec_exit ?_
    | refine exec_ret ?_
    | refine exec_true rfl ?_
    | refine exec_false rfl ?_
    | refine ops_nil ?_
    | (apply ops_pl rfl rfl rfl ?_ rfl ?_; rotate_left; focus first | exact (.bld rfl rfl rfl rfl) | exact (.cat rfl rfl rfl (by first | (simp; done) | (simp; omega))) | exact (.neSelf rfl rfl rfl rfl) | exact (.eqSelf rfl rfl rfl rfl) | exact (.wr64 rfl rfl (by omega) (by omega)) | exact (.p rfl rfl) | exact (.cv64 rfl (fun _ => rfl) (by omega) (by omega)) | exact (.l rfl (fun _ _ => rfl)) | exact (.l rfl (look_own 0 rfl rfl rfl rfl)) | exact (.l rfl (look_own 1 rfl rfl rfl rfl)))
    | refine ops_skip rfl rfl rfl ?_
    | (refine ops_step rfl rfl rfl ?_; first | (refine step_box rfl rfl rfl (fun _ => ?_)) | (refine step_alloc rfl rfl rfl rfl (fun _ => ?_)) | (refine step_buildSlice rfl rfl rfl rfl rfl (fun _ => ?_)) | (refine step_map rfl (fun _ => ?_))))
    obtain rfl : o = 28 := by simpa using h28
    exact ⟨trivial, _, rfl, rfl⟩
  repeat (first
  | refine exec_seq ?_
  | refine exec_region ?_
  | refine exec_block ?_
  | refine exec_skip ?_
  | refine exec_exit ?_
  | refine exec_ret ?_
  | refine exec_true rfl ?_
  | refine exec_false rfl ?_
  | refine ops_nil ?_
  | (apply ops_pl rfl rfl rfl ?_ rfl ?_; rotate_left; focus first | exact (.bld rfl rfl rfl rfl) | exact (.cat rfl rfl rfl (by first | (simp; done) | (simp; omega))) | exact (.neSelf rfl rfl rfl rfl) | exact (.eqSelf rfl rfl rfl rfl) | exact (.wr64 rfl rfl (by omega) (by omega)) | exact (.p rfl rfl) | exact (.cv64 rfl (fun _ => rfl) (by omega) (by omega)) | exact (.l rfl (fun _ _ => rfl)) | exact (.l rfl (look_own 0 rfl rfl rfl rfl)) | exact (.l rfl (look_own 1 rfl rfl rfl rfl)))
  | refine ops_skip rfl rfl rfl ?_
  | (refine ops_step rfl rfl rfl ?_; first | (refine step_box rfl rfl rfl (fun _ => ?_)) | (refine step_alloc rfl rfl rfl rfl (fun _ => ?_)) | (refine step_buildSlice rfl rfl rfl rfl rfl (fun _ => ?_)) | (refine step_map rfl (fun _ => ?_))))
  cases h29 : (o == 29)
  rotate_left
  · repeat (first
    | refine exec_seq ?_
    | refine exec_region ?_
    | refine exec_block ?_
    | refine exec_skip ?_
    | refine exec_exit ?_
    | refine exec_ret ?_
    | refine exec_true rfl ?_
    | refine exec_false rfl ?_
    | refine ops_nil ?_
    | (apply ops_pl rfl rfl rfl ?_ rfl ?_; rotate_left; focus first | exact (.bld rfl rfl rfl rfl) | exact (.cat rfl rfl rfl (by first | (simp; done) | (simp; omega))) | exact (.neSelf rfl rfl rfl rfl) | exact (.eqSelf rfl rfl rfl rfl) | exact (.wr64 rfl rfl (by omega) (by omega)) | exact (.p rfl rfl) | exact (.cv64 rfl (fun _ => rfl) (by omega) (by omega)) | exact (.l rfl (fun _ _ => rfl)) | exact (.l rfl (look_own 0 rfl rfl rfl rfl)) | exact (.l rfl (look_own 1 rfl rfl rfl rfl)))
    | refine ops_skip rfl rfl rfl ?_
    | (refine ops_step rfl rfl rfl ?_; first | (refine step_box rfl rfl rfl (fun _ => ?_)) | (refine step_alloc rfl rfl rfl rfl (fun _ => ?_)) | (refine step_buildSlice rfl rfl rfl rfl rfl (fun _ => ?_)) | (refine step_map rfl (fun _ => ?_))))
    obtain rfl : o = 29 := by simpa using h29
    exact ⟨trivial, _, rfl, rfl⟩
  repeat (first
  | refine exec_seq ?_
  | refine exec_region ?_
  | refine exec_block ?_
  | refine exec_skip ?_
  | refine exec_exit ?_
  | refine exec_ret ?_
  | refine exec_true rfl ?_
  | refine exec_false rfl ?_
  | refine ops_nil ?_
  | (apply ops_pl rfl rfl rfl ?_ rfl ?_; rotate_left; focus first | exact (.bld rfl rfl rfl rfl) | exact (.cat rfl rfl rfl (by first | (simp; done) | (simp; omega))) | exact (.neSelf rfl rfl rfl rfl) | exact (.eqSelf rfl rfl rfl rfl) | exact (.wr64 rfl rfl (by omega) (by omega)) | exact (.p rfl rfl) | exact (.cv64 rfl (fun _ => rfl) (by omega) (by omega)) | exact (.l rfl (fun _ _ => rfl)) | exact (.l rfl (look_own 0 rfl rfl rfl rfl)) | exact (.l rfl (look_own 1 rfl rfl rfl rfl)))
  | refine ops_skip rfl rfl rfl ?_
  | (refine ops_step rfl rfl rfl ?_; first | (refine step_box rfl rfl rfl (fun _ => ?_)) | (refine step_alloc rfl rfl rfl rfl (fun _ => ?_)) | (refine step_buildSlice rfl rfl rfl rfl rfl (fun _ => ?_)) | (refine step_map rfl (fun _ => ?_))))
  cases h34 : (o == 34)
  rotate_left
  · repeat (first
    | refine exec_seq ?_
    | refine exec_region ?_
    | refine exec_block ?_
    | refine exec_skip ?_
    | refine exec_exit ?_
    | refine exec_ret ?_
    | refine exec_true rfl ?_
    | refine exec_false rfl ?_
    | refine ops_nil ?_
    | (apply ops_pl rfl rfl rfl ?_ rfl ?_; rotate_left; focus first | exact (.bld rfl rfl rfl rfl) | exact (.cat rfl rfl rfl (by first | (simp; done) | (simp; omega))) | exact (.neSelf rfl rfl rfl rfl) | exact (.eqSelf rfl rfl rfl rfl) | exact (.wr64 rfl rfl (by omega) (by omega)) | exact (.p rfl rfl) | exact (.cv64 rfl (fun _ => rfl) (by omega) (by omega)) | exact (.l rfl (fun _ _ => rfl)) | exact (.l rfl (look_own 0 rfl rfl rfl rfl)) | exact (.l rfl (look_own 1 rfl rfl rfl rfl)))
    | refine ops_skip rfl rfl rfl ?_
    | (refine ops_step rfl rfl rfl ?_; first | (refine step_box rfl rfl rfl (fun _ => ?_)) | (refine step_alloc rfl rfl rfl rfl (fun _ => ?_)) | (refine step_buildSlice rfl rfl rfl rfl rfl (fun _ => ?_)) | (refine step_map rfl (fun _ => ?_))))
    obtain rfl : o = 34 := by simpa using h34
    exact ⟨trivial, _, rfl, rfl⟩
  repeat (first
  | refine exec_seq ?_
  | refine exec_region ?_
  | refine exec_block ?_
  | refine exec_skip ?_
  | refine exec_exit ?_
  | refine exec_ret ?_
  | refine exec_true rfl ?_
  | refine exec_false rfl ?_
  | refine ops_nil ?_
  | (apply ops_pl rfl rfl rfl ?_ rfl ?_; rotate_left; focus first | exact (.bld rfl rfl rfl rfl) | exact (.cat rfl rfl rfl (by first | (simp; done) | (simp; omega))) | exact (.neSelf rfl rfl rfl rfl) | exact (.eqSelf rfl rfl rfl rfl) | exact (.wr64 rfl rfl (by omega) (by omega)) | exact (.p rfl rfl) | exact (.cv64 rfl (fun _ => rfl) (by omega) (by omega)) | exact (.l rfl (fun _ _ => rfl)) | exact (.l rfl (look_own 0 rfl rfl rfl rfl)) | exact (.l rfl (look_own 1 rfl rfl rfl rfl)))
  | refine ops_skip rfl rfl rfl ?_
  | (refine ops_step rfl rfl rfl ?_; first | (refine step_box rfl rfl rfl (fun _ => ?_)) | (refine step_alloc rfl rfl rfl rfl (fun _ => ?_)) | (refine step_buildSlice rfl rfl rfl rfl rfl (fun _ => ?_)) | (refine step_map rfl (fun _ => ?_))))
  cases h35 : (o == 35)
  rotate_left
  · repeat (first
    | refine exec_seq ?_
    | refine exec_region ?_
    | refine exec_block ?_
    | refine exec_skip ?_
    | refine exec_exit ?_
    | refine exec_ret ?_
    | refine exec_true rfl ?_
    | refine exec_false rfl ?_
    | refine ops_nil ?_
    | (apply ops_pl rfl rfl rfl ?_ rfl ?_; rotate_left; focus first | exact (.bld rfl rfl rfl rfl) | exact (.cat rfl rfl rfl (by first | (simp; done) | (simp; omega))) | exact (.neSelf rfl rfl rfl rfl) | exact (.eqSelf rfl rfl rfl rfl) | exact (.wr64 rfl rfl (by omega) (by omega)) | exact (.p rfl rfl) | exact (.cv64 rfl (fun _ => rfl) (by omega) (by omega)) | exact (.l rfl (fun _ _ => rfl)) | exact (.l rfl (look_own 0 rfl rfl rfl rfl)) | exact (.l rfl (look_own 1 rfl rfl rfl rfl)))
    | refine ops_skip rfl rfl rfl ?_
    | (refine ops_step rfl rfl rfl ?_; first | (refine step_box rfl rfl rfl (fun _ => ?_)) | (refine step_alloc rfl rfl rfl rfl (fun _ => ?_)) | (refine step_buildSlice rfl rfl rfl rfl rfl (fun _ => ?_)) | (refine step_map rfl (fun _ => ?_))))
    obtain rfl : o = 35 := by simpa using h35
    exact ⟨trivial, _, rfl, rfl⟩
  repeat (first
  | refine exec_seq ?_
  | refine exec_region ?_
  | refine exec_block ?_
  | refine exec_skip ?_
  | refine exec_exit ?_
  | refine exec_ret ?_
  | refine exec_true rfl ?_
  | refine exec_false rfl ?_
  | refine ops_nil ?_
  | (apply ops_pl rfl rfl rfl ?_ rfl ?_; rotate_left; focus first | exact (.bld rfl rfl rfl rfl) | exact (.cat rfl rfl rfl (by first | (simp; done) | (simp; omega))) | exact (.neSelf rfl rfl rfl rfl) | exact (.eqSelf rfl rfl rfl rfl) | exact (.wr64 rfl rfl (by omega) (by omega)) | exact (.p rfl rfl) | exact (.cv64 rfl (fun _ => rfl) (by omega) (by omega)) | exact (.l rfl (fun _ _ => rfl)) | exact (.l rfl (look_own 0 rfl rfl rfl rfl)) | exact (.l rfl (look_own 1 rfl rfl rfl rfl)))
  | refine ops_skip rfl rfl rfl ?_
  | (refine ops_step rfl rfl rfl ?_; first | (refine step_box rfl rfl rfl (fun _ => ?_)) | (refine step_alloc rfl rfl rfl rfl (fun _ => ?_)) | (refine step_buildSlice rfl rfl rfl rfl rfl (fun _ => ?_)) | (refine step_map rfl (fun _ => ?_))))
  cases h36 : (o == 36)
  rotate_left
  · repeat (first
    | refine exec_seq ?_
    | refine exec_region ?_
    | refine exec_block ?_
    | refine exec_skip ?_
    | refine exec_exit ?_
    | refine exec_ret ?_
    | refine exec_true rfl ?_
    | refine exec_false rfl ?_
    | refine ops_nil ?_
    | (apply ops_pl rfl rfl rfl ?_ rfl ?_; rotate_left; focus first | exact (.bld rfl rfl rfl rfl) | exact (.cat rfl rfl rfl (by first | (simp; done) | (simp; omega))) | exact (.neSelf rfl rfl rfl rfl) | exact (.eqSelf rfl rfl rfl rfl) | exact (.wr64 rfl rfl (by omega) (by omega)) | exact (.p rfl rfl) | exact (.cv64 rfl (fun _ => rfl) (by omega) (by omega)) | exact (.l rfl (fun _ _ => rfl)) | exact (.l rfl (look_own 0 rfl rfl rfl rfl)) | exact (.l rfl (look_own 1 rfl rfl rfl rfl)))
    | refine ops_skip rfl rfl rfl ?_
    | (refine ops_step rfl rfl rfl ?_; first | (refine step_box rfl rfl rfl (fun _ => ?_)) | (refine step_alloc rfl rfl rfl rfl (fun _ => ?_)) | (refine step_buildSlice rfl rfl rfl rfl rfl (fun _ => ?_)) | (refine step_map rfl (fun _ => ?_))))
    obtain rfl : o = 36 := by simpa using h36
    exact ⟨trivial, _, rfl, rfl⟩
  repeat (first
  | refine exec_seq ?_
  | refine exec_region ?_
  | refine exec_block ?_
  | refine exec_skip ?_
  | refine exec_exit ?_
  | refine exec_ret ?_
  | refine exec_true rfl ?_
  | refine exec_false rfl ?_
  | refine ops_nil ?_
  | (apply ops_pl rfl rfl rfl ?_ rfl ?_; rotate_left; focus first | exact (.bld rfl rfl rfl rfl) | exact (.cat rfl rfl rfl (by first | (simp; done) | (simp; omega))) | exact (.neSelf rfl rfl rfl rfl) | exact (.eqSelf rfl rfl rfl rfl) | exact (.wr64 rfl rfl (by omega) (by omega)) | exact (.p rfl rfl) | exact (.cv64 rfl (fun _ => rfl) (by omega) (by omega)) | exact (.l rfl (fun _ _ => rfl)) | exact (.l rfl (look_own 0 rfl rfl rfl rfl)) | exact (.l rfl (look_own 1 rfl rfl rfl rfl)))
  | refine ops_skip rfl rfl rfl ?_
  | (refine ops_step rfl rfl rfl ?_; first | (refine step_box rfl rfl rfl (fun _ => ?_)) | (refine step_alloc rfl rfl rfl rfl (fun _ => ?_)) | (refine step_buildSlice rfl rfl rfl rfl rfl (fun _ => ?_)) | (refine step_map rfl (fun _ => ?_))))
  cases h37 : (o == 37)
  rotate_left
  · repeat (first
    | refine exec_seq ?_
    | refine exec_region ?_
    | refine exec_block ?_
    | refine exec_skip ?_
    | refine exec_exit ?_
    | refine exec_ret ?_
    | refine exec_true rfl ?_
    | refine exec_false rfl ?_
    | refine ops_nil ?_
    | (apply ops_pl rfl rfl rfl ?_ rfl ?_; rotate_left; focus first | exact (.bld rfl rfl rfl rfl) | exact (.cat rfl rfl rfl (by first | (simp; done) | (simp; omega))) | exact (.neSelf rfl rfl rfl rfl) | exact (.eqSelf rfl rfl rfl rfl) | exact (.wr64 rfl rfl (by omega) (by omega)) | exact (.p rfl rfl) | exact (.cv64 rfl (fun _ => rfl) (by omega) (by omega)) | exact (.l rfl (fun _ _ => rfl)) | exact (.l rfl (look_own 0 rfl rfl rfl rfl)) | exact (.l rfl (look_own 1 rfl rfl rfl rfl)))
    | refine ops_skip rfl rfl rfl ?_
    | (refine ops_step rfl rfl rfl ?_; first | (refine step_box rfl rfl rfl (fun _ => ?_)) | (refine step_alloc rfl rfl rfl rfl (fun _ => ?_)) | (refine step_buildSlice rfl rfl rfl rfl rfl (fun _ => ?_)) | (refine step_map rfl (fun _ => ?_))))
    obtain rfl : o = 37 := by simpa using h37
    exact ⟨trivial, _, rfl, rfl⟩
  repeat (first
  | refine exec_seq ?_
  | refine exec_region ?_
  | refine exec_block ?_
  | refine exec_skip ?_
  | refine exec_exit ?_
  | refine exec_ret ?_
  | refine exec_true rfl ?_
  | refine exec_false rfl ?_
  | refine ops_nil ?_
  | (apply ops_pl rfl rfl rfl ?_ rfl ?_; rotate_left; focus first | exact (.bld rfl rfl rfl rfl) | exact (.cat rfl rfl rfl (by first | (simp; done) | (simp; omega))) | exact (.neSelf rfl rfl rfl rfl) | exact (.eqSelf rfl rfl rfl rfl) | exact (.wr64 rfl rfl (by omega) (by omega)) | exact (.p rfl rfl) | exact (.cv64 rfl (fun _ => rfl) (by omega) (by omega)) | exact (.l rfl (fun _ _ => rfl)) | exact (.l rfl (look_own 0 rfl rfl rfl rfl)) | exact (.l rfl (look_own 1 rfl rfl rfl rfl)))
  | refine ops_skip rfl rfl rfl ?_
  | (refine ops_step rfl rfl rfl ?_; first | (refine step_box rfl rfl rfl (fun _ => ?_)) | (refine step_alloc rfl rfl rfl rfl (fun _ => ?_)) | (refine step_buildSlice rfl rfl rfl rfl rfl (fun _ => ?_)) | (refine step_map rfl (fun _ => ?_))))
  cases h25 : (o == 25)
  rotate_left
  · repeat (first
    | refine exec_seq ?_
    | refine exec_region ?_
    | refine exec_block ?_
    | refine exec_skip ?_
    | refine exec_exit ?_
    | refine exec_ret ?_
    | refine exec_true rfl ?_
    | refine exec_false rfl ?_
    | refine ops_nil ?_
    | (apply ops_pl rfl rfl rfl ?_ rfl ?_; rotate_left; focus first | exact (.bld rfl rfl rfl rfl) | exact (.cat rfl rfl rfl (by first | (simp; done) | (simp; omega))) | exact (.neSelf rfl rfl rfl rfl) | exact (.eqSelf rfl rfl rfl rfl) | exact (.wr64 rfl rfl (by omega) (by omega)) | exact (.p rfl rfl) | exact (.cv64 rfl (fun _ => rfl) (by omega) (by omega)) | exact (.l rfl (fun _ _ => rfl)) | exact (.l rfl (look_own 0 rfl rfl rfl rfl)) | exact (.l rfl (look_own 1 rfl rfl rfl rfl)))
    | refine ops_skip rfl rfl rfl ?_
    | (refine ops_step rfl rfl rfl ?_; first | (refine step_box rfl rfl rfl (fun _ => ?_)) | (refine step_alloc rfl rfl rfl rfl (fun _ => ?_)) | (refine step_buildSlice rfl rfl rfl rfl rfl (fun _ => ?_)) | (refine step_map rfl (fun _ => ?_))))
    obtain rfl : o = 25 := by simpa using h25
    exact ⟨trivial, _, rfl, rfl⟩
  repeat (first
  | refine exec_seq ?_
  | refine exec_region ?_
  | refine exec_block ?_
  | refine exec_skip ?_
  | refine exec_exit ?_
  | refine exec_ret ?_
  | refine exec_true rfl ?_
  | refine exec_false rfl ?_
  | refine ops_nil ?_
  | (apply ops_pl rfl rfl rfl ?_ rfl ?_; rotate_left; focus first | exact (.bld rfl rfl rfl rfl) | exact (.cat rfl rfl rfl (by first | (simp; done) | (simp; omega))) | exact (.neSelf rfl rfl rfl rfl) | exact (.eqSelf rfl rfl rfl rfl) | exact (.wr64 rfl rfl (by omega) (by omega)) | exact (.p rfl rfl) | exact (.cv64 rfl (fun _ => rfl) (by omega) (by omega)) | exact (.l rfl (fun _ _ => rfl)) | exact (.l rfl (look_own 0 rfl rfl rfl rfl)) | exact (.l rfl (look_own 1 rfl rfl rfl rfl)))
  | refine ops_skip rfl rfl rfl ?_
  | (refine ops_step rfl rfl rfl ?_; first | (refine step_box rfl rfl rfl (fun _ => ?_)) | (refine step_alloc rfl rfl rfl rfl (fun _ => ?_)) | (refine step_buildSlice rfl rfl rfl rfl rfl (fun _ => ?_)) | (refine step_map rfl (fun _ => ?_))))
  cases h30 : (o == 30)
  rotate_left
  · repeat (first
    | refine exec_seq ?_
    | refine exec_region ?_
    | refine exec_block ?_
    | refine exec_skip ?_
    | refine exec_exit ?_
    | refine exec_ret ?_
    | refine exec_true rfl ?_
    | refine exec_false rfl ?_
    | refine ops_nil ?_
    | (apply ops_pl rfl rfl rfl ?_ rfl ?_; rotate_left; focus first | exact (.bld rfl rfl rfl rfl) | exact (.cat rfl rfl rfl (by first | (simp; done) | (simp; omega))) | exact (.neSelf rfl rfl rfl rfl) | exact (.eqSelf rfl rfl rfl rfl) | exact (.wr64 rfl rfl (by omega) (by omega)) | exact (.p rfl rfl) | exact (.cv64 rfl (fun _ => rfl) (by omega) (by omega)) | exact (.l rfl (fun _ _ => rfl)) | exact (.l rfl (look_own 0 rfl rfl rfl rfl)) | exact (.l rfl (look_own 1 rfl rfl rfl rfl)))
    | refine ops_skip rfl rfl rfl ?_
    | (refine ops_step rfl rfl rfl ?_; first | (refine step_box rfl rfl rfl (fun _ => ?_)) | (refine step_alloc rfl rfl rfl rfl (fun _ => ?_)) | (refine step_buildSlice rfl rfl rfl rfl rfl (fun _ => ?_)) | (refine step_map rfl (fun _ => ?_))))
    obtain rfl : o = 30 := by simpa using h30
    exact ⟨trivial, _, rfl, rfl⟩
  repeat (first
  | refine exec_seq ?_
  | refine exec_region ?_
  | refine exec_block ?_
  | refine exec_skip ?_
  | refine exec_exit ?_
  | refine exec_ret ?_
  | refine exec_true rfl ?_
  | refine exec_false rfl ?_
  | refine ops_nil ?_
  | (apply ops_pl rfl rfl rfl ?_ rfl ?_; rotate_left; focus first | exact (.bld rfl rfl rfl rfl) | exact (.cat rfl rfl rfl (by first | (simp; done) | (simp; omega))) | exact (.neSelf rfl rfl rfl rfl) | exact (.eqSelf rfl rfl rfl rfl) | exact (.wr64 rfl rfl (by omega) (by omega)) | exact (.p rfl rfl) | exact (.cv64 rfl (fun _ => rfl) (by omega) (by omega)) | exact (.l rfl (fun _ _ => rfl)) | exact (.l rfl (look_own 0 rfl rfl rfl rfl)) | exact (.l rfl (look_own 1 rfl rfl rfl rfl)))
  | refine ops_skip rfl rfl rfl ?_
  | (refine ops_step rfl rfl rfl ?_; first | (refine step_box rfl rfl rfl (fun _ => ?_)) | (refine step_alloc rfl rfl rfl rfl (fun _ => ?_)) | (refine step_buildSlice rfl rfl rfl rfl rfl (fun _ => ?_)) | (refine step_map rfl (fun _ => ?_))))
  cases h31 : (o == 31)
  rotate_left
  · repeat (first
    | refine exec_seq ?_
    | refine exec_region ?_
    | refine exec_block ?_
    | refine exec_skip ?_
    | refine exec_exit ?_
    | refine exec_ret ?_
    | refine exec_true rfl ?_
    | refine exec_false rfl ?_
    | refine ops_nil ?_
    | (apply ops_pl rfl rfl rfl ?_ rfl ?_; rotate_left; focus first | exact (.bld rfl rfl rfl rfl) | exact (.cat rfl rfl rfl (by first | (simp; done) | (simp; omega))) | exact (.neSelf rfl rfl rfl rfl) | exact (.eqSelf rfl rfl rfl rfl) | exact (.wr64 rfl rfl (by omega) (by omega)) | exact (.p rfl rfl) | exact (.cv64 rfl (fun _ => rfl) (by omega) (by omega)) | exact (.l rfl (fun _ _ => rfl)) | exact (.l rfl (look_own 0 rfl rfl rfl rfl)) | exact (.l rfl (look_own 1 rfl rfl rfl rfl)))
    | refine ops_skip rfl rfl rfl ?_
    | (refine ops_step rfl rfl rfl ?_; first | (refine step_box rfl rfl rfl (fun _ => ?_)) | (refine step_alloc rfl rfl rfl rfl (fun _ => ?_)) | (refine step_buildSlice rfl rfl rfl rfl rfl (fun _ => ?_)) | (refine step_map rfl (fun _ => ?_))))
    obtain rfl : o = 31 := by simpa using h31
    exact ⟨trivial, _, rfl, rfl⟩
  repeat (first
  | refine exec_seq ?_
  | refine exec_region ?_
  | refine exec_block ?_
  | refine exec_skip ?_
  | refine exec_exit ?_
  | refine exec_ret ?_
  | refine exec_true rfl ?_
  | refine exec_false rfl ?_
  | refine ops_nil ?_
  | (apply ops_pl rfl rfl rfl ?_ rfl ?_; rotate_left; focus first | exact (.bld rfl rfl rfl rfl) | exact (.cat rfl rfl rfl (by first | (simp; done) | (simp; omega))) | exact (.neSelf rfl rfl rfl rfl) | exact (.eqSelf rfl rfl rfl rfl) | exact (.wr64 rfl rfl (by omega) (by omega)) | exact (.p rfl rfl) | exact (.cv64 rfl (fun _ => rfl) (by omega) (by omega)) | exact (.l rfl (fun _ _ => rfl)) | exact (.l rfl (look_own 0 rfl rfl rfl rfl)) | exact (.l rfl (look_own 1 rfl rfl rfl rfl)))
  | refine ops_skip rfl rfl rfl ?_
  | (refine ops_step rfl rfl rfl ?_; first | (refine step_box rfl rfl rfl (fun _ => ?_)) | (refine step_alloc rfl rfl rfl rfl (fun _ => ?_)) | (refine step_buildSlice rfl rfl rfl rfl rfl (fun _ => ?_)) | (refine step_map rfl (fun _ => ?_))))
  refine ⟨trivial, _, rfl, ?_⟩
  have n : ∀ {c : Int}, (o == c) = false → ¬ o = c := fun h e => by simp [e] at h
  rw [usesZ, if_neg (n h1), if_neg (n h2), if_neg (n h4), if_neg (n h5), if_neg (n h19), if_neg (n h20), if_neg (n h26), if_neg (n h27), if_neg (n h28), if_neg (n h29), if_neg (n h34), if_neg (n h35), if_neg (n h36), if_neg (n h37), if_neg (n h25), if_neg (n h30), if_neg (n h31)]
  rfl

set_option maxHeartbeats 8000000 in
set_option maxRecDepth 100000 in
theorem ruses_ok {H : Heap} {o : Int} : CallC TT O 33 [.int .i64 o] H fun v H' => v = .int .i64 (usesZ o) ∧ Ext H H' := by
  refine call_pure rfl rfl rfl rfl rfl ?_
  repeat (first
  | refine exec_seq ?_
  | refine exec_region ?_
  | refine exec_block ?_
  | refine exec_skip ?_
  | refine exec_exit ?_
  | refine exec_ret ?_
  | refine exec_true rfl ?_
  | refine exec_false rfl ?_
  | refine ops_nil ?_
  | (apply ops_pl rfl rfl rfl ?_ rfl ?_; rotate_left; focus first | exact (.bld rfl rfl rfl rfl) | exact (.cat rfl rfl rfl (by first | (simp; done) | (simp; omega))) | exact (.neSelf rfl rfl rfl rfl) | exact (.eqSelf rfl rfl rfl rfl) | exact (.wr64 rfl rfl (by omega) (by omega)) | exact (.p rfl rfl) | exact (.cv64 rfl (fun _ => rfl) (by omega) (by omega)) | exact (.l rfl (fun _ _ => rfl)) | exact (.l rfl (look_own 0 rfl rfl rfl rfl)) | exact (.l rfl (look_own 1 rfl rfl rfl rfl)))
  | refine ops_skip rfl rfl rfl ?_
  | (refine ops_step rfl rfl rfl ?_; first | (refine step_box rfl rfl rfl (fun _ => ?_)) | (refine step_alloc rfl rfl rfl rfl (fun _ => ?_)) | (refine step_buildSlice rfl rfl rfl rfl rfl (fun _ => ?_)) | (refine step_map rfl (fun _ => ?_))))
  cases h1 : (o == 1)
  rotate_left
  · repeat (first
    | refine exec_seq ?_
    | refine exec_region ?_
    | refine exec_block ?_
    | refine exec_skip ?_
    | refine exec_exit ?_
    | refine exec_ret ?_
    | refine exec_true rfl ?_
    | refine exec_false rfl ?_
    | refine ops_nil ?_
    | (apply ops_pl rfl rfl rfl ?_ rfl ?_; rotate_left; focus first | exact (.bld rfl rfl rfl rfl) | exact (.cat rfl rfl rfl (by first | (simp; done) | (simp; omega))) | exact (.neSelf rfl rfl rfl rfl) | exact (.eqSelf rfl rfl rfl rfl) | exact (.wr64 rfl rfl (by omega) (by omega)) | exact (.p rfl rfl) | exact (.cv64 rfl (fun _ => rfl) (by omega) (by omega)) | exact (.l rfl (fun _ _ => rfl)) | exact (.l rfl (look_own 0 rfl rfl rfl rfl)) | exact (.l rfl (look_own 1 rfl rfl rfl rfl)))
    | refine ops_skip rfl rfl rfl ?_
    | (refine ops_step rfl rfl rfl ?_; first | (refine step_box rfl rfl rfl (fun _ => ?_)) | (refine step_alloc rfl rfl rfl rfl (fun _ => ?_)) | (refine step_buildSlice rfl rfl rfl rfl rfl (fun _ => ?_)) | (refine step_map rfl (fun _ => ?_))))
    obtain rfl : o = 1 := by simpa using h1
    exact ⟨trivial, _, rfl, rfl⟩
  repeat (first
  | refine exec_seq ?_
  | refine exec_region ?_
  | refine exec_block ?_
  | refine exec_skip ?_
  | refine exec_exit ?_
  | refine exec_ret ?_
  | refine exec_true rfl ?_
  | refine exec_false rfl ?_
  | refine ops_nil ?_
  | (apply ops_pl rfl rfl rfl ?_ rfl ?_; rotate_left; focus first | exact (.bld rfl rfl rfl rfl) | exact (.cat rfl rfl rfl (by first | (simp; done) | (simp; omega))) | exact (.neSelf rfl rfl rfl rfl) | exact (.eqSelf rfl rfl rfl rfl) | exact (.wr64 rfl rfl (by omega) (by omega)) | exact (.p rfl rfl) | exact (.cv64 rfl (fun _ => rfl) (by omega) (by omega)) | exact (.l rfl (fun _ _ => rfl)) | exact (.l rfl (look_own 0 rfl rfl rfl rfl)) | exact (.l rfl (look_own 1 rfl rfl rfl rfl)))
  | refine ops_skip rfl rfl rfl ?_
  | (refine ops_step rfl rfl rfl ?_; first | (refine step_box rfl rfl rfl (fun _ => ?_)) | (refine step_alloc rfl rfl rfl rfl (fun _ => ?_)) | (refine step_buildSlice rfl rfl rfl rfl rfl (fun _ => ?_)) | (refine step_map rfl (fun _ => ?_))))
  cases h2 : (o == 2)
  rotate_left
  · repeat (first
    | refine exec_seq ?_
    | refine exec_region ?_
    | refine exec_block ?_
    | refine exec_skip ?_
    | refine exec_exit ?_
    | refine exec_ret ?_
    | refine exec_true rfl ?_
    | refine exec_false rfl ?_
    | refine ops_nil ?_
    | (apply ops_pl rfl rfl rfl ?_ rfl ?_; rotate_left; focus first | exact (.bld rfl rfl rfl rfl) | exact (.cat rfl rfl rfl (by first | (simp; done) | (simp; omega))) | exact (.neSelf rfl rfl rfl rfl) | exact (.eqSelf rfl rfl rfl rfl) | exact (.wr64 rfl rfl (by omega) (by omega)) | exact (.p rfl rfl) | exact (.cv64 rfl (fun _ => rfl) (by omega) (by omega)) | exact (.l rfl (fun _ _ => rfl)) | exact (.l rfl (look_own 0 rfl rfl rfl rfl)) | exact (.l rfl (look_own 1 rfl rfl rfl rfl)))
    | refine ops_skip rfl rfl rfl ?_
    | (refine ops_step rfl rfl rfl ?_; first | (refine step_box rfl rfl rfl (fun _ => ?_)) | (refine step_alloc rfl rfl rfl rfl (fun _ => ?_)) | (refine step_buildSlice rfl rfl rfl rfl rfl (fun _ => ?_)) | (refine step_map rfl (fun _ => ?_))))
    obtain rfl : o = 2 := by simpa using h2
    exact ⟨trivial, _, rfl, rfl⟩
  repeat (first
  | refine exec_seq ?_
  | refine exec_region ?_
  | refine exec_block ?_
  | refine exec_skip ?_
  | refine exec_exit ?_
  | refine exec_ret ?_
  | refine exec_true rfl ?_
  | refine exec_false rfl ?_
  | refine ops_nil ?_
  | (apply ops_pl rfl rfl rfl ?_ rfl ?_; rotate_left; focus first | exact (.bld rfl rfl rfl rfl) | exact (.cat rfl rfl rfl (by first | (simp; done) | (simp; omega))) | exact (.neSelf rfl rfl rfl rfl) | exact (.eqSelf rfl rfl rfl rfl) | exact (.wr64 rfl rfl (by omega) (by omega)) | exact (.p rfl rfl) | exact (.cv64 rfl (fun _ => rfl) (by omega) (by omega)) | exact (.l rfl (fun _ _ => rfl)) | exact (.l rfl (look_own 0 rfl rfl rfl rfl)) | exact (.l rfl (look_own 1 rfl rfl rfl rfl)))
  | refine ops_skip rfl rfl rfl ?_
  | (refine ops_step rfl rfl rfl ?_; first | (refine step_box rfl rfl rfl (fun _ => ?_)) | (refine step_alloc rfl rfl rfl rfl (fun _ => ?_)) | (refine step_buildSlice rfl rfl rfl rfl rfl (fun _ => ?_)) | (refine step_map rfl (fun _ => ?_))))
  cases h4 : (o == 4)
  rotate_left
  · repeat (first
    | refine exec_seq ?_
    | refine exec_region ?_
    | refine exec_block ?_
    | refine exec_skip ?_
    | refine exec_exit ?_
    | refine exec_ret ?_
    | refine exec_true rfl ?_
    | refine exec_false rfl ?_
    | refine ops_nil ?_
    | (apply ops_pl rfl rfl rfl ?_ rfl ?_; rotate_left; focus first | exact (.bld rfl rfl rfl rfl) | exact (.cat rfl rfl rfl (by first | (simp; done) | (simp; omega))) | exact (.neSelf rfl rfl rfl rfl) | exact (.eqSelf rfl rfl rfl rfl) | exact (.wr64 rfl rfl (by omega) (by omega)) | exact (.p rfl rfl) | exact (.cv64 rfl (fun _ => rfl) (by omega) (by omega)) | exact (.l rfl (fun _ _ => rfl)) | exact (.l rfl (look_own 0 rfl rfl rfl rfl)) | exact (.l rfl (look_own 1 rfl rfl rfl rfl)))
    | refine ops_skip rfl rfl rfl ?_
    | (refine ops_step rfl rfl rfl ?_; first | (refine step_box rfl rfl rfl (fun _ => ?_)) | (refine step_alloc rfl rfl rfl rfl (fun _ => ?_)) | (refine step_buildSlice rfl rfl rfl rfl rfl (fun _ => ?_)) | (refine step_map rfl (fun _ => ?_))))
    obtain rfl : o = 4 := by simpa using h4
    exact ⟨trivial, _, rfl, rfl⟩
  repeat (first
  | refine exec_seq ?_
  | refine exec_region ?_
  | refine exec_block ?_
  | refine exec_skip ?_
  | refine exec_exit ?_
  | refine exec_ret ?_
  | refine exec_true rfl ?_
  | refine exec_false rfl ?_
  | refine ops_nil ?_
  | (apply ops_pl rfl rfl rfl ?_ rfl ?_; rotate_left; focus first | exact (.bld rfl rfl rfl rfl) | exact (.cat rfl rfl rfl (by first | (simp; done) | (simp; omega))) | exact (.neSelf rfl rfl rfl rfl) | exact (.eqSelf rfl rfl rfl rfl) | exact (.wr64 rfl rfl (by omega) (by omega)) | exact (.p rfl rfl) | exact (.cv64 rfl (fun _ => rfl) (by omega) (by omega)) | exact (.l rfl (fun _ _ => rfl)) | exact (.l rfl (look_own 0 rfl rfl rfl rfl)) | exact (.l rfl (look_own 1 rfl rfl rfl rfl)))
  | refine ops_skip rfl rfl rfl ?_
  | (refine ops_step rfl rfl rfl ?_; first | (refine step_box rfl rfl rfl (fun _ => ?_)) | (refine step_alloc rfl rfl rfl rfl (fun _ => ?_)) | (refine step_buildSlice rfl rfl rfl rfl rfl (fun _ => ?_)) | (refine step_map rfl (fun _ => ?_))))
  cases h5 : (o == 5)
  rotate_left
  · repeat (first
    | refine exec_seq ?_
    | refine exec_region ?_
    | refine exec_block ?_
    | refine exec_skip ?_
    | refine exec_exit ?_
    | refine exec_ret ?_
    | refine exec_true rfl ?_
    | refine exec_false rfl ?_
    | refine ops_nil ?_
    | (apply ops_pl rfl rfl rfl ?_ rfl ?_; rotate_left; focus first | exact (.bld rfl rfl rfl rfl) | exact (.cat rfl rfl rfl (by first | (simp; done) | (simp; omega))) | exact (.neSelf rfl rfl rfl rfl) | exact (.eqSelf rfl rfl rfl rfl) | exact (.wr64 rfl rfl (by omega) (by omega)) | exact (.p rfl rfl) | exact (.cv64 rfl (fun _ => rfl) (by omega) (by omega)) | exact (.l rfl (fun _ _ => rfl)) | exact (.l rfl (look_own 0 rfl rfl rfl rfl)) | exact (.l rfl (look_own 1 rfl rfl rfl rfl)))
    | refine ops_skip rfl rfl rfl ?_
    | (refine ops_step rfl rfl rfl ?_; first | (refine step_box rfl rfl rfl (fun _ => ?_)) | (refine step_alloc rfl rfl rfl rfl (fun _ => ?_)) | (refine step_buildSlice rfl rfl rfl rfl rfl (fun _ => ?_)) | (refine step_map rfl (fun _ => ?_))))
    obtain rfl : o = 5 := by simpa using h5
    exact ⟨trivial, _, rfl, rfl⟩
  repeat (first
  | refine exec_seq ?_
  | refine exec_region ?_
  | refine exec_block ?_
  | refine exec_skip ?_
  | refine exec_exit ?_
  | refine exec_ret ?_
  | refine exec_true rfl ?_
  | refine exec_false rfl ?_
  | refine ops_nil ?_
  | (apply ops_pl rfl rfl rfl ?_ rfl ?_; rotate_left; focus first | exact (.bld rfl rfl rfl rfl) | exact (.cat rfl rfl rfl (by first | (simp; done) | (simp; omega))) | exact (.neSelf rfl rfl rfl rfl) | exact (.eqSelf rfl rfl rfl rfl) | exact (.wr64 rfl rfl (by omega) (by omega)) | exact (.p rfl rfl) | exact (.cv64 rfl (fun _ => rfl) (by omega) (by omega)) | exact (.l rfl (fun _ _ => rfl)) | exact (.l rfl (look_own 0 rfl rfl rfl rfl)) | exact (.l rfl (look_own 1 rfl rfl rfl rfl)))
  | refine ops_skip rfl rfl rfl ?_
  | (refine ops_step rfl rfl rfl ?_; first | (refine step_box rfl rfl rfl (fun _ => ?_)) | (refine step_alloc rfl rfl rfl rfl (fun _ => ?_)) | (refine step_buildSlice rfl rfl rfl rfl rfl (fun _ => ?_)) | (refine step_map rfl (fun _ => ?_))))
  cases h19 : (o == 19)
  rotate_left
  · repeat (first
    | refine exec_seq ?_
    | refine exec_region ?_
    | refine exec_block ?_
    | refine exec_skip ?_
    | refine exec_exit ?_
    | refine exec_ret ?_
    | refine exec_true rfl ?_
    | refine exec_false rfl ?_
    | refine ops_nil ?_
    | (apply ops_pl rfl rfl rfl ?_ rfl ?_; rotate_left; focus first | exact (.bld rfl rfl rfl rfl) | exact (.cat rfl rfl rfl (by first | (simp; done) | (simp; omega))) | exact (.neSelf rfl rfl rfl rfl) | exact (.eqSelf rfl rfl rfl rfl) | exact (.wr64 rfl rfl (by omega) (by omega)) | exact (.p rfl rfl) | exact (.cv64 rfl (fun _ => rfl) (by omega) (by omega)) | exact (.l rfl (fun _ _ => rfl)) | exact (.l rfl (look_own 0 rfl rfl rfl rfl)) | exact (.l rfl (look_own 1 rfl rfl rfl rfl)))
    | refine ops_skip rfl rfl rfl ?_
    | (refine ops_step rfl rfl rfl ?_; first | (refine step_box rfl rfl rfl (fun _ => ?_)) | (refine step_alloc rfl rfl rfl rfl (fun _ => ?_)) | (refine step_buildSlice rfl rfl rfl rfl rfl (fun _ => ?_)) | (refine step_map rfl (fun _ => ?_))))
    obtain rfl : o = 19 := by simpa using h19
    exact ⟨trivial, _, rfl, rfl⟩
  repeat (first
  | refine exec_seq ?_
  | refine exec_region ?_
  | refine exec_block ?_
  | refine exec_skip ?_
  | refine exec_exit ?_
  | refine exec_ret ?_
  | refine exec_true rfl ?_
  | refine exec_false rfl ?_
  | refine ops_nil ?_
  | (apply ops_pl rfl rfl rfl ?_ rfl ?_; rotate_left; focus first | exact (.bld rfl rfl rfl rfl) | exact (.cat rfl rfl rfl (by first | (simp; done) | (simp; omega))) | exact (.neSelf rfl rfl rfl rfl) | exact (.eqSelf rfl rfl rfl rfl) | exact (.wr64 rfl rfl (by omega) (by omega)) | exact (.p rfl rfl) | exact (.cv64 rfl (fun _ => rfl) (by omega) (by omega)) | exact (.l rfl (fun _ _ => rfl)) | exact (.l rfl (look_own 0 rfl rfl rfl rfl)) | exact (.l rfl (look_own 1 rfl rfl rfl rfl)))
  | refine ops_skip rfl rfl rfl ?_
  | (refine ops_step rfl rfl rfl ?_; first | (refine step_box rfl rfl rfl (fun _ => ?_)) | (refine step_alloc rfl rfl rfl rfl (fun _ => ?_)) | (refine step_buildSlice rfl rfl rfl rfl rfl (fun _ => ?_)) | (refine step_map rfl (fun _ => ?_))))
  cases h20 : (o == 20)
  rotate_left
  · repeat (first
    | refine exec_seq ?_
    | refine exec_region ?_
    | refine exec_block ?_
    | refine exec_skip ?_
    | refine exec_exit ?_
    | refine exec_ret ?_
    | refine exec_true rfl ?_
    | refine exec_false rfl ?_
    | refine ops_nil ?_
    | (apply ops_pl rfl rfl rfl ?_ rfl ?_; rotate_left; focus first | exact (.bld rfl rfl rfl rfl) | exact (.cat rfl rfl rfl (by first | (simp; done) | (simp; omega))) | exact (.neSelf rfl rfl rfl rfl) | exact (.eqSelf rfl rfl rfl rfl) | exact (.wr64 rfl rfl (by omega) (by omega)) | exact (.p rfl rfl) | exact (.cv64 rfl (fun _ => rfl) (by omega) (by omega)) | exact (.l rfl (fun _ _ => rfl)) | exact (.l rfl (look_own 0 rfl rfl rfl rfl)) | exact (.l rfl (look_own 1 rfl rfl rfl rfl)))
    | refine ops_skip rfl rfl rfl ?_
    | (refine ops_step rfl rfl rfl ?_; first | (refine step_box rfl rfl rfl (fun _ => ?_)) | (refine step_alloc rfl rfl rfl rfl (fun _ => ?_)) | (refine step_buildSlice rfl rfl rfl rfl rfl (fun _ => ?_)) | (refine step_map rfl (fun _ => ?_))))
    obtain rfl : o = 20 := by simpa using h20
    exact ⟨trivial, _, rfl, rfl⟩
  repeat (first
  | refine exec_seq ?_
  | refine exec_region ?_
  | refine exec_block ?_
  | refine exec_skip ?_
  | refine exec_exit ?_
  | refine exec_ret ?_
  | refine exec_true rfl ?_
  | refine exec_false rfl ?_
  | refine ops_nil ?_
  | (apply ops_pl rfl rfl rfl ?_ rfl ?_; rotate_left; focus first | exact (.bld rfl rfl rfl rfl) | exact (.cat rfl rfl rfl (by first | (simp; done) | (simp; omega))) | exact (.neSelf rfl rfl rfl rfl) | exact (.eqSelf rfl rfl rfl rfl) | exact (.wr64 rfl rfl (by omega) (by omega)) | exact (.p rfl rfl) | exact (.cv64 rfl (fun _ => rfl) (by omega) (by omega)) | exact (.l rfl (fun _ _ => rfl)) | exact (.l rfl (look_own 0 rfl rfl rfl rfl)) | exact (.l rfl (look_own 1 rfl rfl rfl rfl)))
  | refine ops_skip rfl rfl rfl ?_
  | (refine ops_step rfl rfl rfl ?_; first | (refine step_box rfl rfl rfl (fun _ => ?_)) | (refine step_alloc rfl rfl rfl rfl (fun _ => ?_)) | (refine step_buildSlice rfl rfl rfl rfl rfl (fun _ => ?_)) | (refine step_map rfl (fun _ => ?_))))
  cases h26 : (o == 26)
  rotate_left
  · repeat (first
    | refine exec_seq ?_
    | refine exec_region ?_
    | refine exec_block ?_
    | refine exec_skip ?_
    | refine exec_exit ?_
    | refine exec_ret ?_
    | refine exec_true rfl ?_
    | refine exec_false rfl ?_
    | refine ops_nil ?_
    | (apply ops_pl rfl rfl rfl ?_ rfl ?_; rotate_left; focus first | exact (.bld rfl rfl rfl rfl) | exact (.cat rfl rfl rfl (by first | (simp; done) | (simp; omega))) | exact (.neSelf rfl rfl rfl rfl) | exact (.eqSelf rfl rfl rfl rfl) | exact (.wr64 rfl rfl (by omega) (by omega)) | exact (.p rfl rfl) | exact (.cv64 rfl (fun _ => rfl) (by omega) (by omega)) | exact (.l rfl (fun _ _ => rfl)) | exact (.l rfl (look_own 0 rfl rfl rfl rfl)) | exact (.l rfl (look_own 1 rfl rfl rfl rfl)))
    | refine ops_skip rfl rfl rfl ?_
    | (refine ops_step rfl rfl rfl ?_; first | (refine step_box rfl rfl rfl (fun _ => ?_)) | (refine step_alloc rfl rfl rfl rfl (fun _ => ?_)) | (refine step_buildSlice rfl rfl rfl rfl rfl (fun _ => ?_)) | (refine step_map rfl (fun _ => ?_))))
    obtain rfl : o = 26 := by simpa using h26
    exact ⟨trivial, _, rfl, rfl⟩
  repeat (first
  | refine exec_seq ?_
  | refine exec_region ?_
  | refine exec_block ?_
  | refine exec_skip ?_
  | refine exec_exit ?_
  | refine exec_ret ?_
  | refine exec_true rfl ?_
  | refine exec_false rfl ?_
  | refine ops_nil ?_
  | (apply ops_pl rfl rfl rfl ?_ rfl ?_; rotate_left; focus first | exact (.bld rfl rfl rfl rfl) | exact (.cat rfl rfl rfl (by first | (simp; done) | (simp; omega))) | exact (.neSelf rfl rfl rfl rfl) | exact (.eqSelf rfl rfl rfl rfl) | exact (.wr64 rfl rfl (by omega) (by omega)) | exact (.p rfl rfl) | exact (.cv64 rfl (fun _ => rfl) (by omega) (by omega)) | exact (.l rfl (fun _ _ => rfl)) | exact (.l rfl (look_own 0 rfl rfl rfl rfl)) | exact (.l rfl (look_own 1 rfl rfl rfl rfl)))
  | refine ops_skip rfl rfl rfl ?_
  | (refine ops_step rfl rfl rfl ?_; first | (refine step_box rfl rfl rfl (fun _ => ?_)) | (refine step_alloc rfl rfl rfl rfl (fun _ => ?_)) | (refine step_buildSlice rfl rfl rfl rfl rfl (fun _ => ?_)) | (refine step_map rfl (fun _ => ?_))))
  cases h27 : (o == 27)
  rotate_left
  · repeat (first
    | refine exec_seq ?_
    | refine exec_region ?_
    | refine exec_block ?_
    | refine exec_skip ?_
    | refine exec_exit ?_
    | refine exec_ret ?_
    | refine exec_true rfl ?_
    | refine exec_false rfl ?_
    | refine ops_nil ?_
    | (apply ops_pl rfl rfl rfl ?_ rfl ?_; rotate_left; focus first | exact (.bld rfl rfl rfl rfl) | exact (.cat rfl rfl rfl (by first | (simp; done) | (simp; omega))) | exact (.neSelf rfl rfl rfl rfl) | exact (.eqSelf rfl rfl rfl rfl) | exact (.wr64 rfl rfl (by omega) (by omega)) | exact (.p rfl rfl) | exact (.cv64 rfl (fun _ => rfl) (by omega) (by omega)) | exact (.l rfl (fun _ _ => rfl)) | exact (.l rfl (look_own 0 rfl rfl rfl rfl)) | exact (.l rfl (look_own 1 rfl rfl rfl rfl)))
    | refine ops_skip rfl rfl rfl ?_
    | (refine ops_step rfl rfl rfl ?_; first | (refine step_box rfl rfl rfl (fun _ => ?_)) | (refine step_alloc rfl rfl rfl rfl (fun _ => ?_)) | (refine step_buildSlice rfl rfl rfl rfl rfl (fun _ => ?_)) | (refine step_map rfl (fun _ => ?_))))
    obtain rfl : o = 27 := by simpa using h27
    exact ⟨trivial, _, rfl, rfl⟩
  repeat (first
  | refine exec_seq ?_
  | refine exec_region ?_
  | refine exec_block ?_
  | refine exec_skip ?_
  | refine exec_exit ?_
  | refine exec_ret ?_
  | refine exec_true rfl ?_
  | refine exec_false rfl ?_
  | refine ops_nil ?_
  | (apply ops_pl rfl rfl rfl ?_ rfl ?_; rotate_left; focus first | exact (.bld rfl rfl rfl rfl) | exact (.cat rfl rfl rfl (by first | (simp; done) | (simp; omega))) | exact (.neSelf rfl rfl rfl rfl) | exact (.eqSelf rfl rfl rfl rfl) | exact (.wr64 rfl rfl (by omega) (by omega)) | exact (.p rfl rfl) | exact (.cv64 rfl (fun _ => rfl) (by omega) (by omega)) | exact (.l rfl (fun _ _ => rfl)) | exact (.l rfl (look_own 0 rfl rfl rfl rfl)) | exact (.l rfl (look_own 1 rfl rfl rfl rfl)))
  | refine ops_skip rfl rfl rfl ?_
  | (refine ops_step rfl rfl rfl ?_; first | (refine step_box rfl rfl rfl (fun _ => ?_)) | (refine step_alloc rfl rfl rfl rfl (fun _ => ?_)) | (refine step_buildSlice rfl rfl rfl rfl rfl (fun _ => ?_)) | (refine step_map rfl (fun _ => ?_))))
  cases h28 : (o == 28)
  rotate_left
  · repeat (first
    | refine exec_seq ?_
    | refine exec_region ?_
    | refine exec_block ?_
    | refine exec_skip ?_
    | refine exec_exit ?_
    | refine exec_ret ?_
    | refine exec_true rfl ?_
    | refine exec_false rfl ?_
    | refine ops_nil ?_
    | (apply ops_pl rfl rfl rfl ?_ rfl ?_; rotate_left; focus first | exact (.bld rfl rfl rfl rfl) | exact (.cat rfl rfl rfl (by first | (simp; done) | (simp; omega))) | exact (.neSelf rfl rfl rfl rfl) | exact (.eqSelf rfl rfl rfl rfl) | exact (.wr64 rfl rfl (by omega) (by omega)) | exact (.p rfl rfl) | exact (.cv64 rfl (fun _ => rfl) (by omega) (by omega)) | exact (.l rfl (fun _ _ => rfl)) | exact (.l rfl (look_own 0 rfl rfl rfl rfl)) | exact (.l rfl (look_own 1 rfl rfl rfl rfl)))
    | refine ops_skip rfl rfl rfl ?_
    | (refine ops_step rfl rfl rfl ?_; first | (refine step_box rfl rfl rfl (fun _ => ?_)) | (refine step_alloc rfl rfl rfl rfl (fun _ => ?_)) | (refine step_buildSlice rfl rfl rfl rfl rfl (fun _ => ?_)) | (refine step_map rfl (fun _ => ?_))))
    obtain rfl : o = 28 := by simpa using h28
    exact ⟨trivial, _, rfl, rfl⟩
  repeat (first
  | refine exec_seq ?_
  | refine exec_region ?_
  | refine exec_block ?_
  | refine exec_skip ?_
  | refine exec_exit ?_
  | refine exec_ret ?_
  | refine exec_true rfl ?_
  | refine exec_false rfl ?_
  | refine ops_nil ?_
  | (apply ops_pl rfl rfl rfl ?_ rfl ?_; rotate_left; focus first | exact (.bld rfl rfl rfl rfl) | exact (.cat rfl rfl rfl (by first | (simp; done) | (simp; omega))) | exact (.neSelf rfl rfl rfl rfl) | exact (.eqSelf rfl rfl rfl rfl) | exact (.wr64 rfl rfl (by omega) (by omega)) | exact (.p rfl rfl) | exact (.cv64 rfl (fun _ => rfl) (by omega) (by omega)) | exact (.l rfl (fun _ _ => rfl)) | exact (.l rfl (look_own 0 rfl rfl rfl rfl)) | exact (.l rfl (look_own 1 rfl rfl rfl rfl)))
  | refine ops_skip rfl rfl rfl ?_
  | (refine ops_step rfl rfl rfl ?_; first | (refine step_box rfl rfl rfl (fun _ => ?_)) | (refine step_alloc rfl rfl rfl rfl (fun _ => ?_)) | (refine step_buildSlice rfl rfl rfl rfl rfl (fun _ => ?_)) | (refine step_map rfl (fun _ => ?_))))
  cases h29 : (o == 29)
  rotate_left
  · repeat (first
    | refine exec_seq ?_
    | refine exec_region ?_
    | refine exec_block ?_
    | refine exec_skip ?_
    | refine exec_exit ?_
    | refine exec_ret ?_
    | refine exec_true rfl ?_
    | refine exec_false rfl ?_
    | refine ops_nil ?_
    | (apply ops_pl rfl rfl rfl ?_ rfl ?_; rotate_left; focus first | exact (.bld rfl rfl rfl rfl) | exact (.cat rfl rfl rfl (by first | (simp; done) | (simp; omega))) | exact (.neSelf rfl rfl rfl rfl) | exact (.eqSelf rfl rfl rfl rfl) | exact (.wr64 rfl rfl (by omega) (by omega)) | exact (.p rfl rfl) | exact (.cv64 rfl (fun _ => rfl) (by omega) (by omega)) | exact (.l rfl (fun _ _ => rfl)) | exact (.l rfl (look_own 0 rfl rfl rfl rfl)) | exact (.l rfl (look_own 1 rfl rfl rfl rfl)))
    | refine ops_skip rfl rfl rfl ?_
    | (refine ops_step rfl rfl rfl ?_; first | (refine step_box rfl rfl rfl (fun _ => ?_)) | (refine step_alloc rfl rfl rfl rfl (fun _ => ?_)) | (refine step_buildSlice rfl rfl rfl rfl rfl (fun _ => ?_)) | (refine step_map rfl (fun _ => ?_))))
    obtain rfl : o = 29 := by simpa using h29
    exact ⟨trivial, _, rfl, rfl⟩
  repeat (first
  | refine exec_seq ?_
  | refine exec_region ?_
  | refine exec_block ?_
  | refine exec_skip ?_
  | refine exec_exit ?_
  | refine exec_ret ?_
  | refine exec_true rfl ?_
  | refine exec_false rfl ?_
  | refine ops_nil ?_
  | (apply ops_pl rfl rfl rfl ?_ rfl ?_; rotate_left; focus first | exact (.bld rfl rfl rfl rfl) | exact (.cat rfl rfl rfl (by first | (simp; done) | (simp; omega))) | exact (.neSelf rfl rfl rfl rfl) | exact (.eqSelf rfl rfl rfl rfl) | exact (.wr64 rfl rfl (by omega) (by omega)) | exact (.p rfl rfl) | exact (.cv64 rfl (fun _ => rfl) (by omega) (by omega)) | exact (.l rfl (fun _ _ => rfl)) | exact (.l rfl (look_own 0 rfl rfl rfl rfl)) | exact (.l rfl (look_own 1 rfl rfl rfl rfl)))
  | refine ops_skip rfl rfl rfl ?_
  | (refine ops_step rfl rfl rfl ?_; first | (refine step_box rfl rfl rfl (fun _ => ?_)) | (refine step_alloc rfl rfl rfl rfl (fun _ => ?_)) | (refine step_buildSlice rfl rfl rfl rfl rfl (fun _ => ?_)) | (refine step_map rfl (fun _ => ?_))))
  cases h34 : (o == 34)
  rotate_left
  · repeat (first
    | refine exec_seq ?_
    | refine exec_region ?_
    | refine exec_block ?_
    | refine exec_skip ?_
    | refine exec_exit ?_
    | refine exec_ret ?_
    | refine exec_true rfl ?_
    | refine exec_false rfl ?_
    | refine ops_nil ?_
    | (apply ops_pl rfl rfl rfl ?_ rfl ?_; rotate_left; focus first | exact (.bld rfl rfl rfl rfl) | exact (.cat rfl rfl rfl (by first | (simp; done) | (simp; omega))) | exact (.neSelf rfl rfl rfl rfl) | exact (.eqSelf rfl rfl rfl rfl) | exact (.wr64 rfl rfl (by omega) (by omega)) | exact (.p rfl rfl) | exact (.cv64 rfl (fun _ => rfl) (by omega) (by omega)) | exact (.l rfl (fun _ _ => rfl)) | exact (.l rfl (look_own 0 rfl rfl rfl rfl)) | exact (.l rfl (look_own 1 rfl rfl rfl rfl)))
    | refine ops_skip rfl rfl rfl ?_
    | (refine ops_step rfl rfl rfl ?_; first | (refine step_box rfl rfl rfl (fun _ => ?_)) | (refine step_alloc rfl rfl rfl rfl (fun _ => ?_)) | (refine step_buildSlice rfl rfl rfl rfl rfl (fun _ => ?_)) | (refine step_map rfl (fun _ => ?_))))
    obtain rfl : o = 34 := by simpa using h34
    exact ⟨trivial, _, rfl, rfl⟩
  repeat (first
  | refine exec_seq ?_
  | refine exec_region ?_
  | refine exec_block ?_
  | refine exec_skip ?_
  | refine exec_exit ?_
  | refine exec_ret ?_
  | refine exec_true rfl ?_
  | refine exec_false rfl ?_
  | refine ops_nil ?_
  | (apply ops_pl rfl rfl rfl ?_ rfl ?_; rotate_left; focus first | exact (.bld rfl rfl rfl rfl) | exact (.cat rfl rfl rfl (by first | (simp; done) | (simp; omega))) | exact (.neSelf rfl rfl rfl rfl) | exact (.eqSelf rfl rfl rfl rfl) | exact (.wr64 rfl rfl (by omega) (by omega)) | exact (.p rfl rfl) | exact (.cv64 rfl (fun _ => rfl) (by omega) (by omega)) | exact (.l rfl (fun _ _ => rfl)) | exact (.l rfl (look_own 0 rfl rfl rfl rfl)) | exact (.l rfl (look_own 1 rfl rfl rfl rfl)))
  | refine ops_skip rfl rfl rfl ?_
  | (refine ops_step rfl rfl rfl ?_; first | (refine step_box rfl rfl rfl (fun _ => ?_)) | (refine step_alloc rfl rfl rfl rfl (fun _ => ?_)) | (refine step_buildSlice rfl rfl rfl rfl rfl (fun _ => ?_)) | (refine step_map rfl (fun _ => ?_))))
  cases h35 : (o == 35)
  rotate_left
  · repeat (first
    | refine exec_seq ?_
    | refine exec_region ?_
    | refine exec_block ?_
    | refine exec_skip ?_
    | refine exec_exit ?_
    | refine exec_ret ?_
    | refine exec_true rfl ?_
    | refine exec_false rfl ?_
    | refine ops_nil ?_
    | (apply ops_pl rfl rfl rfl ?_ rfl ?_; rotate_left; focus first | exact (.bld rfl rfl rfl rfl) | exact (.cat rfl rfl rfl (by first | (simp; done) | (simp; omega))) | exact (.neSelf rfl rfl rfl rfl) | exact (.eqSelf rfl rfl rfl rfl) | exact (.wr64 rfl rfl (by omega) (by omega)) | exact (.p rfl rfl) | exact (.cv64 rfl (fun _ => rfl) (by omega) (by omega)) | exact (.l rfl (fun _ _ => rfl)) | exact (.l rfl (look_own 0 rfl rfl rfl rfl)) | exact (.l rfl (look_own 1 rfl rfl rfl rfl)))
    | refine ops_skip rfl rfl rfl ?_
    | (refine ops_step rfl rfl rfl ?_; first | (refine step_box rfl rfl rfl (fun _ => ?_)) | (refine step_alloc rfl rfl rfl rfl (fun _ => ?_)) | (refine step_buildSlice rfl rfl rfl rfl rfl (fun _ => ?_)) | (refine step_map rfl (fun _ => ?_))))
    obtain rfl : o = 35 := by simpa using h35
    exact ⟨trivial, _, rfl, rfl⟩
  repeat (first
  | refine exec_seq ?_
  | refine exec_region ?_
  | refine exec_block ?_
  | refine exec_skip ?_
  | refine exec_exit ?_
  | refine exec_ret ?_
  | refine exec_true rfl ?_
  | refine exec_false rfl ?_
  | refine ops_nil ?_
  | (apply ops_pl rfl rfl rfl ?_ rfl ?_; rotate_left; focus first | exact (.bld rfl rfl rfl rfl) | exact (.cat rfl rfl rfl (by first | (simp; done) | (simp; omega))) | exact (.neSelf rfl rfl rfl rfl) | exact (.eqSelf rfl rfl rfl rfl) | exact (.wr64 rfl rfl (by omega) (by omega)) | exact (.p rfl rfl) | exact (.cv64 rfl (fun _ => rfl) (by omega) (by omega)) | exact (.l rfl (fun _ _ => rfl)) | exact (.l rfl (look_own 0 rfl rfl rfl rfl)) | exact (.l rfl (look_own 1 rfl rfl rfl rfl)))
  | refine ops_skip rfl rfl rfl ?_
  | (refine ops_step rfl rfl rfl ?_; first | (refine step_box rfl rfl rfl (fun _ => ?_)) | (refine step_alloc rfl rfl rfl rfl (fun _ => ?_)) | (refine step_buildSlice rfl rfl rfl rfl rfl (fun _ => ?_)) | (refine step_map rfl (fun _ => ?_))))
  cases h36 : (o == 36)
  rotate_left
  · repeat (first
    | refine exec_seq ?_
    | refine exec_region ?_
    | refine exec_block ?_
    | refine exec_skip ?_
    | refine exec_exit ?_
    | refine exec_ret ?_
    | refine exec_true rfl ?_
    | refine exec_false rfl ?_
    | refine ops_nil ?_
    | (apply ops_pl rfl rfl rfl ?_ rfl ?_; rotate_left; focus first | exact (.bld rfl rfl rfl rfl) | exact (.cat rfl rfl rfl (by first | (simp; done) | (simp; omega))) | exact (.neSelf rfl rfl rfl rfl) | exact (.eqSelf rfl rfl rfl rfl) | exact (.wr64 rfl rfl (by omega) (by omega)) | exact (.p rfl rfl) | exact (.cv64 rfl (fun _ => rfl) (by omega) (by omega)) | exact (.l rfl (fun _ _ => rfl)) | exact (.l rfl (look_own 0 rfl rfl rfl rfl)) | exact (.l rfl (look_own 1 rfl rfl rfl rfl)))
    | refine ops_skip rfl rfl rfl ?_
    | (refine ops_step rfl rfl rfl ?_; first | (refine step_box rfl rfl rfl (fun _ => ?_)) | (refine step_alloc rfl rfl rfl rfl (fun _ => ?_)) | (refine step_buildSlice rfl rfl rfl rfl rfl (fun _ => ?_)) | (refine step_map rfl (fun _ => ?_))))
    obtain rfl : o = 36 := by simpa using h36
    exact ⟨trivial, _, rfl, rfl⟩
  repeat (first
  | refine exec_seq ?_
  | refine exec_region ?_
  | refine exec_block ?_
  | refine exec_skip ?_
  | refine exec_exit ?_
  | refine exec_ret ?_
  | refine exec_true rfl ?_
  | refine exec_false rfl ?_
  | refine ops_nil ?_
  | (apply ops_pl rfl rfl rfl ?_ rfl ?_; rotate_left; focus first | exact (.bld rfl rfl rfl rfl) | exact (.cat rfl rfl rfl (by first | (simp; done) | (simp; omega))) | exact (.neSelf rfl rfl rfl rfl) | exact (.eqSelf rfl rfl rfl rfl) | exact (.wr64 rfl rfl (by omega) (by omega)) | exact (.p rfl rfl) | exact (.cv64 rfl (fun _ => rfl) (by omega) (by omega)) | exact (.l rfl (fun _ _ => rfl)) | exact (.l rfl (look_own 0 rfl rfl rfl rfl)) | exact (.l rfl (look_own 1 rfl rfl rfl rfl)))
  | refine ops_skip rfl rfl rfl ?_
  | (refine ops_step rfl rfl rfl ?_; first | (refine step_box rfl rfl rfl (fun _ => ?_)) | (refine step_alloc rfl rfl rfl rfl (fun _ => ?_)) | (refine step_buildSlice rfl rfl rfl rfl rfl (fun _ => ?_)) | (refine step_map rfl (fun _ => ?_))))
  cases h37 : (o == 37)
  rotate_left
  · repeat (first
    | refine exec_seq ?_
    | refine exec_region ?_
    | refine exec_block ?_
    | refine exec_skip ?_
    | refine exec_exit ?_
    | refine exec_ret ?_
    | refine exec_true rfl ?_
    | refine exec_false rfl ?_
    | refine ops_nil ?_
    | (apply ops_pl rfl rfl rfl ?_ rfl ?_; rotate_left; focus first | exact (.bld rfl rfl rfl rfl) | exact (.cat rfl rfl rfl (by first | (simp; done) | (simp; omega))) | exact (.neSelf rfl rfl rfl rfl) | exact (.eqSelf rfl rfl rfl rfl) | exact (.wr64 rfl rfl (by omega) (by omega)) | exact (.p rfl rfl) | exact (.cv64 rfl (fun _ => rfl) (by omega) (by omega)) | exact (.l rfl (fun _ _ => rfl)) | exact (.l rfl (look_own 0 rfl rfl rfl rfl)) | exact (.l rfl (look_own 1 rfl rfl rfl rfl)))
    | refine ops_skip rfl rfl rfl ?_
    | (refine ops_step rfl rfl rfl ?_; first | (refine step_box rfl rfl rfl (fun _ => ?_)) | (refine step_alloc rfl rfl rfl rfl (fun _ => ?_)) | (refine step_buildSlice rfl rfl rfl rfl rfl (fun _ => ?_)) | (refine step_map rfl (fun _ => ?_))))
    obtain rfl : o = 37 := by simpa using h37
    exact ⟨trivial, _, rfl, rfl⟩
  repeat (first
  | refine exec_seq ?_
  | refine exec_region ?_
  | refine exec_block ?_
  | refine exec_skip ?_
  | refine exec_exit ?_
  | refine exec_ret ?_
  | refine exec_true rfl ?_
  | refine exec_false rfl ?_
  | refine ops_nil ?_
  | (apply ops_pl rfl rfl rfl ?_ rfl ?_; rotate_left; focus first | exact (.bld rfl rfl rfl rfl) | exact (.cat rfl rfl rfl (by first | (simp; done) | (simp; omega))) | exact (.neSelf rfl rfl rfl rfl) | exact (.eqSelf rfl rfl rfl rfl) | exact (.wr64 rfl rfl (by omega) (by omega)) | exact (.p rfl rfl) | exact (.cv64 rfl (fun _ => rfl) (by omega) (by omega)) | exact (.l rfl (fun _ _ => rfl)) | exact (.l rfl (look_own 0 rfl rfl rfl rfl)) | exact (.l rfl (look_own 1 rfl rfl rfl rfl)))
  | refine ops_skip rfl rfl rfl ?_
  | (refine ops_step rfl rfl rfl ?_; first | (refine step_box rfl rfl rfl (fun _ => ?_)) | (refine step_alloc rfl rfl rfl rfl (fun _ => ?_)) | (refine step_buildSlice rfl rfl rfl rfl rfl (fun _ => ?_)) | (refine step_map rfl (fun _ => ?_))))
  cases h25 : (o == 25)
  rotate_left
  · repeat (first
    | refine exec_seq ?_
    | refine exec_region ?_
    | refine exec_block ?_
    | refine exec_skip ?_
    | refine exec_exit ?_
    | refine exec_ret ?_
    | refine exec_true rfl ?_
    | refine exec_false rfl ?_
    | refine ops_nil ?_
    | (apply ops_pl rfl rfl rfl ?_ rfl ?_; rotate_left; focus first | exact (.bld rfl rfl rfl rfl) | exact (.cat rfl rfl rfl (by first | (simp; done) | (simp; omega))) | exact (.neSelf rfl rfl rfl rfl) | exact (.eqSelf rfl rfl rfl rfl) | exact (.wr64 rfl rfl (by omega) (by omega)) | exact (.p rfl rfl) | exact (.cv64 rfl (fun _ => rfl) (by omega) (by omega)) | exact (.l rfl (fun _ _ => rfl)) | exact (.l rfl (look_own 0 rfl rfl rfl rfl)) | exact (.l rfl (look_own 1 rfl rfl rfl rfl)))
    | refine ops_skip rfl rfl rfl ?_
    | (refine ops_step rfl rfl rfl ?_; first | (refine step_box rfl rfl rfl (fun _ => ?_)) | (refine step_alloc rfl rfl rfl rfl (fun _ => ?_)) | (refine step_buildSlice rfl rfl rfl rfl rfl (fun _ => ?_)) | (refine step_map rfl (fun _ => ?_))))
    obtain rfl : o = 25 := by simpa using h25
    exact ⟨trivial, _, rfl, rfl⟩
  repeat (first
  | refine exec_seq ?_
  | refine exec_region ?_
  | refine exec_block ?_
  | refine exec_skip ?_
  | refine exec_exit ?_
  | refine exec_ret ?_
  | refine exec_true rfl ?_
  | refine exec_false rfl ?_
  | refine ops_nil ?_
  | (apply ops_pl rfl rfl rfl ?_ rfl ?_; rotate_left; focus first | exact (.bld rfl rfl rfl rfl) | exact (.cat rfl rfl rfl (by first | (simp; done) | (simp; omega))) | exact (.neSelf rfl rfl rfl rfl) | exact (.eqSelf rfl rfl rfl rfl) | exact (.wr64 rfl rfl (by omega) (by omega)) | exact (.p rfl rfl) | exact (.cv64 rfl (fun _ => rfl) (by omega) (by omega)) | exact (.l rfl (fun _ _ => rfl)) | exact (.l rfl (look_own 0 rfl rfl rfl rfl)) | exact (.l rfl (look_own 1 rfl rfl rfl rfl)))
  | refine ops_skip rfl rfl rfl ?_
  | (refine ops_step rfl rfl rfl ?_; first | (refine step_box rfl rfl rfl (fun _ => ?_)) | (refine step_alloc rfl rfl rfl rfl (fun _ => ?_)) | (refine step_buildSlice rfl rfl rfl rfl rfl (fun _ => ?_)) | (refine step_map rfl (fun _ => ?_))))
  cases h30 : (o == 30)
  rotate_left
  · repeat (first
    | refine exec_seq ?_
    | refine exec_region ?_
    | refine exec_block ?_
    | refine exec_skip ?_
    | refine exec_exit ?_
    | refine exec_ret ?_
    | refine exec_true rfl ?_
    | refine exec_false rfl ?_
    | refine ops_nil ?_
    | (apply ops_pl rfl rfl rfl ?_ rfl ?_; rotate_left; focus first | exact (.bld rfl rfl rfl rfl) | exact (.cat rfl rfl rfl (by first | (simp; done) | (simp; omega))) | exact (.neSelf rfl rfl rfl rfl) | exact (.eqSelf rfl rfl rfl rfl) | exact (.wr64 rfl rfl (by omega) (by omega)) | exact (.p rfl rfl) | exact (.cv64 rfl (fun _ => rfl) (by omega) (by omega)) | exact (.l rfl (fun _ _ => rfl)) | exact (.l rfl (look_own 0 rfl rfl rfl rfl)) | exact (.l rfl (look_own 1 rfl rfl rfl rfl)))
    | refine ops_skip rfl rfl rfl ?_
    | (refine ops_step rfl rfl rfl ?_; first | (refine step_box rfl rfl rfl (fun _ => ?_)) | (refine step_alloc rfl rfl rfl rfl (fun _ => ?_)) | (refine step_buildSlice rfl rfl rfl rfl rfl (fun _ => ?_)) | (refine step_map rfl (fun _ => ?_))))
    obtain rfl : o = 30 := by simpa using h30
    exact ⟨trivial, _, rfl, rfl⟩
  repeat (first
  | refine exec_seq ?_
  | refine exec_region ?_
  | refine exec_block ?_
  | refine exec_skip ?_
  | refine exec_exit ?_
  | refine exec_ret ?_
  | refine exec_true rfl ?_
  | refine exec_false rfl ?_
  | refine ops_nil ?_
  | (apply ops_pl rfl rfl rfl ?_ rfl ?_; rotate_left; focus first | exact (.bld rfl rfl rfl rfl) | exact (.cat rfl rfl rfl (by first | (simp; done) | (simp; omega))) | exact (.neSelf rfl rfl rfl rfl) | exact (.eqSelf rfl rfl rfl rfl) | exact (.wr64 rfl rfl (by omega) (by omega)) | exact (.p rfl rfl) | exact (.cv64 rfl (fun _ => rfl) (by omega) (by omega)) | exact (.l rfl (fun _ _ => rfl)) | exact (.l rfl (look_own 0 rfl rfl rfl rfl)) | exact (.l rfl (look_own 1 rfl rfl rfl rfl)))
  | refine ops_skip rfl rfl rfl ?_
  | (refine ops_step rfl rfl rfl ?_; first | (refine step_box rfl rfl rfl (fun _ => ?_)) | (refine step_alloc rfl rfl rfl rfl (fun _ => ?_)) | (refine step_buildSlice rfl rfl rfl rfl rfl (fun _ => ?_)) | (refine step_map rfl (fun _ => ?_))))
  cases h31 : (o == 31)
  rotate_left
  · repeat (first
    | refine exec_seq ?_
    | refine exec_region ?_
    | refine exec_block ?_
    | refine exec_skip ?_
    | refine exec_exit ?_
    | refine exec_ret ?_
    | refine exec_true rfl ?_
    | refine exec_false rfl ?_
    | refine ops_nil ?_
    | (apply ops_pl rfl rfl rfl ?_ rfl ?_; rotate_left; focus first | exact (.bld rfl rfl rfl rfl) | exact (.cat rfl rfl rfl (by first | (simp; done) | (simp; omega))) | exact (.neSelf rfl rfl rfl rfl) | exact (.eqSelf rfl rfl rfl rfl) | exact (.wr64 rfl rfl (by omega) (by omega)) | exact (.p rfl rfl) | exact (.cv64 rfl (fun _ => rfl) (by omega) (by omega)) | exact (.l rfl (fun _ _ => rfl)) | exact (.l rfl (look_own 0 rfl rfl rfl rfl)) | exact (.l rfl (look_own 1 rfl rfl rfl rfl)))
    | refine ops_skip rfl rfl rfl ?_
    | (refine ops_step rfl rfl rfl ?_; first | (refine step_box rfl rfl rfl (fun _ => ?_)) | (refine step_alloc rfl rfl rfl rfl (fun _ => ?_)) | (refine step_buildSlice rfl rfl rfl rfl rfl (fun _ => ?_)) | (refine step_map rfl (fun _ => ?_))))
    obtain rfl : o = 31 := by simpa using h31
    exact ⟨trivial, _, rfl, rfl⟩
  repeat (first
  | refine exec_seq ?_
  | refine exec_region ?_
  | refine exec_block ?_
  | refine exec_skip ?_
  | refine exec_exit ?_
  | refine exec_ret ?_
  | refine exec_true rfl ?_
  | refine exec_false rfl ?_
  | refine ops_nil ?_
  | (apply ops_pl rfl rfl rfl ?_ rfl ?_; rotate_left; focus first | exact (.bld rfl rfl rfl rfl) | exact (.cat rfl rfl rfl (by first | (simp; done) | (simp; omega))) | exact (.neSelf rfl rfl rfl rfl) | exact (.eqSelf rfl rfl rfl rfl) | exact (.wr64 rfl rfl (by omega) (by omega)) | exact (.p rfl rfl) | exact (.cv64 rfl (fun _ => rfl) (by omega) (by omega)) | exact (.l rfl (fun _ _ => rfl)) | exact (.l rfl (look_own 0 rfl rfl rfl rfl)) | exact (.l rfl (look_own 1 rfl rfl rfl rfl)))
  | refine ops_skip rfl rfl rfl ?_
  | (refine ops_step rfl rfl rfl ?_; first | (refine step_box rfl rfl rfl (fun _ => ?_)) | (refine step_alloc rfl rfl rfl rfl (fun _ => ?_)) | (refine step_buildSlice rfl rfl rfl rfl rfl (fun _ => ?_)) | (refine step_map rfl (fun _ => ?_))))
  refine ⟨trivial, _, rfl, ?_⟩
  have n : ∀ {c : Int}, (o == c) = false → ¬ o = c := fun h e => by simp [e] at h
  rw [usesZ, if_neg (n h1), if_neg (n h2), if_neg (n h4), if_neg (n h5), if_neg (n h19), if_neg (n h20), if_neg (n h26), if_neg (n h27), if_neg (n h28), if_neg (n h29), if_neg (n h34), if_neg (n h35), if_neg (n h36), if_neg (n h37), if_neg (n h25), if_neg (n h30), if_neg (n h31)]
  rfl

set_option maxHeartbeats 8000000 in
set_option maxRecDepth 100000 in
theorem ropname_ok {H : Heap} {o : Int} : CallC TT O 31 [.int .i64 o] H fun v H' => v = str (opnL o) ∧ Ext H H' := by
  refine call_pure rfl rfl rfl rfl rfl ?_
  repeat (first
  | refine exec_seq ?_
  | refine exec_region ?_
  | refine exec_block ?_
  | refine exec_skip ?_
  | refine exec_exit ?_
  | refine exec_ret ?_
  | refine exec_true rfl ?_
  | refine exec_false rfl ?_
  | refine ops_nil ?_
  | (apply ops_pl rfl rfl rfl ?_ rfl ?_; rotate_left; focus first | exact (.bld rfl rfl rfl rfl) | exact (.cat rfl rfl rfl (by first | (simp; done) | (simp; omega))) | exact (.neSelf rfl rfl rfl rfl) | exact (.eqSelf rfl rfl rfl rfl) | exact (.wr64 rfl rfl (by omega) (by omega)) | exact (.p rfl rfl) | exact (.cv64 rfl (fun _ => rfl) (by omega) (by omega)) | exact (.l rfl (fun _ _ => rfl)) | exact (.l rfl (look_own 0 rfl rfl rfl rfl)) | exact (.l rfl (look_own 1 rfl rfl rfl rfl)))
  | refine ops_skip rfl rfl rfl ?_
  | (refine ops_step rfl rfl rfl ?_; first | (refine step_box rfl rfl rfl (fun _ => ?_)) | (refine step_alloc rfl rfl rfl rfl (fun _ => ?_)) | (refine step_buildSlice rfl rfl rfl rfl rfl (fun _ => ?_)) | (refine step_map rfl (fun _ => ?_))))
  cases h1 : decide (o < 1)
  · repeat (first
    | refine exec_seq ?_
    | refine exec_region ?_
    | refine exec_block ?_
    | refine exec_skip ?_
    | refine exec_exit ?_
    | refine exec_ret ?_
    | refine exec_true rfl ?_
    | refine exec_false rfl ?_
    | refine ops_nil ?_
    | (apply ops_pl rfl rfl rfl ?_ rfl ?_; rotate_left; focus first | exact (.bld rfl rfl rfl rfl) | exact (.cat rfl rfl rfl (by first | (simp; done) | (simp; omega))) | exact (.neSelf rfl rfl rfl rfl) | exact (.eqSelf rfl rfl rfl rfl) | exact (.wr64 rfl rfl (by omega) (by omega)) | exact (.p rfl rfl) | exact (.cv64 rfl (fun _ => rfl) (by omega) (by omega)) | exact (.l rfl (fun _ _ => rfl)) | exact (.l rfl (look_own 0 rfl rfl rfl rfl)) | exact (.l rfl (look_own 1 rfl rfl rfl rfl)))
    | refine ops_skip rfl rfl rfl ?_
    | (refine ops_step rfl rfl rfl ?_; first | (refine step_box rfl rfl rfl (fun _ => ?_)) | (refine step_alloc rfl rfl rfl rfl (fun _ => ?_)) | (refine step_buildSlice rfl rfl rfl rfl rfl (fun _ => ?_)) | (refine step_map rfl (fun _ => ?_))))
    cases h2 : decide (o > ((43 : Nat) : Int))
    · have g1 : 1 ≤ o := by have := of_decide_eq_false h1; omega
      have g2 : o ≤ 43 := by have := of_decide_eq_false h2; omega
      have hi : (o - 1).toNat < opN.length := by show _ < 43; omega
      have hv : (opN.map str)[0 + (o - 1).toNat * 1]? = some (str (opnL o)) := by
        rw [show 0 + (o - 1).toNat * 1 = (o - 1).toNat from by omega, List.getElem?_map, opnL, if_pos ⟨g1, g2⟩, List.getElem?_eq_getElem hi]
        rfl
      repeat (first
      | refine exec_seq ?_
      | refine exec_region ?_
      | refine exec_block ?_
      | refine exec_skip ?_
      | refine exec_exit ?_
      | refine exec_ret ?_
      | refine exec_true rfl ?_
      | refine exec_false rfl ?_
      | refine ops_nil ?_
      | (apply ops_pl rfl rfl rfl ?_ rfl ?_; rotate_left; focus first | exact (.bld rfl rfl rfl rfl) | exact (.cat rfl rfl rfl (by first | (simp; done) | (simp; omega))) | exact (.neSelf rfl rfl rfl rfl) | exact (.eqSelf rfl rfl rfl rfl) | exact (.wr64 rfl rfl (by omega) (by omega)) | exact (.p rfl rfl) | exact (.cv64 rfl (fun _ => rfl) (by omega) (by omega)) | exact (.l rfl (fun _ _ => rfl)) | exact (.l rfl (look_own 0 rfl rfl rfl rfl)) | exact (.l rfl (look_own 1 rfl rfl rfl rfl)))
      | refine ops_skip rfl rfl rfl ?_
      | (refine ops_step rfl rfl rfl ?_; first | (refine step_box rfl rfl rfl (fun _ => ?_)) | (refine step_alloc rfl rfl rfl rfl (fun _ => ?_)) | (refine step_buildSlice rfl rfl rfl rfl rfl (fun _ => ?_)) | (refine step_map rfl (fun _ => ?_))))
      first | refine ops_pl rfl rfl rfl (.p rfl (opP_idxo (z := 1) rfl rfl rfl rfl (by omega) (by omega))) rfl ?_ | refine draw_pl rfl rfl rfl rfl (.p rfl (opP_idxo (z := 1) rfl rfl rfl rfl (by omega) (by omega))) rfl rfl ?_
      first | refine ops_pl rfl rfl rfl (.l rfl (look_own 0 rfl rfl rfl hv)) rfl ?_ | refine draw_pl rfl rfl rfl rfl (.l rfl (look_own 0 rfl rfl rfl hv)) rfl rfl ?_
      repeat (first
      | refine exec_seq ?_
      | refine exec_region ?_
      | refine exec_block ?_
      | refine exec_skip ?_
      | refine exec_exit ?_
      | refine exec_ret ?_
      | refine exec_true rfl ?_
      | refine exec_false rfl ?_
      | refine ops_nil ?_
      | (apply ops_pl rfl rfl rfl ?_ rfl ?_; rotate_left; focus first | exact (.bld rfl rfl rfl rfl) | exact (.cat rfl rfl rfl (by first | (simp; done) | (simp; omega))) | exact (.neSelf rfl rfl rfl rfl) | exact (.eqSelf rfl rfl rfl rfl) | exact (.wr64 rfl rfl (by omega) (by omega)) | exact (.p rfl rfl) | exact (.cv64 rfl (fun _ => rfl) (by omega) (by omega)) | exact (.l rfl (fun _ _ => rfl)) | exact (.l rfl (look_own 0 rfl rfl rfl rfl)) | exact (.l rfl (look_own 1 rfl rfl rfl rfl)))
      | refine ops_skip rfl rfl rfl ?_
      | (refine ops_step rfl rfl rfl ?_; first | (refine step_box rfl rfl rfl (fun _ => ?_)) | (refine step_alloc rfl rfl rfl rfl (fun _ => ?_)) | (refine step_buildSlice rfl rfl rfl rfl rfl (fun _ => ?_)) | (refine step_map rfl (fun _ => ?_))))
      exact ⟨trivial, _, rfl, rfl⟩
    · repeat (first
      | refine exec_seq ?_
      | refine exec_region ?_
      | refine exec_block ?_
      | refine exec_skip ?_
      | refine exec_exit ?_
      | refine exec_ret ?_
      | refine exec_true rfl ?_
      | refine exec_false rfl ?_
      | refine ops_nil ?_
      | (apply ops_pl rfl rfl rfl ?_ rfl ?_; rotate_left; focus first | exact (.bld rfl rfl rfl rfl) | exact (.cat rfl rfl rfl (by first | (simp; done) | (simp; omega))) | exact (.neSelf rfl rfl rfl rfl) | exact (.eqSelf rfl rfl rfl rfl) | exact (.wr64 rfl rfl (by omega) (by omega)) | exact (.p rfl rfl) | exact (.cv64 rfl (fun _ => rfl) (by omega) (by omega)) | exact (.l rfl (fun _ _ => rfl)) | exact (.l rfl (look_own 0 rfl rfl rfl rfl)) | exact (.l rfl (look_own 1 rfl rfl rfl rfl)))
      | refine ops_skip rfl rfl rfl ?_
      | (refine ops_step rfl rfl rfl ?_; first | (refine step_box rfl rfl rfl (fun _ => ?_)) | (refine step_alloc rfl rfl rfl rfl (fun _ => ?_)) | (refine step_buildSlice rfl rfl rfl rfl rfl (fun _ => ?_)) | (refine step_map rfl (fun _ => ?_))))
      refine ⟨trivial, _, rfl, ?_⟩
      rw [opnL, if_neg (fun h => by have := of_decide_eq_true h2; omega)]
      rfl
  · repeat (first
    | refine exec_seq ?_
    | refine exec_region ?_
    | refine exec_block ?_
    | refine exec_skip ?_
    | refine exec_exit ?_
    | refine exec_ret ?_
    | refine exec_true rfl ?_
    | refine exec_false rfl ?_
    | refine ops_nil ?_
    | (apply ops_pl rfl rfl rfl ?_ rfl ?_; rotate_left; focus first | exact (.bld rfl rfl rfl rfl) | exact (.cat rfl rfl rfl (by first | (simp; done) | (simp; omega))) | exact (.neSelf rfl rfl rfl rfl) | exact (.eqSelf rfl rfl rfl rfl) | exact (.wr64 rfl rfl (by omega) (by omega)) | exact (.p rfl rfl) | exact (.cv64 rfl (fun _ => rfl) (by omega) (by omega)) | exact (.l rfl (fun _ _ => rfl)) | exact (.l rfl (look_own 0 rfl rfl rfl rfl)) | exact (.l rfl (look_own 1 rfl rfl rfl rfl)))
    | refine ops_skip rfl rfl rfl ?_
    | (refine ops_step rfl rfl rfl ?_; first | (refine step_box rfl rfl rfl (fun _ => ?_)) | (refine step_alloc rfl rfl rfl rfl (fun _ => ?_)) | (refine step_buildSlice rfl rfl rfl rfl rfl (fun _ => ?_)) | (refine step_map rfl (fun _ => ?_))))
    refine ⟨trivial, _, rfl, ?_⟩
    rw [opnL, if_neg (fun h => by have := of_decide_eq_true h1; omega)]
    rfl
end Go.Proofs.Ytceoheliineobaa

