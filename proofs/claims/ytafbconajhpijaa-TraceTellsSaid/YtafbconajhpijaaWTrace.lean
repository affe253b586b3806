/-
  Walks of the functions on results.
-/
import Derived.Test.YtafbconajhpijaaWEqual
namespace Go.Proofs.Ytafbconajhpijaa
open Go.Ev Go.Ev.Wk
set_option linter.unusedVariables false
set_option linter.unusedSimpArgs false
variable {O : Old}
abbrev res (a : Option Addr) (n c : Nat) (e k s h d : Int) : Value := .agg #[.slice a n c, .int .i64 e, .int .i64 k, .int .i64 s, .int .i64 h, .int .i64 d]
def whole (e : Int) : Bool := e == 1 || e == 2 || e == 3


set_option maxRecDepth 100000 in
theorem wholeP_ok {H : Heap} {a : Option Addr} {n c : Nat} {e k s h d : Int} :
    CallC TT O 18 [res a n c e k s h d] H fun v H' => v = .bool (whole e) ∧ Ext H H' := by
  refine call_pure rfl rfl rfl rfl rfl ?_
  repeat (first
      | refine exec_seq ?_
      | refine exec_region ?_
      | refine exec_block ?_
      | refine exec_skip ?_
      | refine exec_exit ?_
      | refine exec_ret ?_
      | refine exec_true rfl ?_
      | refine exec_false rfl ?_
      | refine ops_nil ?_
      | refine ops_pl rfl rfl rfl (.bld rfl rfl rfl rfl) rfl ?_
      | refine ops_pl rfl rfl rfl (.neSelf rfl rfl rfl rfl) rfl ?_
      | refine ops_pl rfl rfl rfl (.eqSelf rfl rfl rfl rfl) rfl ?_
      | refine ops_pl rfl rfl rfl (.wr64 rfl rfl (by omega) (by omega)) rfl ?_
      | refine ops_pl rfl rfl rfl (.wr8 rfl rfl (by omega) (by omega)) rfl ?_
      | refine ops_pl rfl rfl rfl (.p rfl rfl) rfl ?_
      | refine ops_pl rfl rfl rfl (.cv64 rfl (fun _ => rfl) (by omega) (by omega)) rfl ?_
      | refine ops_pl rfl rfl rfl (.cv8 rfl (fun _ => rfl) (by omega) (by omega)) rfl ?_
      | refine ops_pl rfl rfl rfl (.l rfl (fun _ _ => rfl)) rfl ?_
      | refine ops_pl rfl rfl rfl (.l rfl (look_own 0 rfl rfl rfl rfl)) rfl ?_
      | refine ops_pl rfl rfl rfl (.l rfl (look_own 1 rfl rfl rfl rfl)) rfl ?_
      | refine ops_pl rfl rfl rfl (.l rfl (look_own 2 rfl rfl rfl rfl)) rfl ?_
      | refine ops_pl rfl rfl rfl (.l rfl (look_own 3 rfl rfl rfl rfl)) rfl ?_
      | refine ops_pl rfl rfl rfl (.l rfl (look_own 4 rfl rfl rfl rfl)) rfl ?_
      | refine ops_pl rfl rfl rfl (.l rfl (look_own 5 rfl rfl rfl rfl)) rfl ?_
      | refine ops_pl rfl rfl rfl (.l rfl (look_own 6 rfl rfl rfl rfl)) rfl ?_
      | refine ops_pl rfl rfl rfl (.l rfl (look_own 7 rfl rfl rfl rfl)) rfl ?_
      | refine ops_pl rfl rfl rfl (.l rfl (look_agg 0 rfl rfl rfl rfl)) rfl ?_
      | refine ops_pl rfl rfl rfl (.l rfl (look_agg 1 rfl rfl rfl rfl)) rfl ?_
      | refine ops_pl rfl rfl rfl (.l rfl (look_agg 2 rfl rfl rfl rfl)) rfl ?_
      | refine ops_pl rfl rfl rfl (.l rfl (look_agg 3 rfl rfl rfl rfl)) rfl ?_
      | refine ops_pl rfl rfl rfl (.l rfl (look_agg 4 rfl rfl rfl rfl)) rfl ?_
      | refine ops_pl rfl rfl rfl (.l rfl (look_agg 5 rfl rfl rfl rfl)) rfl ?_
      | refine ops_pl rfl rfl rfl (.l rfl (look_agg 6 rfl rfl rfl rfl)) rfl ?_
      | refine ops_pl rfl rfl rfl (.l rfl (look_agg 7 rfl rfl rfl rfl)) rfl ?_
      | refine ops_pl rfl rfl rfl (.l rfl (look_str 0 rfl rfl rfl rfl rfl rfl rfl)) rfl ?_
      | refine ops_pl rfl rfl rfl (.l rfl (look_str 1 rfl rfl rfl rfl rfl rfl rfl)) rfl ?_
      | refine ops_pl rfl rfl rfl (.l rfl (look_str 2 rfl rfl rfl rfl rfl rfl rfl)) rfl ?_
      | refine ops_pl rfl rfl rfl (.l rfl (look_str 3 rfl rfl rfl rfl rfl rfl rfl)) rfl ?_
      | refine ops_skip rfl rfl rfl ?_
      | (refine ops_step rfl rfl rfl ?_; first | (refine step_box rfl rfl rfl (fun _ => ?_)) | (refine step_alloc rfl rfl rfl rfl (fun _ => ?_)) | (refine step_buildSlice rfl rfl rfl rfl rfl (fun _ => ?_)) | (refine step_store 0 rfl rfl rfl rfl rfl rfl rfl rfl rfl ?_) | (refine step_store 1 rfl rfl rfl rfl rfl rfl rfl rfl rfl ?_) | (refine step_store 2 rfl rfl rfl rfl rfl rfl rfl rfl rfl ?_) | (refine step_store 3 rfl rfl rfl rfl rfl rfl rfl rfl rfl ?_) | (refine step_store 4 rfl rfl rfl rfl rfl rfl rfl rfl rfl ?_) | (refine step_store 5 rfl rfl rfl rfl rfl rfl rfl rfl rfl ?_) | (refine step_store 6 rfl rfl rfl rfl rfl rfl rfl rfl rfl ?_) | (refine step_store 7 rfl rfl rfl rfl rfl rfl rfl rfl rfl ?_)))
  cases h1 : (e == 1)
  · repeat (first
        | refine exec_seq ?_
        | refine exec_region ?_
        | refine exec_block ?_
        | refine exec_skip ?_
        | refine exec_exit ?_
        | refine exec_ret ?_
        | refine exec_true rfl ?_
        | refine exec_false rfl ?_
        | refine ops_nil ?_
        | refine ops_pl rfl rfl rfl (.bld rfl rfl rfl rfl) rfl ?_
        | refine ops_pl rfl rfl rfl (.neSelf rfl rfl rfl rfl) rfl ?_
        | refine ops_pl rfl rfl rfl (.eqSelf rfl rfl rfl rfl) rfl ?_
        | refine ops_pl rfl rfl rfl (.wr64 rfl rfl (by omega) (by omega)) rfl ?_
        | refine ops_pl rfl rfl rfl (.wr8 rfl rfl (by omega) (by omega)) rfl ?_
        | refine ops_pl rfl rfl rfl (.p rfl rfl) rfl ?_
        | refine ops_pl rfl rfl rfl (.cv64 rfl (fun _ => rfl) (by omega) (by omega)) rfl ?_
        | refine ops_pl rfl rfl rfl (.cv8 rfl (fun _ => rfl) (by omega) (by omega)) rfl ?_
        | refine ops_pl rfl rfl rfl (.l rfl (fun _ _ => rfl)) rfl ?_
        | refine ops_pl rfl rfl rfl (.l rfl (look_own 0 rfl rfl rfl rfl)) rfl ?_
        | refine ops_pl rfl rfl rfl (.l rfl (look_own 1 rfl rfl rfl rfl)) rfl ?_
        | refine ops_pl rfl rfl rfl (.l rfl (look_own 2 rfl rfl rfl rfl)) rfl ?_
        | refine ops_pl rfl rfl rfl (.l rfl (look_own 3 rfl rfl rfl rfl)) rfl ?_
        | refine ops_pl rfl rfl rfl (.l rfl (look_own 4 rfl rfl rfl rfl)) rfl ?_
        | refine ops_pl rfl rfl rfl (.l rfl (look_own 5 rfl rfl rfl rfl)) rfl ?_
        | refine ops_pl rfl rfl rfl (.l rfl (look_own 6 rfl rfl rfl rfl)) rfl ?_
        | refine ops_pl rfl rfl rfl (.l rfl (look_own 7 rfl rfl rfl rfl)) rfl ?_
        | refine ops_pl rfl rfl rfl (.l rfl (look_agg 0 rfl rfl rfl rfl)) rfl ?_
        | refine ops_pl rfl rfl rfl (.l rfl (look_agg 1 rfl rfl rfl rfl)) rfl ?_
        | refine ops_pl rfl rfl rfl (.l rfl (look_agg 2 rfl rfl rfl rfl)) rfl ?_
        | refine ops_pl rfl rfl rfl (.l rfl (look_agg 3 rfl rfl rfl rfl)) rfl ?_
        | refine ops_pl rfl rfl rfl (.l rfl (look_agg 4 rfl rfl rfl rfl)) rfl ?_
        | refine ops_pl rfl rfl rfl (.l rfl (look_agg 5 rfl rfl rfl rfl)) rfl ?_
        | refine ops_pl rfl rfl rfl (.l rfl (look_agg 6 rfl rfl rfl rfl)) rfl ?_
        | refine ops_pl rfl rfl rfl (.l rfl (look_agg 7 rfl rfl rfl rfl)) rfl ?_
        | refine ops_pl rfl rfl rfl (.l rfl (look_str 0 rfl rfl rfl rfl rfl rfl rfl)) rfl ?_
        | refine ops_pl rfl rfl rfl (.l rfl (look_str 1 rfl rfl rfl rfl rfl rfl rfl)) rfl ?_
        | refine ops_pl rfl rfl rfl (.l rfl (look_str 2 rfl rfl rfl rfl rfl rfl rfl)) rfl ?_
        | refine ops_pl rfl rfl rfl (.l rfl (look_str 3 rfl rfl rfl rfl rfl rfl rfl)) rfl ?_
        | refine ops_skip rfl rfl rfl ?_
        | (refine ops_step rfl rfl rfl ?_; first | (refine step_box rfl rfl rfl (fun _ => ?_)) | (refine step_alloc rfl rfl rfl rfl (fun _ => ?_)) | (refine step_buildSlice rfl rfl rfl rfl rfl (fun _ => ?_)) | (refine step_store 0 rfl rfl rfl rfl rfl rfl rfl rfl rfl ?_) | (refine step_store 1 rfl rfl rfl rfl rfl rfl rfl rfl rfl ?_) | (refine step_store 2 rfl rfl rfl rfl rfl rfl rfl rfl rfl ?_) | (refine step_store 3 rfl rfl rfl rfl rfl rfl rfl rfl rfl ?_) | (refine step_store 4 rfl rfl rfl rfl rfl rfl rfl rfl rfl ?_) | (refine step_store 5 rfl rfl rfl rfl rfl rfl rfl rfl rfl ?_) | (refine step_store 6 rfl rfl rfl rfl rfl rfl rfl rfl rfl ?_) | (refine step_store 7 rfl rfl rfl rfl rfl rfl rfl rfl rfl ?_)))
    cases h2 : (e == 2)
    · repeat (first
          | refine exec_seq ?_
          | refine exec_region ?_
          | refine exec_block ?_
          | refine exec_skip ?_
          | refine exec_exit ?_
          | refine exec_ret ?_
          | refine exec_true rfl ?_
          | refine exec_false rfl ?_
          | refine ops_nil ?_
          | refine ops_pl rfl rfl rfl (.bld rfl rfl rfl rfl) rfl ?_
          | refine ops_pl rfl rfl rfl (.neSelf rfl rfl rfl rfl) rfl ?_
          | refine ops_pl rfl rfl rfl (.eqSelf rfl rfl rfl rfl) rfl ?_
          | refine ops_pl rfl rfl rfl (.wr64 rfl rfl (by omega) (by omega)) rfl ?_
          | refine ops_pl rfl rfl rfl (.wr8 rfl rfl (by omega) (by omega)) rfl ?_
          | refine ops_pl rfl rfl rfl (.p rfl rfl) rfl ?_
          | refine ops_pl rfl rfl rfl (.cv64 rfl (fun _ => rfl) (by omega) (by omega)) rfl ?_
          | refine ops_pl rfl rfl rfl (.cv8 rfl (fun _ => rfl) (by omega) (by omega)) rfl ?_
          | refine ops_pl rfl rfl rfl (.l rfl (fun _ _ => rfl)) rfl ?_
          | refine ops_pl rfl rfl rfl (.l rfl (look_own 0 rfl rfl rfl rfl)) rfl ?_
          | refine ops_pl rfl rfl rfl (.l rfl (look_own 1 rfl rfl rfl rfl)) rfl ?_
          | refine ops_pl rfl rfl rfl (.l rfl (look_own 2 rfl rfl rfl rfl)) rfl ?_
          | refine ops_pl rfl rfl rfl (.l rfl (look_own 3 rfl rfl rfl rfl)) rfl ?_
          | refine ops_pl rfl rfl rfl (.l rfl (look_own 4 rfl rfl rfl rfl)) rfl ?_
          | refine ops_pl rfl rfl rfl (.l rfl (look_own 5 rfl rfl rfl rfl)) rfl ?_
          | refine ops_pl rfl rfl rfl (.l rfl (look_own 6 rfl rfl rfl rfl)) rfl ?_
          | refine ops_pl rfl rfl rfl (.l rfl (look_own 7 rfl rfl rfl rfl)) rfl ?_
          | refine ops_pl rfl rfl rfl (.l rfl (look_agg 0 rfl rfl rfl rfl)) rfl ?_
          | refine ops_pl rfl rfl rfl (.l rfl (look_agg 1 rfl rfl rfl rfl)) rfl ?_
          | refine ops_pl rfl rfl rfl (.l rfl (look_agg 2 rfl rfl rfl rfl)) rfl ?_
          | refine ops_pl rfl rfl rfl (.l rfl (look_agg 3 rfl rfl rfl rfl)) rfl ?_
          | refine ops_pl rfl rfl rfl (.l rfl (look_agg 4 rfl rfl rfl rfl)) rfl ?_
          | refine ops_pl rfl rfl rfl (.l rfl (look_agg 5 rfl rfl rfl rfl)) rfl ?_
          | refine ops_pl rfl rfl rfl (.l rfl (look_agg 6 rfl rfl rfl rfl)) rfl ?_
          | refine ops_pl rfl rfl rfl (.l rfl (look_agg 7 rfl rfl rfl rfl)) rfl ?_
          | refine ops_pl rfl rfl rfl (.l rfl (look_str 0 rfl rfl rfl rfl rfl rfl rfl)) rfl ?_
          | refine ops_pl rfl rfl rfl (.l rfl (look_str 1 rfl rfl rfl rfl rfl rfl rfl)) rfl ?_
          | refine ops_pl rfl rfl rfl (.l rfl (look_str 2 rfl rfl rfl rfl rfl rfl rfl)) rfl ?_
          | refine ops_pl rfl rfl rfl (.l rfl (look_str 3 rfl rfl rfl rfl rfl rfl rfl)) rfl ?_
          | refine ops_skip rfl rfl rfl ?_
          | (refine ops_step rfl rfl rfl ?_; first | (refine step_box rfl rfl rfl (fun _ => ?_)) | (refine step_alloc rfl rfl rfl rfl (fun _ => ?_)) | (refine step_buildSlice rfl rfl rfl rfl rfl (fun _ => ?_)) | (refine step_store 0 rfl rfl rfl rfl rfl rfl rfl rfl rfl ?_) | (refine step_store 1 rfl rfl rfl rfl rfl rfl rfl rfl rfl ?_) | (refine step_store 2 rfl rfl rfl rfl rfl rfl rfl rfl rfl ?_) | (refine step_store 3 rfl rfl rfl rfl rfl rfl rfl rfl rfl ?_) | (refine step_store 4 rfl rfl rfl rfl rfl rfl rfl rfl rfl ?_) | (refine step_store 5 rfl rfl rfl rfl rfl rfl rfl rfl rfl ?_) | (refine step_store 6 rfl rfl rfl rfl rfl rfl rfl rfl rfl ?_) | (refine step_store 7 rfl rfl rfl rfl rfl rfl rfl rfl rfl ?_)))
      exact ⟨trivial, _, rfl, by simp [oneOf, whole, h1, h2]⟩
    · repeat (first
          | refine exec_seq ?_
          | refine exec_region ?_
          | refine exec_block ?_
          | refine exec_skip ?_
          | refine exec_exit ?_
          | refine exec_ret ?_
          | refine exec_true rfl ?_
          | refine exec_false rfl ?_
          | refine ops_nil ?_
          | refine ops_pl rfl rfl rfl (.bld rfl rfl rfl rfl) rfl ?_
          | refine ops_pl rfl rfl rfl (.neSelf rfl rfl rfl rfl) rfl ?_
          | refine ops_pl rfl rfl rfl (.eqSelf rfl rfl rfl rfl) rfl ?_
          | refine ops_pl rfl rfl rfl (.wr64 rfl rfl (by omega) (by omega)) rfl ?_
          | refine ops_pl rfl rfl rfl (.wr8 rfl rfl (by omega) (by omega)) rfl ?_
          | refine ops_pl rfl rfl rfl (.p rfl rfl) rfl ?_
          | refine ops_pl rfl rfl rfl (.cv64 rfl (fun _ => rfl) (by omega) (by omega)) rfl ?_
          | refine ops_pl rfl rfl rfl (.cv8 rfl (fun _ => rfl) (by omega) (by omega)) rfl ?_
          | refine ops_pl rfl rfl rfl (.l rfl (fun _ _ => rfl)) rfl ?_
          | refine ops_pl rfl rfl rfl (.l rfl (look_own 0 rfl rfl rfl rfl)) rfl ?_
          | refine ops_pl rfl rfl rfl (.l rfl (look_own 1 rfl rfl rfl rfl)) rfl ?_
          | refine ops_pl rfl rfl rfl (.l rfl (look_own 2 rfl rfl rfl rfl)) rfl ?_
          | refine ops_pl rfl rfl rfl (.l rfl (look_own 3 rfl rfl rfl rfl)) rfl ?_
          | refine ops_pl rfl rfl rfl (.l rfl (look_own 4 rfl rfl rfl rfl)) rfl ?_
          | refine ops_pl rfl rfl rfl (.l rfl (look_own 5 rfl rfl rfl rfl)) rfl ?_
          | refine ops_pl rfl rfl rfl (.l rfl (look_own 6 rfl rfl rfl rfl)) rfl ?_
          | refine ops_pl rfl rfl rfl (.l rfl (look_own 7 rfl rfl rfl rfl)) rfl ?_
          | refine ops_pl rfl rfl rfl (.l rfl (look_agg 0 rfl rfl rfl rfl)) rfl ?_
          | refine ops_pl rfl rfl rfl (.l rfl (look_agg 1 rfl rfl rfl rfl)) rfl ?_
          | refine ops_pl rfl rfl rfl (.l rfl (look_agg 2 rfl rfl rfl rfl)) rfl ?_
          | refine ops_pl rfl rfl rfl (.l rfl (look_agg 3 rfl rfl rfl rfl)) rfl ?_
          | refine ops_pl rfl rfl rfl (.l rfl (look_agg 4 rfl rfl rfl rfl)) rfl ?_
          | refine ops_pl rfl rfl rfl (.l rfl (look_agg 5 rfl rfl rfl rfl)) rfl ?_
          | refine ops_pl rfl rfl rfl (.l rfl (look_agg 6 rfl rfl rfl rfl)) rfl ?_
          | refine ops_pl rfl rfl rfl (.l rfl (look_agg 7 rfl rfl rfl rfl)) rfl ?_
          | refine ops_pl rfl rfl rfl (.l rfl (look_str 0 rfl rfl rfl rfl rfl rfl rfl)) rfl ?_
          | refine ops_pl rfl rfl rfl (.l rfl (look_str 1 rfl rfl rfl rfl rfl rfl rfl)) rfl ?_
          | refine ops_pl rfl rfl rfl (.l rfl (look_str 2 rfl rfl rfl rfl rfl rfl rfl)) rfl ?_
          | refine ops_pl rfl rfl rfl (.l rfl (look_str 3 rfl rfl rfl rfl rfl rfl rfl)) rfl ?_
          | refine ops_skip rfl rfl rfl ?_
          | (refine ops_step rfl rfl rfl ?_; first | (refine step_box rfl rfl rfl (fun _ => ?_)) | (refine step_alloc rfl rfl rfl rfl (fun _ => ?_)) | (refine step_buildSlice rfl rfl rfl rfl rfl (fun _ => ?_)) | (refine step_store 0 rfl rfl rfl rfl rfl rfl rfl rfl rfl ?_) | (refine step_store 1 rfl rfl rfl rfl rfl rfl rfl rfl rfl ?_) | (refine step_store 2 rfl rfl rfl rfl rfl rfl rfl rfl rfl ?_) | (refine step_store 3 rfl rfl rfl rfl rfl rfl rfl rfl rfl ?_) | (refine step_store 4 rfl rfl rfl rfl rfl rfl rfl rfl rfl ?_) | (refine step_store 5 rfl rfl rfl rfl rfl rfl rfl rfl rfl ?_) | (refine step_store 6 rfl rfl rfl rfl rfl rfl rfl rfl rfl ?_) | (refine step_store 7 rfl rfl rfl rfl rfl rfl rfl rfl rfl ?_)))
      exact ⟨trivial, _, rfl, by simp [oneOf, whole, h1, h2]⟩
  · repeat (first
        | refine exec_seq ?_
        | refine exec_region ?_
        | refine exec_block ?_
        | refine exec_skip ?_
        | refine exec_exit ?_
        | refine exec_ret ?_
        | refine exec_true rfl ?_
        | refine exec_false rfl ?_
        | refine ops_nil ?_
        | refine ops_pl rfl rfl rfl (.bld rfl rfl rfl rfl) rfl ?_
        | refine ops_pl rfl rfl rfl (.neSelf rfl rfl rfl rfl) rfl ?_
        | refine ops_pl rfl rfl rfl (.eqSelf rfl rfl rfl rfl) rfl ?_
        | refine ops_pl rfl rfl rfl (.wr64 rfl rfl (by omega) (by omega)) rfl ?_
        | refine ops_pl rfl rfl rfl (.wr8 rfl rfl (by omega) (by omega)) rfl ?_
        | refine ops_pl rfl rfl rfl (.p rfl rfl) rfl ?_
        | refine ops_pl rfl rfl rfl (.cv64 rfl (fun _ => rfl) (by omega) (by omega)) rfl ?_
        | refine ops_pl rfl rfl rfl (.cv8 rfl (fun _ => rfl) (by omega) (by omega)) rfl ?_
        | refine ops_pl rfl rfl rfl (.l rfl (fun _ _ => rfl)) rfl ?_
        | refine ops_pl rfl rfl rfl (.l rfl (look_own 0 rfl rfl rfl rfl)) rfl ?_
        | refine ops_pl rfl rfl rfl (.l rfl (look_own 1 rfl rfl rfl rfl)) rfl ?_
        | refine ops_pl rfl rfl rfl (.l rfl (look_own 2 rfl rfl rfl rfl)) rfl ?_
        | refine ops_pl rfl rfl rfl (.l rfl (look_own 3 rfl rfl rfl rfl)) rfl ?_
        | refine ops_pl rfl rfl rfl (.l rfl (look_own 4 rfl rfl rfl rfl)) rfl ?_
        | refine ops_pl rfl rfl rfl (.l rfl (look_own 5 rfl rfl rfl rfl)) rfl ?_
        | refine ops_pl rfl rfl rfl (.l rfl (look_own 6 rfl rfl rfl rfl)) rfl ?_
        | refine ops_pl rfl rfl rfl (.l rfl (look_own 7 rfl rfl rfl rfl)) rfl ?_
        | refine ops_pl rfl rfl rfl (.l rfl (look_agg 0 rfl rfl rfl rfl)) rfl ?_
        | refine ops_pl rfl rfl rfl (.l rfl (look_agg 1 rfl rfl rfl rfl)) rfl ?_
        | refine ops_pl rfl rfl rfl (.l rfl (look_agg 2 rfl rfl rfl rfl)) rfl ?_
        | refine ops_pl rfl rfl rfl (.l rfl (look_agg 3 rfl rfl rfl rfl)) rfl ?_
        | refine ops_pl rfl rfl rfl (.l rfl (look_agg 4 rfl rfl rfl rfl)) rfl ?_
        | refine ops_pl rfl rfl rfl (.l rfl (look_agg 5 rfl rfl rfl rfl)) rfl ?_
        | refine ops_pl rfl rfl rfl (.l rfl (look_agg 6 rfl rfl rfl rfl)) rfl ?_
        | refine ops_pl rfl rfl rfl (.l rfl (look_agg 7 rfl rfl rfl rfl)) rfl ?_
        | refine ops_pl rfl rfl rfl (.l rfl (look_str 0 rfl rfl rfl rfl rfl rfl rfl)) rfl ?_
        | refine ops_pl rfl rfl rfl (.l rfl (look_str 1 rfl rfl rfl rfl rfl rfl rfl)) rfl ?_
        | refine ops_pl rfl rfl rfl (.l rfl (look_str 2 rfl rfl rfl rfl rfl rfl rfl)) rfl ?_
        | refine ops_pl rfl rfl rfl (.l rfl (look_str 3 rfl rfl rfl rfl rfl rfl rfl)) rfl ?_
        | refine ops_skip rfl rfl rfl ?_
        | (refine ops_step rfl rfl rfl ?_; first | (refine step_box rfl rfl rfl (fun _ => ?_)) | (refine step_alloc rfl rfl rfl rfl (fun _ => ?_)) | (refine step_buildSlice rfl rfl rfl rfl rfl (fun _ => ?_)) | (refine step_store 0 rfl rfl rfl rfl rfl rfl rfl rfl rfl ?_) | (refine step_store 1 rfl rfl rfl rfl rfl rfl rfl rfl rfl ?_) | (refine step_store 2 rfl rfl rfl rfl rfl rfl rfl rfl rfl ?_) | (refine step_store 3 rfl rfl rfl rfl rfl rfl rfl rfl rfl ?_) | (refine step_store 4 rfl rfl rfl rfl rfl rfl rfl rfl rfl ?_) | (refine step_store 5 rfl rfl rfl rfl rfl rfl rfl rfl rfl ?_) | (refine step_store 6 rfl rfl rfl rfl rfl rfl rfl rfl rfl ?_) | (refine step_store 7 rfl rfl rfl rfl rfl rfl rfl rfl rfl ?_)))
    exact ⟨trivial, _, rfl, by simp [oneOf, whole, h1]⟩

set_option maxRecDepth 100000 in
theorem sameP_ok {H : Heap} {aa ab : Option Addr} {n m ca cb : Nat} {la lb : List (List UInt8)} {e k s h d e' k' s' h' d' : Int} (ha : Sl O H (.slice aa n ca) 1 n (la.map str)) (hb : Sl O H (.slice ab m cb) 1 m (lb.map str)) (hn : n ≤ 1073741824) :
    CallC TT O 12 [res aa n ca e k s h d, res ab m cb e' k' s' h' d'] H fun v H' => v = .bool (decide (la = lb) && (e == e') && (k == k')) ∧ Ext H H' := by
  refine call_pure rfl rfl rfl rfl rfl ?_
  repeat (first
      | refine exec_seq ?_
      | refine exec_region ?_
      | refine exec_block ?_
      | refine exec_skip ?_
      | refine exec_exit ?_
      | refine exec_ret ?_
      | refine exec_true rfl ?_
      | refine exec_false rfl ?_
      | refine ops_nil ?_
      | refine ops_pl rfl rfl rfl (.bld rfl rfl rfl rfl) rfl ?_
      | refine ops_pl rfl rfl rfl (.neSelf rfl rfl rfl rfl) rfl ?_
      | refine ops_pl rfl rfl rfl (.eqSelf rfl rfl rfl rfl) rfl ?_
      | refine ops_pl rfl rfl rfl (.wr64 rfl rfl (by omega) (by omega)) rfl ?_
      | refine ops_pl rfl rfl rfl (.wr8 rfl rfl (by omega) (by omega)) rfl ?_
      | refine ops_pl rfl rfl rfl (.p rfl rfl) rfl ?_
      | refine ops_pl rfl rfl rfl (.cv64 rfl (fun _ => rfl) (by omega) (by omega)) rfl ?_
      | refine ops_pl rfl rfl rfl (.cv8 rfl (fun _ => rfl) (by omega) (by omega)) rfl ?_
      | refine ops_pl rfl rfl rfl (.l rfl (fun _ _ => rfl)) rfl ?_
      | refine ops_pl rfl rfl rfl (.l rfl (look_own 0 rfl rfl rfl rfl)) rfl ?_
      | refine ops_pl rfl rfl rfl (.l rfl (look_own 1 rfl rfl rfl rfl)) rfl ?_
      | refine ops_pl rfl rfl rfl (.l rfl (look_own 2 rfl rfl rfl rfl)) rfl ?_
      | refine ops_pl rfl rfl rfl (.l rfl (look_own 3 rfl rfl rfl rfl)) rfl ?_
      | refine ops_pl rfl rfl rfl (.l rfl (look_own 4 rfl rfl rfl rfl)) rfl ?_
      | refine ops_pl rfl rfl rfl (.l rfl (look_own 5 rfl rfl rfl rfl)) rfl ?_
      | refine ops_pl rfl rfl rfl (.l rfl (look_own 6 rfl rfl rfl rfl)) rfl ?_
      | refine ops_pl rfl rfl rfl (.l rfl (look_own 7 rfl rfl rfl rfl)) rfl ?_
      | refine ops_pl rfl rfl rfl (.l rfl (look_agg 0 rfl rfl rfl rfl)) rfl ?_
      | refine ops_pl rfl rfl rfl (.l rfl (look_agg 1 rfl rfl rfl rfl)) rfl ?_
      | refine ops_pl rfl rfl rfl (.l rfl (look_agg 2 rfl rfl rfl rfl)) rfl ?_
      | refine ops_pl rfl rfl rfl (.l rfl (look_agg 3 rfl rfl rfl rfl)) rfl ?_
      | refine ops_pl rfl rfl rfl (.l rfl (look_agg 4 rfl rfl rfl rfl)) rfl ?_
      | refine ops_pl rfl rfl rfl (.l rfl (look_agg 5 rfl rfl rfl rfl)) rfl ?_
      | refine ops_pl rfl rfl rfl (.l rfl (look_agg 6 rfl rfl rfl rfl)) rfl ?_
      | refine ops_pl rfl rfl rfl (.l rfl (look_agg 7 rfl rfl rfl rfl)) rfl ?_
      | refine ops_pl rfl rfl rfl (.l rfl (look_str 0 rfl rfl rfl rfl rfl rfl rfl)) rfl ?_
      | refine ops_pl rfl rfl rfl (.l rfl (look_str 1 rfl rfl rfl rfl rfl rfl rfl)) rfl ?_
      | refine ops_pl rfl rfl rfl (.l rfl (look_str 2 rfl rfl rfl rfl rfl rfl rfl)) rfl ?_
      | refine ops_pl rfl rfl rfl (.l rfl (look_str 3 rfl rfl rfl rfl rfl rfl rfl)) rfl ?_
      | refine ops_skip rfl rfl rfl ?_
      | (refine ops_step rfl rfl rfl ?_; first | (refine step_box rfl rfl rfl (fun _ => ?_)) | (refine step_alloc rfl rfl rfl rfl (fun _ => ?_)) | (refine step_buildSlice rfl rfl rfl rfl rfl (fun _ => ?_)) | (refine step_store 0 rfl rfl rfl rfl rfl rfl rfl rfl rfl ?_) | (refine step_store 1 rfl rfl rfl rfl rfl rfl rfl rfl rfl ?_) | (refine step_store 2 rfl rfl rfl rfl rfl rfl rfl rfl rfl ?_) | (refine step_store 3 rfl rfl rfl rfl rfl rfl rfl rfl rfl ?_) | (refine step_store 4 rfl rfl rfl rfl rfl rfl rfl rfl rfl ?_) | (refine step_store 5 rfl rfl rfl rfl rfl rfl rfl rfl rfl ?_) | (refine step_store 6 rfl rfl rfl rfl rfl rfl rfl rfl rfl ?_) | (refine step_store 7 rfl rfl rfl rfl rfl rfl rfl rfl rfl ?_)))
  refine ops_step rfl rfl rfl (step_call_bool rfl rfl rfl (fun H hs => equalP_ok (ha.at hs) (hb.at hs) hn) (fun hc => ?_) (fun hc => ?_))
  · repeat (first
        | refine exec_seq ?_
        | refine exec_region ?_
        | refine exec_block ?_
        | refine exec_skip ?_
        | refine exec_exit ?_
        | refine exec_ret ?_
        | refine exec_true rfl ?_
        | refine exec_false rfl ?_
        | refine ops_nil ?_
        | refine ops_pl rfl rfl rfl (.bld rfl rfl rfl rfl) rfl ?_
        | refine ops_pl rfl rfl rfl (.neSelf rfl rfl rfl rfl) rfl ?_
        | refine ops_pl rfl rfl rfl (.eqSelf rfl rfl rfl rfl) rfl ?_
        | refine ops_pl rfl rfl rfl (.wr64 rfl rfl (by omega) (by omega)) rfl ?_
        | refine ops_pl rfl rfl rfl (.wr8 rfl rfl (by omega) (by omega)) rfl ?_
        | refine ops_pl rfl rfl rfl (.p rfl rfl) rfl ?_
        | refine ops_pl rfl rfl rfl (.cv64 rfl (fun _ => rfl) (by omega) (by omega)) rfl ?_
        | refine ops_pl rfl rfl rfl (.cv8 rfl (fun _ => rfl) (by omega) (by omega)) rfl ?_
        | refine ops_pl rfl rfl rfl (.l rfl (fun _ _ => rfl)) rfl ?_
        | refine ops_pl rfl rfl rfl (.l rfl (look_own 0 rfl rfl rfl rfl)) rfl ?_
        | refine ops_pl rfl rfl rfl (.l rfl (look_own 1 rfl rfl rfl rfl)) rfl ?_
        | refine ops_pl rfl rfl rfl (.l rfl (look_own 2 rfl rfl rfl rfl)) rfl ?_
        | refine ops_pl rfl rfl rfl (.l rfl (look_own 3 rfl rfl rfl rfl)) rfl ?_
        | refine ops_pl rfl rfl rfl (.l rfl (look_own 4 rfl rfl rfl rfl)) rfl ?_
        | refine ops_pl rfl rfl rfl (.l rfl (look_own 5 rfl rfl rfl rfl)) rfl ?_
        | refine ops_pl rfl rfl rfl (.l rfl (look_own 6 rfl rfl rfl rfl)) rfl ?_
        | refine ops_pl rfl rfl rfl (.l rfl (look_own 7 rfl rfl rfl rfl)) rfl ?_
        | refine ops_pl rfl rfl rfl (.l rfl (look_agg 0 rfl rfl rfl rfl)) rfl ?_
        | refine ops_pl rfl rfl rfl (.l rfl (look_agg 1 rfl rfl rfl rfl)) rfl ?_
        | refine ops_pl rfl rfl rfl (.l rfl (look_agg 2 rfl rfl rfl rfl)) rfl ?_
        | refine ops_pl rfl rfl rfl (.l rfl (look_agg 3 rfl rfl rfl rfl)) rfl ?_
        | refine ops_pl rfl rfl rfl (.l rfl (look_agg 4 rfl rfl rfl rfl)) rfl ?_
        | refine ops_pl rfl rfl rfl (.l rfl (look_agg 5 rfl rfl rfl rfl)) rfl ?_
        | refine ops_pl rfl rfl rfl (.l rfl (look_agg 6 rfl rfl rfl rfl)) rfl ?_
        | refine ops_pl rfl rfl rfl (.l rfl (look_agg 7 rfl rfl rfl rfl)) rfl ?_
        | refine ops_pl rfl rfl rfl (.l rfl (look_str 0 rfl rfl rfl rfl rfl rfl rfl)) rfl ?_
        | refine ops_pl rfl rfl rfl (.l rfl (look_str 1 rfl rfl rfl rfl rfl rfl rfl)) rfl ?_
        | refine ops_pl rfl rfl rfl (.l rfl (look_str 2 rfl rfl rfl rfl rfl rfl rfl)) rfl ?_
        | refine ops_pl rfl rfl rfl (.l rfl (look_str 3 rfl rfl rfl rfl rfl rfl rfl)) rfl ?_
        | refine ops_skip rfl rfl rfl ?_
        | (refine ops_step rfl rfl rfl ?_; first | (refine step_box rfl rfl rfl (fun _ => ?_)) | (refine step_alloc rfl rfl rfl rfl (fun _ => ?_)) | (refine step_buildSlice rfl rfl rfl rfl rfl (fun _ => ?_)) | (refine step_store 0 rfl rfl rfl rfl rfl rfl rfl rfl rfl ?_) | (refine step_store 1 rfl rfl rfl rfl rfl rfl rfl rfl rfl ?_) | (refine step_store 2 rfl rfl rfl rfl rfl rfl rfl rfl rfl ?_) | (refine step_store 3 rfl rfl rfl rfl rfl rfl rfl rfl rfl ?_) | (refine step_store 4 rfl rfl rfl rfl rfl rfl rfl rfl rfl ?_) | (refine step_store 5 rfl rfl rfl rfl rfl rfl rfl rfl rfl ?_) | (refine step_store 6 rfl rfl rfl rfl rfl rfl rfl rfl rfl ?_) | (refine step_store 7 rfl rfl rfl rfl rfl rfl rfl rfl rfl ?_)))
    cases h1 : (e == e')
    · repeat (first
          | refine exec_seq ?_
          | refine exec_region ?_
          | refine exec_block ?_
          | refine exec_skip ?_
          | refine exec_exit ?_
          | refine exec_ret ?_
          | refine exec_true rfl ?_
          | refine exec_false rfl ?_
          | refine ops_nil ?_
          | refine ops_pl rfl rfl rfl (.bld rfl rfl rfl rfl) rfl ?_
          | refine ops_pl rfl rfl rfl (.neSelf rfl rfl rfl rfl) rfl ?_
          | refine ops_pl rfl rfl rfl (.eqSelf rfl rfl rfl rfl) rfl ?_
          | refine ops_pl rfl rfl rfl (.wr64 rfl rfl (by omega) (by omega)) rfl ?_
          | refine ops_pl rfl rfl rfl (.wr8 rfl rfl (by omega) (by omega)) rfl ?_
          | refine ops_pl rfl rfl rfl (.p rfl rfl) rfl ?_
          | refine ops_pl rfl rfl rfl (.cv64 rfl (fun _ => rfl) (by omega) (by omega)) rfl ?_
          | refine ops_pl rfl rfl rfl (.cv8 rfl (fun _ => rfl) (by omega) (by omega)) rfl ?_
          | refine ops_pl rfl rfl rfl (.l rfl (fun _ _ => rfl)) rfl ?_
          | refine ops_pl rfl rfl rfl (.l rfl (look_own 0 rfl rfl rfl rfl)) rfl ?_
          | refine ops_pl rfl rfl rfl (.l rfl (look_own 1 rfl rfl rfl rfl)) rfl ?_
          | refine ops_pl rfl rfl rfl (.l rfl (look_own 2 rfl rfl rfl rfl)) rfl ?_
          | refine ops_pl rfl rfl rfl (.l rfl (look_own 3 rfl rfl rfl rfl)) rfl ?_
          | refine ops_pl rfl rfl rfl (.l rfl (look_own 4 rfl rfl rfl rfl)) rfl ?_
          | refine ops_pl rfl rfl rfl (.l rfl (look_own 5 rfl rfl rfl rfl)) rfl ?_
          | refine ops_pl rfl rfl rfl (.l rfl (look_own 6 rfl rfl rfl rfl)) rfl ?_
          | refine ops_pl rfl rfl rfl (.l rfl (look_own 7 rfl rfl rfl rfl)) rfl ?_
          | refine ops_pl rfl rfl rfl (.l rfl (look_agg 0 rfl rfl rfl rfl)) rfl ?_
          | refine ops_pl rfl rfl rfl (.l rfl (look_agg 1 rfl rfl rfl rfl)) rfl ?_
          | refine ops_pl rfl rfl rfl (.l rfl (look_agg 2 rfl rfl rfl rfl)) rfl ?_
          | refine ops_pl rfl rfl rfl (.l rfl (look_agg 3 rfl rfl rfl rfl)) rfl ?_
          | refine ops_pl rfl rfl rfl (.l rfl (look_agg 4 rfl rfl rfl rfl)) rfl ?_
          | refine ops_pl rfl rfl rfl (.l rfl (look_agg 5 rfl rfl rfl rfl)) rfl ?_
          | refine ops_pl rfl rfl rfl (.l rfl (look_agg 6 rfl rfl rfl rfl)) rfl ?_
          | refine ops_pl rfl rfl rfl (.l rfl (look_agg 7 rfl rfl rfl rfl)) rfl ?_
          | refine ops_pl rfl rfl rfl (.l rfl (look_str 0 rfl rfl rfl rfl rfl rfl rfl)) rfl ?_
          | refine ops_pl rfl rfl rfl (.l rfl (look_str 1 rfl rfl rfl rfl rfl rfl rfl)) rfl ?_
          | refine ops_pl rfl rfl rfl (.l rfl (look_str 2 rfl rfl rfl rfl rfl rfl rfl)) rfl ?_
          | refine ops_pl rfl rfl rfl (.l rfl (look_str 3 rfl rfl rfl rfl rfl rfl rfl)) rfl ?_
          | refine ops_skip rfl rfl rfl ?_
          | (refine ops_step rfl rfl rfl ?_; first | (refine step_box rfl rfl rfl (fun _ => ?_)) | (refine step_alloc rfl rfl rfl rfl (fun _ => ?_)) | (refine step_buildSlice rfl rfl rfl rfl rfl (fun _ => ?_)) | (refine step_store 0 rfl rfl rfl rfl rfl rfl rfl rfl rfl ?_) | (refine step_store 1 rfl rfl rfl rfl rfl rfl rfl rfl rfl ?_) | (refine step_store 2 rfl rfl rfl rfl rfl rfl rfl rfl rfl ?_) | (refine step_store 3 rfl rfl rfl rfl rfl rfl rfl rfl rfl ?_) | (refine step_store 4 rfl rfl rfl rfl rfl rfl rfl rfl rfl ?_) | (refine step_store 5 rfl rfl rfl rfl rfl rfl rfl rfl rfl ?_) | (refine step_store 6 rfl rfl rfl rfl rfl rfl rfl rfl rfl ?_) | (refine step_store 7 rfl rfl rfl rfl rfl rfl rfl rfl rfl ?_)))
      exact ⟨trivial, _, rfl, by simp [oneOf, hc]⟩
    · repeat (first
          | refine exec_seq ?_
          | refine exec_region ?_
          | refine exec_block ?_
          | refine exec_skip ?_
          | refine exec_exit ?_
          | refine exec_ret ?_
          | refine exec_true rfl ?_
          | refine exec_false rfl ?_
          | refine ops_nil ?_
          | refine ops_pl rfl rfl rfl (.bld rfl rfl rfl rfl) rfl ?_
          | refine ops_pl rfl rfl rfl (.neSelf rfl rfl rfl rfl) rfl ?_
          | refine ops_pl rfl rfl rfl (.eqSelf rfl rfl rfl rfl) rfl ?_
          | refine ops_pl rfl rfl rfl (.wr64 rfl rfl (by omega) (by omega)) rfl ?_
          | refine ops_pl rfl rfl rfl (.wr8 rfl rfl (by omega) (by omega)) rfl ?_
          | refine ops_pl rfl rfl rfl (.p rfl rfl) rfl ?_
          | refine ops_pl rfl rfl rfl (.cv64 rfl (fun _ => rfl) (by omega) (by omega)) rfl ?_
          | refine ops_pl rfl rfl rfl (.cv8 rfl (fun _ => rfl) (by omega) (by omega)) rfl ?_
          | refine ops_pl rfl rfl rfl (.l rfl (fun _ _ => rfl)) rfl ?_
          | refine ops_pl rfl rfl rfl (.l rfl (look_own 0 rfl rfl rfl rfl)) rfl ?_
          | refine ops_pl rfl rfl rfl (.l rfl (look_own 1 rfl rfl rfl rfl)) rfl ?_
          | refine ops_pl rfl rfl rfl (.l rfl (look_own 2 rfl rfl rfl rfl)) rfl ?_
          | refine ops_pl rfl rfl rfl (.l rfl (look_own 3 rfl rfl rfl rfl)) rfl ?_
          | refine ops_pl rfl rfl rfl (.l rfl (look_own 4 rfl rfl rfl rfl)) rfl ?_
          | refine ops_pl rfl rfl rfl (.l rfl (look_own 5 rfl rfl rfl rfl)) rfl ?_
          | refine ops_pl rfl rfl rfl (.l rfl (look_own 6 rfl rfl rfl rfl)) rfl ?_
          | refine ops_pl rfl rfl rfl (.l rfl (look_own 7 rfl rfl rfl rfl)) rfl ?_
          | refine ops_pl rfl rfl rfl (.l rfl (look_agg 0 rfl rfl rfl rfl)) rfl ?_
          | refine ops_pl rfl rfl rfl (.l rfl (look_agg 1 rfl rfl rfl rfl)) rfl ?_
          | refine ops_pl rfl rfl rfl (.l rfl (look_agg 2 rfl rfl rfl rfl)) rfl ?_
          | refine ops_pl rfl rfl rfl (.l rfl (look_agg 3 rfl rfl rfl rfl)) rfl ?_
          | refine ops_pl rfl rfl rfl (.l rfl (look_agg 4 rfl rfl rfl rfl)) rfl ?_
          | refine ops_pl rfl rfl rfl (.l rfl (look_agg 5 rfl rfl rfl rfl)) rfl ?_
          | refine ops_pl rfl rfl rfl (.l rfl (look_agg 6 rfl rfl rfl rfl)) rfl ?_
          | refine ops_pl rfl rfl rfl (.l rfl (look_agg 7 rfl rfl rfl rfl)) rfl ?_
          | refine ops_pl rfl rfl rfl (.l rfl (look_str 0 rfl rfl rfl rfl rfl rfl rfl)) rfl ?_
          | refine ops_pl rfl rfl rfl (.l rfl (look_str 1 rfl rfl rfl rfl rfl rfl rfl)) rfl ?_
          | refine ops_pl rfl rfl rfl (.l rfl (look_str 2 rfl rfl rfl rfl rfl rfl rfl)) rfl ?_
          | refine ops_pl rfl rfl rfl (.l rfl (look_str 3 rfl rfl rfl rfl rfl rfl rfl)) rfl ?_
          | refine ops_skip rfl rfl rfl ?_
          | (refine ops_step rfl rfl rfl ?_; first | (refine step_box rfl rfl rfl (fun _ => ?_)) | (refine step_alloc rfl rfl rfl rfl (fun _ => ?_)) | (refine step_buildSlice rfl rfl rfl rfl rfl (fun _ => ?_)) | (refine step_store 0 rfl rfl rfl rfl rfl rfl rfl rfl rfl ?_) | (refine step_store 1 rfl rfl rfl rfl rfl rfl rfl rfl rfl ?_) | (refine step_store 2 rfl rfl rfl rfl rfl rfl rfl rfl rfl ?_) | (refine step_store 3 rfl rfl rfl rfl rfl rfl rfl rfl rfl ?_) | (refine step_store 4 rfl rfl rfl rfl rfl rfl rfl rfl rfl ?_) | (refine step_store 5 rfl rfl rfl rfl rfl rfl rfl rfl rfl ?_) | (refine step_store 6 rfl rfl rfl rfl rfl rfl rfl rfl rfl ?_) | (refine step_store 7 rfl rfl rfl rfl rfl rfl rfl rfl rfl ?_)))
      exact ⟨trivial, _, rfl, by simp [oneOf, hc]⟩
  · repeat (first
        | refine exec_seq ?_
        | refine exec_region ?_
        | refine exec_block ?_
        | refine exec_skip ?_
        | refine exec_exit ?_
        | refine exec_ret ?_
        | refine exec_true rfl ?_
        | refine exec_false rfl ?_
        | refine ops_nil ?_
        | refine ops_pl rfl rfl rfl (.bld rfl rfl rfl rfl) rfl ?_
        | refine ops_pl rfl rfl rfl (.neSelf rfl rfl rfl rfl) rfl ?_
        | refine ops_pl rfl rfl rfl (.eqSelf rfl rfl rfl rfl) rfl ?_
        | refine ops_pl rfl rfl rfl (.wr64 rfl rfl (by omega) (by omega)) rfl ?_
        | refine ops_pl rfl rfl rfl (.wr8 rfl rfl (by omega) (by omega)) rfl ?_
        | refine ops_pl rfl rfl rfl (.p rfl rfl) rfl ?_
        | refine ops_pl rfl rfl rfl (.cv64 rfl (fun _ => rfl) (by omega) (by omega)) rfl ?_
        | refine ops_pl rfl rfl rfl (.cv8 rfl (fun _ => rfl) (by omega) (by omega)) rfl ?_
        | refine ops_pl rfl rfl rfl (.l rfl (fun _ _ => rfl)) rfl ?_
        | refine ops_pl rfl rfl rfl (.l rfl (look_own 0 rfl rfl rfl rfl)) rfl ?_
        | refine ops_pl rfl rfl rfl (.l rfl (look_own 1 rfl rfl rfl rfl)) rfl ?_
        | refine ops_pl rfl rfl rfl (.l rfl (look_own 2 rfl rfl rfl rfl)) rfl ?_
        | refine ops_pl rfl rfl rfl (.l rfl (look_own 3 rfl rfl rfl rfl)) rfl ?_
        | refine ops_pl rfl rfl rfl (.l rfl (look_own 4 rfl rfl rfl rfl)) rfl ?_
        | refine ops_pl rfl rfl rfl (.l rfl (look_own 5 rfl rfl rfl rfl)) rfl ?_
        | refine ops_pl rfl rfl rfl (.l rfl (look_own 6 rfl rfl rfl rfl)) rfl ?_
        | refine ops_pl rfl rfl rfl (.l rfl (look_own 7 rfl rfl rfl rfl)) rfl ?_
        | refine ops_pl rfl rfl rfl (.l rfl (look_agg 0 rfl rfl rfl rfl)) rfl ?_
        | refine ops_pl rfl rfl rfl (.l rfl (look_agg 1 rfl rfl rfl rfl)) rfl ?_
        | refine ops_pl rfl rfl rfl (.l rfl (look_agg 2 rfl rfl rfl rfl)) rfl ?_
        | refine ops_pl rfl rfl rfl (.l rfl (look_agg 3 rfl rfl rfl rfl)) rfl ?_
        | refine ops_pl rfl rfl rfl (.l rfl (look_agg 4 rfl rfl rfl rfl)) rfl ?_
        | refine ops_pl rfl rfl rfl (.l rfl (look_agg 5 rfl rfl rfl rfl)) rfl ?_
        | refine ops_pl rfl rfl rfl (.l rfl (look_agg 6 rfl rfl rfl rfl)) rfl ?_
        | refine ops_pl rfl rfl rfl (.l rfl (look_agg 7 rfl rfl rfl rfl)) rfl ?_
        | refine ops_pl rfl rfl rfl (.l rfl (look_str 0 rfl rfl rfl rfl rfl rfl rfl)) rfl ?_
        | refine ops_pl rfl rfl rfl (.l rfl (look_str 1 rfl rfl rfl rfl rfl rfl rfl)) rfl ?_
        | refine ops_pl rfl rfl rfl (.l rfl (look_str 2 rfl rfl rfl rfl rfl rfl rfl)) rfl ?_
        | refine ops_pl rfl rfl rfl (.l rfl (look_str 3 rfl rfl rfl rfl rfl rfl rfl)) rfl ?_
        | refine ops_skip rfl rfl rfl ?_
        | (refine ops_step rfl rfl rfl ?_; first | (refine step_box rfl rfl rfl (fun _ => ?_)) | (refine step_alloc rfl rfl rfl rfl (fun _ => ?_)) | (refine step_buildSlice rfl rfl rfl rfl rfl (fun _ => ?_)) | (refine step_store 0 rfl rfl rfl rfl rfl rfl rfl rfl rfl ?_) | (refine step_store 1 rfl rfl rfl rfl rfl rfl rfl rfl rfl ?_) | (refine step_store 2 rfl rfl rfl rfl rfl rfl rfl rfl rfl ?_) | (refine step_store 3 rfl rfl rfl rfl rfl rfl rfl rfl rfl ?_) | (refine step_store 4 rfl rfl rfl rfl rfl rfl rfl rfl rfl ?_) | (refine step_store 5 rfl rfl rfl rfl rfl rfl rfl rfl rfl ?_) | (refine step_store 6 rfl rfl rfl rfl rfl rfl rfl rfl rfl ?_) | (refine step_store 7 rfl rfl rfl rfl rfl rfl rfl rfl rfl ?_)))
    exact ⟨trivial, _, rfl, by simp [oneOf, hc]⟩


set_option maxRecDepth 100000 in
theorem wholeR_ok {H : Heap} {a : Option Addr} {n c : Nat} {e k s h d : Int} :
    CallC TT O 19 [res a n c e k s h d] H fun v H' => v = .bool (whole e) ∧ Ext H H' := by
  refine call_pure rfl rfl rfl rfl rfl ?_
  repeat (first
      | refine exec_seq ?_
      | refine exec_region ?_
      | refine exec_block ?_
      | refine exec_skip ?_
      | refine exec_exit ?_
      | refine exec_ret ?_
      | refine exec_true rfl ?_
      | refine exec_false rfl ?_
      | refine ops_nil ?_
      | refine ops_pl rfl rfl rfl (.bld rfl rfl rfl rfl) rfl ?_
      | refine ops_pl rfl rfl rfl (.neSelf rfl rfl rfl rfl) rfl ?_
      | refine ops_pl rfl rfl rfl (.eqSelf rfl rfl rfl rfl) rfl ?_
      | refine ops_pl rfl rfl rfl (.wr64 rfl rfl (by omega) (by omega)) rfl ?_
      | refine ops_pl rfl rfl rfl (.wr8 rfl rfl (by omega) (by omega)) rfl ?_
      | refine ops_pl rfl rfl rfl (.p rfl rfl) rfl ?_
      | refine ops_pl rfl rfl rfl (.cv64 rfl (fun _ => rfl) (by omega) (by omega)) rfl ?_
      | refine ops_pl rfl rfl rfl (.cv8 rfl (fun _ => rfl) (by omega) (by omega)) rfl ?_
      | refine ops_pl rfl rfl rfl (.l rfl (fun _ _ => rfl)) rfl ?_
      | refine ops_pl rfl rfl rfl (.l rfl (look_own 0 rfl rfl rfl rfl)) rfl ?_
      | refine ops_pl rfl rfl rfl (.l rfl (look_own 1 rfl rfl rfl rfl)) rfl ?_
      | refine ops_pl rfl rfl rfl (.l rfl (look_own 2 rfl rfl rfl rfl)) rfl ?_
      | refine ops_pl rfl rfl rfl (.l rfl (look_own 3 rfl rfl rfl rfl)) rfl ?_
      | refine ops_pl rfl rfl rfl (.l rfl (look_own 4 rfl rfl rfl rfl)) rfl ?_
      | refine ops_pl rfl rfl rfl (.l rfl (look_own 5 rfl rfl rfl rfl)) rfl ?_
      | refine ops_pl rfl rfl rfl (.l rfl (look_own 6 rfl rfl rfl rfl)) rfl ?_
      | refine ops_pl rfl rfl rfl (.l rfl (look_own 7 rfl rfl rfl rfl)) rfl ?_
      | refine ops_pl rfl rfl rfl (.l rfl (look_agg 0 rfl rfl rfl rfl)) rfl ?_
      | refine ops_pl rfl rfl rfl (.l rfl (look_agg 1 rfl rfl rfl rfl)) rfl ?_
      | refine ops_pl rfl rfl rfl (.l rfl (look_agg 2 rfl rfl rfl rfl)) rfl ?_
      | refine ops_pl rfl rfl rfl (.l rfl (look_agg 3 rfl rfl rfl rfl)) rfl ?_
      | refine ops_pl rfl rfl rfl (.l rfl (look_agg 4 rfl rfl rfl rfl)) rfl ?_
      | refine ops_pl rfl rfl rfl (.l rfl (look_agg 5 rfl rfl rfl rfl)) rfl ?_
      | refine ops_pl rfl rfl rfl (.l rfl (look_agg 6 rfl rfl rfl rfl)) rfl ?_
      | refine ops_pl rfl rfl rfl (.l rfl (look_agg 7 rfl rfl rfl rfl)) rfl ?_
      | refine ops_pl rfl rfl rfl (.l rfl (look_str 0 rfl rfl rfl rfl rfl rfl rfl)) rfl ?_
      | refine ops_pl rfl rfl rfl (.l rfl (look_str 1 rfl rfl rfl rfl rfl rfl rfl)) rfl ?_
      | refine ops_pl rfl rfl rfl (.l rfl (look_str 2 rfl rfl rfl rfl rfl rfl rfl)) rfl ?_
      | refine ops_pl rfl rfl rfl (.l rfl (look_str 3 rfl rfl rfl rfl rfl rfl rfl)) rfl ?_
      | refine ops_skip rfl rfl rfl ?_
      | (refine ops_step rfl rfl rfl ?_; first | (refine step_box rfl rfl rfl (fun _ => ?_)) | (refine step_alloc rfl rfl rfl rfl (fun _ => ?_)) | (refine step_buildSlice rfl rfl rfl rfl rfl (fun _ => ?_)) | (refine step_store 0 rfl rfl rfl rfl rfl rfl rfl rfl rfl ?_) | (refine step_store 1 rfl rfl rfl rfl rfl rfl rfl rfl rfl ?_) | (refine step_store 2 rfl rfl rfl rfl rfl rfl rfl rfl rfl ?_) | (refine step_store 3 rfl rfl rfl rfl rfl rfl rfl rfl rfl ?_) | (refine step_store 4 rfl rfl rfl rfl rfl rfl rfl rfl rfl ?_) | (refine step_store 5 rfl rfl rfl rfl rfl rfl rfl rfl rfl ?_) | (refine step_store 6 rfl rfl rfl rfl rfl rfl rfl rfl rfl ?_) | (refine step_store 7 rfl rfl rfl rfl rfl rfl rfl rfl rfl ?_)))
  cases h1 : (e == 1)
  · repeat (first
        | refine exec_seq ?_
        | refine exec_region ?_
        | refine exec_block ?_
        | refine exec_skip ?_
        | refine exec_exit ?_
        | refine exec_ret ?_
        | refine exec_true rfl ?_
        | refine exec_false rfl ?_
        | refine ops_nil ?_
        | refine ops_pl rfl rfl rfl (.bld rfl rfl rfl rfl) rfl ?_
        | refine ops_pl rfl rfl rfl (.neSelf rfl rfl rfl rfl) rfl ?_
        | refine ops_pl rfl rfl rfl (.eqSelf rfl rfl rfl rfl) rfl ?_
        | refine ops_pl rfl rfl rfl (.wr64 rfl rfl (by omega) (by omega)) rfl ?_
        | refine ops_pl rfl rfl rfl (.wr8 rfl rfl (by omega) (by omega)) rfl ?_
        | refine ops_pl rfl rfl rfl (.p rfl rfl) rfl ?_
        | refine ops_pl rfl rfl rfl (.cv64 rfl (fun _ => rfl) (by omega) (by omega)) rfl ?_
        | refine ops_pl rfl rfl rfl (.cv8 rfl (fun _ => rfl) (by omega) (by omega)) rfl ?_
        | refine ops_pl rfl rfl rfl (.l rfl (fun _ _ => rfl)) rfl ?_
        | refine ops_pl rfl rfl rfl (.l rfl (look_own 0 rfl rfl rfl rfl)) rfl ?_
        | refine ops_pl rfl rfl rfl (.l rfl (look_own 1 rfl rfl rfl rfl)) rfl ?_
        | refine ops_pl rfl rfl rfl (.l rfl (look_own 2 rfl rfl rfl rfl)) rfl ?_
        | refine ops_pl rfl rfl rfl (.l rfl (look_own 3 rfl rfl rfl rfl)) rfl ?_
        | refine ops_pl rfl rfl rfl (.l rfl (look_own 4 rfl rfl rfl rfl)) rfl ?_
        | refine ops_pl rfl rfl rfl (.l rfl (look_own 5 rfl rfl rfl rfl)) rfl ?_
        | refine ops_pl rfl rfl rfl (.l rfl (look_own 6 rfl rfl rfl rfl)) rfl ?_
        | refine ops_pl rfl rfl rfl (.l rfl (look_own 7 rfl rfl rfl rfl)) rfl ?_
        | refine ops_pl rfl rfl rfl (.l rfl (look_agg 0 rfl rfl rfl rfl)) rfl ?_
        | refine ops_pl rfl rfl rfl (.l rfl (look_agg 1 rfl rfl rfl rfl)) rfl ?_
        | refine ops_pl rfl rfl rfl (.l rfl (look_agg 2 rfl rfl rfl rfl)) rfl ?_
        | refine ops_pl rfl rfl rfl (.l rfl (look_agg 3 rfl rfl rfl rfl)) rfl ?_
        | refine ops_pl rfl rfl rfl (.l rfl (look_agg 4 rfl rfl rfl rfl)) rfl ?_
        | refine ops_pl rfl rfl rfl (.l rfl (look_agg 5 rfl rfl rfl rfl)) rfl ?_
        | refine ops_pl rfl rfl rfl (.l rfl (look_agg 6 rfl rfl rfl rfl)) rfl ?_
        | refine ops_pl rfl rfl rfl (.l rfl (look_agg 7 rfl rfl rfl rfl)) rfl ?_
        | refine ops_pl rfl rfl rfl (.l rfl (look_str 0 rfl rfl rfl rfl rfl rfl rfl)) rfl ?_
        | refine ops_pl rfl rfl rfl (.l rfl (look_str 1 rfl rfl rfl rfl rfl rfl rfl)) rfl ?_
        | refine ops_pl rfl rfl rfl (.l rfl (look_str 2 rfl rfl rfl rfl rfl rfl rfl)) rfl ?_
        | refine ops_pl rfl rfl rfl (.l rfl (look_str 3 rfl rfl rfl rfl rfl rfl rfl)) rfl ?_
        | refine ops_skip rfl rfl rfl ?_
        | (refine ops_step rfl rfl rfl ?_; first | (refine step_box rfl rfl rfl (fun _ => ?_)) | (refine step_alloc rfl rfl rfl rfl (fun _ => ?_)) | (refine step_buildSlice rfl rfl rfl rfl rfl (fun _ => ?_)) | (refine step_store 0 rfl rfl rfl rfl rfl rfl rfl rfl rfl ?_) | (refine step_store 1 rfl rfl rfl rfl rfl rfl rfl rfl rfl ?_) | (refine step_store 2 rfl rfl rfl rfl rfl rfl rfl rfl rfl ?_) | (refine step_store 3 rfl rfl rfl rfl rfl rfl rfl rfl rfl ?_) | (refine step_store 4 rfl rfl rfl rfl rfl rfl rfl rfl rfl ?_) | (refine step_store 5 rfl rfl rfl rfl rfl rfl rfl rfl rfl ?_) | (refine step_store 6 rfl rfl rfl rfl rfl rfl rfl rfl rfl ?_) | (refine step_store 7 rfl rfl rfl rfl rfl rfl rfl rfl rfl ?_)))
    cases h2 : (e == 2)
    · repeat (first
          | refine exec_seq ?_
          | refine exec_region ?_
          | refine exec_block ?_
          | refine exec_skip ?_
          | refine exec_exit ?_
          | refine exec_ret ?_
          | refine exec_true rfl ?_
          | refine exec_false rfl ?_
          | refine ops_nil ?_
          | refine ops_pl rfl rfl rfl (.bld rfl rfl rfl rfl) rfl ?_
          | refine ops_pl rfl rfl rfl (.neSelf rfl rfl rfl rfl) rfl ?_
          | refine ops_pl rfl rfl rfl (.eqSelf rfl rfl rfl rfl) rfl ?_
          | refine ops_pl rfl rfl rfl (.wr64 rfl rfl (by omega) (by omega)) rfl ?_
          | refine ops_pl rfl rfl rfl (.wr8 rfl rfl (by omega) (by omega)) rfl ?_
          | refine ops_pl rfl rfl rfl (.p rfl rfl) rfl ?_
          | refine ops_pl rfl rfl rfl (.cv64 rfl (fun _ => rfl) (by omega) (by omega)) rfl ?_
          | refine ops_pl rfl rfl rfl (.cv8 rfl (fun _ => rfl) (by omega) (by omega)) rfl ?_
          | refine ops_pl rfl rfl rfl (.l rfl (fun _ _ => rfl)) rfl ?_
          | refine ops_pl rfl rfl rfl (.l rfl (look_own 0 rfl rfl rfl rfl)) rfl ?_
          | refine ops_pl rfl rfl rfl (.l rfl (look_own 1 rfl rfl rfl rfl)) rfl ?_
          | refine ops_pl rfl rfl rfl (.l rfl (look_own 2 rfl rfl rfl rfl)) rfl ?_
          | refine ops_pl rfl rfl rfl (.l rfl (look_own 3 rfl rfl rfl rfl)) rfl ?_
          | refine ops_pl rfl rfl rfl (.l rfl (look_own 4 rfl rfl rfl rfl)) rfl ?_
          | refine ops_pl rfl rfl rfl (.l rfl (look_own 5 rfl rfl rfl rfl)) rfl ?_
          | refine ops_pl rfl rfl rfl (.l rfl (look_own 6 rfl rfl rfl rfl)) rfl ?_
          | refine ops_pl rfl rfl rfl (.l rfl (look_own 7 rfl rfl rfl rfl)) rfl ?_
          | refine ops_pl rfl rfl rfl (.l rfl (look_agg 0 rfl rfl rfl rfl)) rfl ?_
          | refine ops_pl rfl rfl rfl (.l rfl (look_agg 1 rfl rfl rfl rfl)) rfl ?_
          | refine ops_pl rfl rfl rfl (.l rfl (look_agg 2 rfl rfl rfl rfl)) rfl ?_
          | refine ops_pl rfl rfl rfl (.l rfl (look_agg 3 rfl rfl rfl rfl)) rfl ?_
          | refine ops_pl rfl rfl rfl (.l rfl (look_agg 4 rfl rfl rfl rfl)) rfl ?_
          | refine ops_pl rfl rfl rfl (.l rfl (look_agg 5 rfl rfl rfl rfl)) rfl ?_
          | refine ops_pl rfl rfl rfl (.l rfl (look_agg 6 rfl rfl rfl rfl)) rfl ?_
          | refine ops_pl rfl rfl rfl (.l rfl (look_agg 7 rfl rfl rfl rfl)) rfl ?_
          | refine ops_pl rfl rfl rfl (.l rfl (look_str 0 rfl rfl rfl rfl rfl rfl rfl)) rfl ?_
          | refine ops_pl rfl rfl rfl (.l rfl (look_str 1 rfl rfl rfl rfl rfl rfl rfl)) rfl ?_
          | refine ops_pl rfl rfl rfl (.l rfl (look_str 2 rfl rfl rfl rfl rfl rfl rfl)) rfl ?_
          | refine ops_pl rfl rfl rfl (.l rfl (look_str 3 rfl rfl rfl rfl rfl rfl rfl)) rfl ?_
          | refine ops_skip rfl rfl rfl ?_
          | (refine ops_step rfl rfl rfl ?_; first | (refine step_box rfl rfl rfl (fun _ => ?_)) | (refine step_alloc rfl rfl rfl rfl (fun _ => ?_)) | (refine step_buildSlice rfl rfl rfl rfl rfl (fun _ => ?_)) | (refine step_store 0 rfl rfl rfl rfl rfl rfl rfl rfl rfl ?_) | (refine step_store 1 rfl rfl rfl rfl rfl rfl rfl rfl rfl ?_) | (refine step_store 2 rfl rfl rfl rfl rfl rfl rfl rfl rfl ?_) | (refine step_store 3 rfl rfl rfl rfl rfl rfl rfl rfl rfl ?_) | (refine step_store 4 rfl rfl rfl rfl rfl rfl rfl rfl rfl ?_) | (refine step_store 5 rfl rfl rfl rfl rfl rfl rfl rfl rfl ?_) | (refine step_store 6 rfl rfl rfl rfl rfl rfl rfl rfl rfl ?_) | (refine step_store 7 rfl rfl rfl rfl rfl rfl rfl rfl rfl ?_)))
      exact ⟨trivial, _, rfl, by simp [oneOf, whole, h1, h2]⟩
    · repeat (first
          | refine exec_seq ?_
          | refine exec_region ?_
          | refine exec_block ?_
          | refine exec_skip ?_
          | refine exec_exit ?_
          | refine exec_ret ?_
          | refine exec_true rfl ?_
          | refine exec_false rfl ?_
          | refine ops_nil ?_
          | refine ops_pl rfl rfl rfl (.bld rfl rfl rfl rfl) rfl ?_
          | refine ops_pl rfl rfl rfl (.neSelf rfl rfl rfl rfl) rfl ?_
          | refine ops_pl rfl rfl rfl (.eqSelf rfl rfl rfl rfl) rfl ?_
          | refine ops_pl rfl rfl rfl (.wr64 rfl rfl (by omega) (by omega)) rfl ?_
          | refine ops_pl rfl rfl rfl (.wr8 rfl rfl (by omega) (by omega)) rfl ?_
          | refine ops_pl rfl rfl rfl (.p rfl rfl) rfl ?_
          | refine ops_pl rfl rfl rfl (.cv64 rfl (fun _ => rfl) (by omega) (by omega)) rfl ?_
          | refine ops_pl rfl rfl rfl (.cv8 rfl (fun _ => rfl) (by omega) (by omega)) rfl ?_
          | refine ops_pl rfl rfl rfl (.l rfl (fun _ _ => rfl)) rfl ?_
          | refine ops_pl rfl rfl rfl (.l rfl (look_own 0 rfl rfl rfl rfl)) rfl ?_
          | refine ops_pl rfl rfl rfl (.l rfl (look_own 1 rfl rfl rfl rfl)) rfl ?_
          | refine ops_pl rfl rfl rfl (.l rfl (look_own 2 rfl rfl rfl rfl)) rfl ?_
          | refine ops_pl rfl rfl rfl (.l rfl (look_own 3 rfl rfl rfl rfl)) rfl ?_
          | refine ops_pl rfl rfl rfl (.l rfl (look_own 4 rfl rfl rfl rfl)) rfl ?_
          | refine ops_pl rfl rfl rfl (.l rfl (look_own 5 rfl rfl rfl rfl)) rfl ?_
          | refine ops_pl rfl rfl rfl (.l rfl (look_own 6 rfl rfl rfl rfl)) rfl ?_
          | refine ops_pl rfl rfl rfl (.l rfl (look_own 7 rfl rfl rfl rfl)) rfl ?_
          | refine ops_pl rfl rfl rfl (.l rfl (look_agg 0 rfl rfl rfl rfl)) rfl ?_
          | refine ops_pl rfl rfl rfl (.l rfl (look_agg 1 rfl rfl rfl rfl)) rfl ?_
          | refine ops_pl rfl rfl rfl (.l rfl (look_agg 2 rfl rfl rfl rfl)) rfl ?_
          | refine ops_pl rfl rfl rfl (.l rfl (look_agg 3 rfl rfl rfl rfl)) rfl ?_
          | refine ops_pl rfl rfl rfl (.l rfl (look_agg 4 rfl rfl rfl rfl)) rfl ?_
          | refine ops_pl rfl rfl rfl (.l rfl (look_agg 5 rfl rfl rfl rfl)) rfl ?_
          | refine ops_pl rfl rfl rfl (.l rfl (look_agg 6 rfl rfl rfl rfl)) rfl ?_
          | refine ops_pl rfl rfl rfl (.l rfl (look_agg 7 rfl rfl rfl rfl)) rfl ?_
          | refine ops_pl rfl rfl rfl (.l rfl (look_str 0 rfl rfl rfl rfl rfl rfl rfl)) rfl ?_
          | refine ops_pl rfl rfl rfl (.l rfl (look_str 1 rfl rfl rfl rfl rfl rfl rfl)) rfl ?_
          | refine ops_pl rfl rfl rfl (.l rfl (look_str 2 rfl rfl rfl rfl rfl rfl rfl)) rfl ?_
          | refine ops_pl rfl rfl rfl (.l rfl (look_str 3 rfl rfl rfl rfl rfl rfl rfl)) rfl ?_
          | refine ops_skip rfl rfl rfl ?_
          | (refine ops_step rfl rfl rfl ?_; first | (refine step_box rfl rfl rfl (fun _ => ?_)) | (refine step_alloc rfl rfl rfl rfl (fun _ => ?_)) | (refine step_buildSlice rfl rfl rfl rfl rfl (fun _ => ?_)) | (refine step_store 0 rfl rfl rfl rfl rfl rfl rfl rfl rfl ?_) | (refine step_store 1 rfl rfl rfl rfl rfl rfl rfl rfl rfl ?_) | (refine step_store 2 rfl rfl rfl rfl rfl rfl rfl rfl rfl ?_) | (refine step_store 3 rfl rfl rfl rfl rfl rfl rfl rfl rfl ?_) | (refine step_store 4 rfl rfl rfl rfl rfl rfl rfl rfl rfl ?_) | (refine step_store 5 rfl rfl rfl rfl rfl rfl rfl rfl rfl ?_) | (refine step_store 6 rfl rfl rfl rfl rfl rfl rfl rfl rfl ?_) | (refine step_store 7 rfl rfl rfl rfl rfl rfl rfl rfl rfl ?_)))
      exact ⟨trivial, _, rfl, by simp [oneOf, whole, h1, h2]⟩
  · repeat (first
        | refine exec_seq ?_
        | refine exec_region ?_
        | refine exec_block ?_
        | refine exec_skip ?_
        | refine exec_exit ?_
        | refine exec_ret ?_
        | refine exec_true rfl ?_
        | refine exec_false rfl ?_
        | refine ops_nil ?_
        | refine ops_pl rfl rfl rfl (.bld rfl rfl rfl rfl) rfl ?_
        | refine ops_pl rfl rfl rfl (.neSelf rfl rfl rfl rfl) rfl ?_
        | refine ops_pl rfl rfl rfl (.eqSelf rfl rfl rfl rfl) rfl ?_
        | refine ops_pl rfl rfl rfl (.wr64 rfl rfl (by omega) (by omega)) rfl ?_
        | refine ops_pl rfl rfl rfl (.wr8 rfl rfl (by omega) (by omega)) rfl ?_
        | refine ops_pl rfl rfl rfl (.p rfl rfl) rfl ?_
        | refine ops_pl rfl rfl rfl (.cv64 rfl (fun _ => rfl) (by omega) (by omega)) rfl ?_
        | refine ops_pl rfl rfl rfl (.cv8 rfl (fun _ => rfl) (by omega) (by omega)) rfl ?_
        | refine ops_pl rfl rfl rfl (.l rfl (fun _ _ => rfl)) rfl ?_
        | refine ops_pl rfl rfl rfl (.l rfl (look_own 0 rfl rfl rfl rfl)) rfl ?_
        | refine ops_pl rfl rfl rfl (.l rfl (look_own 1 rfl rfl rfl rfl)) rfl ?_
        | refine ops_pl rfl rfl rfl (.l rfl (look_own 2 rfl rfl rfl rfl)) rfl ?_
        | refine ops_pl rfl rfl rfl (.l rfl (look_own 3 rfl rfl rfl rfl)) rfl ?_
        | refine ops_pl rfl rfl rfl (.l rfl (look_own 4 rfl rfl rfl rfl)) rfl ?_
        | refine ops_pl rfl rfl rfl (.l rfl (look_own 5 rfl rfl rfl rfl)) rfl ?_
        | refine ops_pl rfl rfl rfl (.l rfl (look_own 6 rfl rfl rfl rfl)) rfl ?_
        | refine ops_pl rfl rfl rfl (.l rfl (look_own 7 rfl rfl rfl rfl)) rfl ?_
        | refine ops_pl rfl rfl rfl (.l rfl (look_agg 0 rfl rfl rfl rfl)) rfl ?_
        | refine ops_pl rfl rfl rfl (.l rfl (look_agg 1 rfl rfl rfl rfl)) rfl ?_
        | refine ops_pl rfl rfl rfl (.l rfl (look_agg 2 rfl rfl rfl rfl)) rfl ?_
        | refine ops_pl rfl rfl rfl (.l rfl (look_agg 3 rfl rfl rfl rfl)) rfl ?_
        | refine ops_pl rfl rfl rfl (.l rfl (look_agg 4 rfl rfl rfl rfl)) rfl ?_
        | refine ops_pl rfl rfl rfl (.l rfl (look_agg 5 rfl rfl rfl rfl)) rfl ?_
        | refine ops_pl rfl rfl rfl (.l rfl (look_agg 6 rfl rfl rfl rfl)) rfl ?_
        | refine ops_pl rfl rfl rfl (.l rfl (look_agg 7 rfl rfl rfl rfl)) rfl ?_
        | refine ops_pl rfl rfl rfl (.l rfl (look_str 0 rfl rfl rfl rfl rfl rfl rfl)) rfl ?_
        | refine ops_pl rfl rfl rfl (.l rfl (look_str 1 rfl rfl rfl rfl rfl rfl rfl)) rfl ?_
        | refine ops_pl rfl rfl rfl (.l rfl (look_str 2 rfl rfl rfl rfl rfl rfl rfl)) rfl ?_
        | refine ops_pl rfl rfl rfl (.l rfl (look_str 3 rfl rfl rfl rfl rfl rfl rfl)) rfl ?_
        | refine ops_skip rfl rfl rfl ?_
        | (refine ops_step rfl rfl rfl ?_; first | (refine step_box rfl rfl rfl (fun _ => ?_)) | (refine step_alloc rfl rfl rfl rfl (fun _ => ?_)) | (refine step_buildSlice rfl rfl rfl rfl rfl (fun _ => ?_)) | (refine step_store 0 rfl rfl rfl rfl rfl rfl rfl rfl rfl ?_) | (refine step_store 1 rfl rfl rfl rfl rfl rfl rfl rfl rfl ?_) | (refine step_store 2 rfl rfl rfl rfl rfl rfl rfl rfl rfl ?_) | (refine step_store 3 rfl rfl rfl rfl rfl rfl rfl rfl rfl ?_) | (refine step_store 4 rfl rfl rfl rfl rfl rfl rfl rfl rfl ?_) | (refine step_store 5 rfl rfl rfl rfl rfl rfl rfl rfl rfl ?_) | (refine step_store 6 rfl rfl rfl rfl rfl rfl rfl rfl rfl ?_) | (refine step_store 7 rfl rfl rfl rfl rfl rfl rfl rfl rfl ?_)))
    exact ⟨trivial, _, rfl, by simp [oneOf, whole, h1]⟩

set_option maxRecDepth 100000 in
theorem sameR_ok {H : Heap} {aa ab : Option Addr} {n m ca cb : Nat} {la lb : List (List UInt8)} {e k s h d e' k' s' h' d' : Int} (ha : Sl O H (.slice aa n ca) 1 n (la.map str)) (hb : Sl O H (.slice ab m cb) 1 m (lb.map str)) (hn : n ≤ 1073741824) :
    CallC TT O 13 [res aa n ca e k s h d, res ab m cb e' k' s' h' d'] H fun v H' => v = .bool (decide (la = lb) && (e == e') && (k == k')) ∧ Ext H H' := by
  refine call_pure rfl rfl rfl rfl rfl ?_
  repeat (first
      | refine exec_seq ?_
      | refine exec_region ?_
      | refine exec_block ?_
      | refine exec_skip ?_
      | refine exec_exit ?_
      | refine exec_ret ?_
      | refine exec_true rfl ?_
      | refine exec_false rfl ?_
      | refine ops_nil ?_
      | refine ops_pl rfl rfl rfl (.bld rfl rfl rfl rfl) rfl ?_
      | refine ops_pl rfl rfl rfl (.neSelf rfl rfl rfl rfl) rfl ?_
      | refine ops_pl rfl rfl rfl (.eqSelf rfl rfl rfl rfl) rfl ?_
      | refine ops_pl rfl rfl rfl (.wr64 rfl rfl (by omega) (by omega)) rfl ?_
      | refine ops_pl rfl rfl rfl (.wr8 rfl rfl (by omega) (by omega)) rfl ?_
      | refine ops_pl rfl rfl rfl (.p rfl rfl) rfl ?_
      | refine ops_pl rfl rfl rfl (.cv64 rfl (fun _ => rfl) (by omega) (by omega)) rfl ?_
      | refine ops_pl rfl rfl rfl (.cv8 rfl (fun _ => rfl) (by omega) (by omega)) rfl ?_
      | refine ops_pl rfl rfl rfl (.l rfl (fun _ _ => rfl)) rfl ?_
      | refine ops_pl rfl rfl rfl (.l rfl (look_own 0 rfl rfl rfl rfl)) rfl ?_
      | refine ops_pl rfl rfl rfl (.l rfl (look_own 1 rfl rfl rfl rfl)) rfl ?_
      | refine ops_pl rfl rfl rfl (.l rfl (look_own 2 rfl rfl rfl rfl)) rfl ?_
      | refine ops_pl rfl rfl rfl (.l rfl (look_own 3 rfl rfl rfl rfl)) rfl ?_
      | refine ops_pl rfl rfl rfl (.l rfl (look_own 4 rfl rfl rfl rfl)) rfl ?_
      | refine ops_pl rfl rfl rfl (.l rfl (look_own 5 rfl rfl rfl rfl)) rfl ?_
      | refine ops_pl rfl rfl rfl (.l rfl (look_own 6 rfl rfl rfl rfl)) rfl ?_
      | refine ops_pl rfl rfl rfl (.l rfl (look_own 7 rfl rfl rfl rfl)) rfl ?_
      | refine ops_pl rfl rfl rfl (.l rfl (look_agg 0 rfl rfl rfl rfl)) rfl ?_
      | refine ops_pl rfl rfl rfl (.l rfl (look_agg 1 rfl rfl rfl rfl)) rfl ?_
      | refine ops_pl rfl rfl rfl (.l rfl (look_agg 2 rfl rfl rfl rfl)) rfl ?_
      | refine ops_pl rfl rfl rfl (.l rfl (look_agg 3 rfl rfl rfl rfl)) rfl ?_
      | refine ops_pl rfl rfl rfl (.l rfl (look_agg 4 rfl rfl rfl rfl)) rfl ?_
      | refine ops_pl rfl rfl rfl (.l rfl (look_agg 5 rfl rfl rfl rfl)) rfl ?_
      | refine ops_pl rfl rfl rfl (.l rfl (look_agg 6 rfl rfl rfl rfl)) rfl ?_
      | refine ops_pl rfl rfl rfl (.l rfl (look_agg 7 rfl rfl rfl rfl)) rfl ?_
      | refine ops_pl rfl rfl rfl (.l rfl (look_str 0 rfl rfl rfl rfl rfl rfl rfl)) rfl ?_
      | refine ops_pl rfl rfl rfl (.l rfl (look_str 1 rfl rfl rfl rfl rfl rfl rfl)) rfl ?_
      | refine ops_pl rfl rfl rfl (.l rfl (look_str 2 rfl rfl rfl rfl rfl rfl rfl)) rfl ?_
      | refine ops_pl rfl rfl rfl (.l rfl (look_str 3 rfl rfl rfl rfl rfl rfl rfl)) rfl ?_
      | refine ops_skip rfl rfl rfl ?_
      | (refine ops_step rfl rfl rfl ?_; first | (refine step_box rfl rfl rfl (fun _ => ?_)) | (refine step_alloc rfl rfl rfl rfl (fun _ => ?_)) | (refine step_buildSlice rfl rfl rfl rfl rfl (fun _ => ?_)) | (refine step_store 0 rfl rfl rfl rfl rfl rfl rfl rfl rfl ?_) | (refine step_store 1 rfl rfl rfl rfl rfl rfl rfl rfl rfl ?_) | (refine step_store 2 rfl rfl rfl rfl rfl rfl rfl rfl rfl ?_) | (refine step_store 3 rfl rfl rfl rfl rfl rfl rfl rfl rfl ?_) | (refine step_store 4 rfl rfl rfl rfl rfl rfl rfl rfl rfl ?_) | (refine step_store 5 rfl rfl rfl rfl rfl rfl rfl rfl rfl ?_) | (refine step_store 6 rfl rfl rfl rfl rfl rfl rfl rfl rfl ?_) | (refine step_store 7 rfl rfl rfl rfl rfl rfl rfl rfl rfl ?_)))
  refine ops_step rfl rfl rfl (step_call_bool rfl rfl rfl (fun H hs => equalR_ok (ha.at hs) (hb.at hs) hn) (fun hc => ?_) (fun hc => ?_))
  · repeat (first
        | refine exec_seq ?_
        | refine exec_region ?_
        | refine exec_block ?_
        | refine exec_skip ?_
        | refine exec_exit ?_
        | refine exec_ret ?_
        | refine exec_true rfl ?_
        | refine exec_false rfl ?_
        | refine ops_nil ?_
        | refine ops_pl rfl rfl rfl (.bld rfl rfl rfl rfl) rfl ?_
        | refine ops_pl rfl rfl rfl (.neSelf rfl rfl rfl rfl) rfl ?_
        | refine ops_pl rfl rfl rfl (.eqSelf rfl rfl rfl rfl) rfl ?_
        | refine ops_pl rfl rfl rfl (.wr64 rfl rfl (by omega) (by omega)) rfl ?_
        | refine ops_pl rfl rfl rfl (.wr8 rfl rfl (by omega) (by omega)) rfl ?_
        | refine ops_pl rfl rfl rfl (.p rfl rfl) rfl ?_
        | refine ops_pl rfl rfl rfl (.cv64 rfl (fun _ => rfl) (by omega) (by omega)) rfl ?_
        | refine ops_pl rfl rfl rfl (.cv8 rfl (fun _ => rfl) (by omega) (by omega)) rfl ?_
        | refine ops_pl rfl rfl rfl (.l rfl (fun _ _ => rfl)) rfl ?_
        | refine ops_pl rfl rfl rfl (.l rfl (look_own 0 rfl rfl rfl rfl)) rfl ?_
        | refine ops_pl rfl rfl rfl (.l rfl (look_own 1 rfl rfl rfl rfl)) rfl ?_
        | refine ops_pl rfl rfl rfl (.l rfl (look_own 2 rfl rfl rfl rfl)) rfl ?_
        | refine ops_pl rfl rfl rfl (.l rfl (look_own 3 rfl rfl rfl rfl)) rfl ?_
        | refine ops_pl rfl rfl rfl (.l rfl (look_own 4 rfl rfl rfl rfl)) rfl ?_
        | refine ops_pl rfl rfl rfl (.l rfl (look_own 5 rfl rfl rfl rfl)) rfl ?_
        | refine ops_pl rfl rfl rfl (.l rfl (look_own 6 rfl rfl rfl rfl)) rfl ?_
        | refine ops_pl rfl rfl rfl (.l rfl (look_own 7 rfl rfl rfl rfl)) rfl ?_
        | refine ops_pl rfl rfl rfl (.l rfl (look_agg 0 rfl rfl rfl rfl)) rfl ?_
        | refine ops_pl rfl rfl rfl (.l rfl (look_agg 1 rfl rfl rfl rfl)) rfl ?_
        | refine ops_pl rfl rfl rfl (.l rfl (look_agg 2 rfl rfl rfl rfl)) rfl ?_
        | refine ops_pl rfl rfl rfl (.l rfl (look_agg 3 rfl rfl rfl rfl)) rfl ?_
        | refine ops_pl rfl rfl rfl (.l rfl (look_agg 4 rfl rfl rfl rfl)) rfl ?_
        | refine ops_pl rfl rfl rfl (.l rfl (look_agg 5 rfl rfl rfl rfl)) rfl ?_
        | refine ops_pl rfl rfl rfl (.l rfl (look_agg 6 rfl rfl rfl rfl)) rfl ?_
        | refine ops_pl rfl rfl rfl (.l rfl (look_agg 7 rfl rfl rfl rfl)) rfl ?_
        | refine ops_pl rfl rfl rfl (.l rfl (look_str 0 rfl rfl rfl rfl rfl rfl rfl)) rfl ?_
        | refine ops_pl rfl rfl rfl (.l rfl (look_str 1 rfl rfl rfl rfl rfl rfl rfl)) rfl ?_
        | refine ops_pl rfl rfl rfl (.l rfl (look_str 2 rfl rfl rfl rfl rfl rfl rfl)) rfl ?_
        | refine ops_pl rfl rfl rfl (.l rfl (look_str 3 rfl rfl rfl rfl rfl rfl rfl)) rfl ?_
        | refine ops_skip rfl rfl rfl ?_
        | (refine ops_step rfl rfl rfl ?_; first | (refine step_box rfl rfl rfl (fun _ => ?_)) | (refine step_alloc rfl rfl rfl rfl (fun _ => ?_)) | (refine step_buildSlice rfl rfl rfl rfl rfl (fun _ => ?_)) | (refine step_store 0 rfl rfl rfl rfl rfl rfl rfl rfl rfl ?_) | (refine step_store 1 rfl rfl rfl rfl rfl rfl rfl rfl rfl ?_) | (refine step_store 2 rfl rfl rfl rfl rfl rfl rfl rfl rfl ?_) | (refine step_store 3 rfl rfl rfl rfl rfl rfl rfl rfl rfl ?_) | (refine step_store 4 rfl rfl rfl rfl rfl rfl rfl rfl rfl ?_) | (refine step_store 5 rfl rfl rfl rfl rfl rfl rfl rfl rfl ?_) | (refine step_store 6 rfl rfl rfl rfl rfl rfl rfl rfl rfl ?_) | (refine step_store 7 rfl rfl rfl rfl rfl rfl rfl rfl rfl ?_)))
    cases h1 : (e == e')
    · repeat (first
          | refine exec_seq ?_
          | refine exec_region ?_
          | refine exec_block ?_
          | refine exec_skip ?_
          | refine exec_exit ?_
          | refine exec_ret ?_
          | refine exec_true rfl ?_
          | refine exec_false rfl ?_
          | refine ops_nil ?_
          | refine ops_pl rfl rfl rfl (.bld rfl rfl rfl rfl) rfl ?_
          | refine ops_pl rfl rfl rfl (.neSelf rfl rfl rfl rfl) rfl ?_
          | refine ops_pl rfl rfl rfl (.eqSelf rfl rfl rfl rfl) rfl ?_
          | refine ops_pl rfl rfl rfl (.wr64 rfl rfl (by omega) (by omega)) rfl ?_
          | refine ops_pl rfl rfl rfl (.wr8 rfl rfl (by omega) (by omega)) rfl ?_
          | refine ops_pl rfl rfl rfl (.p rfl rfl) rfl ?_
          | refine ops_pl rfl rfl rfl (.cv64 rfl (fun _ => rfl) (by omega) (by omega)) rfl ?_
          | refine ops_pl rfl rfl rfl (.cv8 rfl (fun _ => rfl) (by omega) (by omega)) rfl ?_
          | refine ops_pl rfl rfl rfl (.l rfl (fun _ _ => rfl)) rfl ?_
          | refine ops_pl rfl rfl rfl (.l rfl (look_own 0 rfl rfl rfl rfl)) rfl ?_
          | refine ops_pl rfl rfl rfl (.l rfl (look_own 1 rfl rfl rfl rfl)) rfl ?_
          | refine ops_pl rfl rfl rfl (.l rfl (look_own 2 rfl rfl rfl rfl)) rfl ?_
          | refine ops_pl rfl rfl rfl (.l rfl (look_own 3 rfl rfl rfl rfl)) rfl ?_
          | refine ops_pl rfl rfl rfl (.l rfl (look_own 4 rfl rfl rfl rfl)) rfl ?_
          | refine ops_pl rfl rfl rfl (.l rfl (look_own 5 rfl rfl rfl rfl)) rfl ?_
          | refine ops_pl rfl rfl rfl (.l rfl (look_own 6 rfl rfl rfl rfl)) rfl ?_
          | refine ops_pl rfl rfl rfl (.l rfl (look_own 7 rfl rfl rfl rfl)) rfl ?_
          | refine ops_pl rfl rfl rfl (.l rfl (look_agg 0 rfl rfl rfl rfl)) rfl ?_
          | refine ops_pl rfl rfl rfl (.l rfl (look_agg 1 rfl rfl rfl rfl)) rfl ?_
          | refine ops_pl rfl rfl rfl (.l rfl (look_agg 2 rfl rfl rfl rfl)) rfl ?_
          | refine ops_pl rfl rfl rfl (.l rfl (look_agg 3 rfl rfl rfl rfl)) rfl ?_
          | refine ops_pl rfl rfl rfl (.l rfl (look_agg 4 rfl rfl rfl rfl)) rfl ?_
          | refine ops_pl rfl rfl rfl (.l rfl (look_agg 5 rfl rfl rfl rfl)) rfl ?_
          | refine ops_pl rfl rfl rfl (.l rfl (look_agg 6 rfl rfl rfl rfl)) rfl ?_
          | refine ops_pl rfl rfl rfl (.l rfl (look_agg 7 rfl rfl rfl rfl)) rfl ?_
          | refine ops_pl rfl rfl rfl (.l rfl (look_str 0 rfl rfl rfl rfl rfl rfl rfl)) rfl ?_
          | refine ops_pl rfl rfl rfl (.l rfl (look_str 1 rfl rfl rfl rfl rfl rfl rfl)) rfl ?_
          | refine ops_pl rfl rfl rfl (.l rfl (look_str 2 rfl rfl rfl rfl rfl rfl rfl)) rfl ?_
          | refine ops_pl rfl rfl rfl (.l rfl (look_str 3 rfl rfl rfl rfl rfl rfl rfl)) rfl ?_
          | refine ops_skip rfl rfl rfl ?_
          | (refine ops_step rfl rfl rfl ?_; first | (refine step_box rfl rfl rfl (fun _ => ?_)) | (refine step_alloc rfl rfl rfl rfl (fun _ => ?_)) | (refine step_buildSlice rfl rfl rfl rfl rfl (fun _ => ?_)) | (refine step_store 0 rfl rfl rfl rfl rfl rfl rfl rfl rfl ?_) | (refine step_store 1 rfl rfl rfl rfl rfl rfl rfl rfl rfl ?_) | (refine step_store 2 rfl rfl rfl rfl rfl rfl rfl rfl rfl ?_) | (refine step_store 3 rfl rfl rfl rfl rfl rfl rfl rfl rfl ?_) | (refine step_store 4 rfl rfl rfl rfl rfl rfl rfl rfl rfl ?_) | (refine step_store 5 rfl rfl rfl rfl rfl rfl rfl rfl rfl ?_) | (refine step_store 6 rfl rfl rfl rfl rfl rfl rfl rfl rfl ?_) | (refine step_store 7 rfl rfl rfl rfl rfl rfl rfl rfl rfl ?_)))
      exact ⟨trivial, _, rfl, by simp [oneOf, hc]⟩
    · repeat (first
          | refine exec_seq ?_
          | refine exec_region ?_
          | refine exec_block ?_
          | refine exec_skip ?_
          | refine exec_exit ?_
          | refine exec_ret ?_
          | refine exec_true rfl ?_
          | refine exec_false rfl ?_
          | refine ops_nil ?_
          | refine ops_pl rfl rfl rfl (.bld rfl rfl rfl rfl) rfl ?_
          | refine ops_pl rfl rfl rfl (.neSelf rfl rfl rfl rfl) rfl ?_
          | refine ops_pl rfl rfl rfl (.eqSelf rfl rfl rfl rfl) rfl ?_
          | refine ops_pl rfl rfl rfl (.wr64 rfl rfl (by omega) (by omega)) rfl ?_
          | refine ops_pl rfl rfl rfl (.wr8 rfl rfl (by omega) (by omega)) rfl ?_
          | refine ops_pl rfl rfl rfl (.p rfl rfl) rfl ?_
          | refine ops_pl rfl rfl rfl (.cv64 rfl (fun _ => rfl) (by omega) (by omega)) rfl ?_
          | refine ops_pl rfl rfl rfl (.cv8 rfl (fun _ => rfl) (by omega) (by omega)) rfl ?_
          | refine ops_pl rfl rfl rfl (.l rfl (fun _ _ => rfl)) rfl ?_
          | refine ops_pl rfl rfl rfl (.l rfl (look_own 0 rfl rfl rfl rfl)) rfl ?_
          | refine ops_pl rfl rfl rfl (.l rfl (look_own 1 rfl rfl rfl rfl)) rfl ?_
          | refine ops_pl rfl rfl rfl (.l rfl (look_own 2 rfl rfl rfl rfl)) rfl ?_
          | refine ops_pl rfl rfl rfl (.l rfl (look_own 3 rfl rfl rfl rfl)) rfl ?_
          | refine ops_pl rfl rfl rfl (.l rfl (look_own 4 rfl rfl rfl rfl)) rfl ?_
          | refine ops_pl rfl rfl rfl (.l rfl (look_own 5 rfl rfl rfl rfl)) rfl ?_
          | refine ops_pl rfl rfl rfl (.l rfl (look_own 6 rfl rfl rfl rfl)) rfl ?_
          | refine ops_pl rfl rfl rfl (.l rfl (look_own 7 rfl rfl rfl rfl)) rfl ?_
          | refine ops_pl rfl rfl rfl (.l rfl (look_agg 0 rfl rfl rfl rfl)) rfl ?_
          | refine ops_pl rfl rfl rfl (.l rfl (look_agg 1 rfl rfl rfl rfl)) rfl ?_
          | refine ops_pl rfl rfl rfl (.l rfl (look_agg 2 rfl rfl rfl rfl)) rfl ?_
          | refine ops_pl rfl rfl rfl (.l rfl (look_agg 3 rfl rfl rfl rfl)) rfl ?_
          | refine ops_pl rfl rfl rfl (.l rfl (look_agg 4 rfl rfl rfl rfl)) rfl ?_
          | refine ops_pl rfl rfl rfl (.l rfl (look_agg 5 rfl rfl rfl rfl)) rfl ?_
          | refine ops_pl rfl rfl rfl (.l rfl (look_agg 6 rfl rfl rfl rfl)) rfl ?_
          | refine ops_pl rfl rfl rfl (.l rfl (look_agg 7 rfl rfl rfl rfl)) rfl ?_
          | refine ops_pl rfl rfl rfl (.l rfl (look_str 0 rfl rfl rfl rfl rfl rfl rfl)) rfl ?_
          | refine ops_pl rfl rfl rfl (.l rfl (look_str 1 rfl rfl rfl rfl rfl rfl rfl)) rfl ?_
          | refine ops_pl rfl rfl rfl (.l rfl (look_str 2 rfl rfl rfl rfl rfl rfl rfl)) rfl ?_
          | refine ops_pl rfl rfl rfl (.l rfl (look_str 3 rfl rfl rfl rfl rfl rfl rfl)) rfl ?_
          | refine ops_skip rfl rfl rfl ?_
          | (refine ops_step rfl rfl rfl ?_; first | (refine step_box rfl rfl rfl (fun _ => ?_)) | (refine step_alloc rfl rfl rfl rfl (fun _ => ?_)) | (refine step_buildSlice rfl rfl rfl rfl rfl (fun _ => ?_)) | (refine step_store 0 rfl rfl rfl rfl rfl rfl rfl rfl rfl ?_) | (refine step_store 1 rfl rfl rfl rfl rfl rfl rfl rfl rfl ?_) | (refine step_store 2 rfl rfl rfl rfl rfl rfl rfl rfl rfl ?_) | (refine step_store 3 rfl rfl rfl rfl rfl rfl rfl rfl rfl ?_) | (refine step_store 4 rfl rfl rfl rfl rfl rfl rfl rfl rfl ?_) | (refine step_store 5 rfl rfl rfl rfl rfl rfl rfl rfl rfl ?_) | (refine step_store 6 rfl rfl rfl rfl rfl rfl rfl rfl rfl ?_) | (refine step_store 7 rfl rfl rfl rfl rfl rfl rfl rfl rfl ?_)))
      exact ⟨trivial, _, rfl, by simp [oneOf, hc]⟩
  · repeat (first
        | refine exec_seq ?_
        | refine exec_region ?_
        | refine exec_block ?_
        | refine exec_skip ?_
        | refine exec_exit ?_
        | refine exec_ret ?_
        | refine exec_true rfl ?_
        | refine exec_false rfl ?_
        | refine ops_nil ?_
        | refine ops_pl rfl rfl rfl (.bld rfl rfl rfl rfl) rfl ?_
        | refine ops_pl rfl rfl rfl (.neSelf rfl rfl rfl rfl) rfl ?_
        | refine ops_pl rfl rfl rfl (.eqSelf rfl rfl rfl rfl) rfl ?_
        | refine ops_pl rfl rfl rfl (.wr64 rfl rfl (by omega) (by omega)) rfl ?_
        | refine ops_pl rfl rfl rfl (.wr8 rfl rfl (by omega) (by omega)) rfl ?_
        | refine ops_pl rfl rfl rfl (.p rfl rfl) rfl ?_
        | refine ops_pl rfl rfl rfl (.cv64 rfl (fun _ => rfl) (by omega) (by omega)) rfl ?_
        | refine ops_pl rfl rfl rfl (.cv8 rfl (fun _ => rfl) (by omega) (by omega)) rfl ?_
        | refine ops_pl rfl rfl rfl (.l rfl (fun _ _ => rfl)) rfl ?_
        | refine ops_pl rfl rfl rfl (.l rfl (look_own 0 rfl rfl rfl rfl)) rfl ?_
        | refine ops_pl rfl rfl rfl (.l rfl (look_own 1 rfl rfl rfl rfl)) rfl ?_
        | refine ops_pl rfl rfl rfl (.l rfl (look_own 2 rfl rfl rfl rfl)) rfl ?_
        | refine ops_pl rfl rfl rfl (.l rfl (look_own 3 rfl rfl rfl rfl)) rfl ?_
        | refine ops_pl rfl rfl rfl (.l rfl (look_own 4 rfl rfl rfl rfl)) rfl ?_
        | refine ops_pl rfl rfl rfl (.l rfl (look_own 5 rfl rfl rfl rfl)) rfl ?_
        | refine ops_pl rfl rfl rfl (.l rfl (look_own 6 rfl rfl rfl rfl)) rfl ?_
        | refine ops_pl rfl rfl rfl (.l rfl (look_own 7 rfl rfl rfl rfl)) rfl ?_
        | refine ops_pl rfl rfl rfl (.l rfl (look_agg 0 rfl rfl rfl rfl)) rfl ?_
        | refine ops_pl rfl rfl rfl (.l rfl (look_agg 1 rfl rfl rfl rfl)) rfl ?_
        | refine ops_pl rfl rfl rfl (.l rfl (look_agg 2 rfl rfl rfl rfl)) rfl ?_
        | refine ops_pl rfl rfl rfl (.l rfl (look_agg 3 rfl rfl rfl rfl)) rfl ?_
        | refine ops_pl rfl rfl rfl (.l rfl (look_agg 4 rfl rfl rfl rfl)) rfl ?_
        | refine ops_pl rfl rfl rfl (.l rfl (look_agg 5 rfl rfl rfl rfl)) rfl ?_
        | refine ops_pl rfl rfl rfl (.l rfl (look_agg 6 rfl rfl rfl rfl)) rfl ?_
        | refine ops_pl rfl rfl rfl (.l rfl (look_agg 7 rfl rfl rfl rfl)) rfl ?_
        | refine ops_pl rfl rfl rfl (.l rfl (look_str 0 rfl rfl rfl rfl rfl rfl rfl)) rfl ?_
        | refine ops_pl rfl rfl rfl (.l rfl (look_str 1 rfl rfl rfl rfl rfl rfl rfl)) rfl ?_
        | refine ops_pl rfl rfl rfl (.l rfl (look_str 2 rfl rfl rfl rfl rfl rfl rfl)) rfl ?_
        | refine ops_pl rfl rfl rfl (.l rfl (look_str 3 rfl rfl rfl rfl rfl rfl rfl)) rfl ?_
        | refine ops_skip rfl rfl rfl ?_
        | (refine ops_step rfl rfl rfl ?_; first | (refine step_box rfl rfl rfl (fun _ => ?_)) | (refine step_alloc rfl rfl rfl rfl (fun _ => ?_)) | (refine step_buildSlice rfl rfl rfl rfl rfl (fun _ => ?_)) | (refine step_store 0 rfl rfl rfl rfl rfl rfl rfl rfl rfl ?_) | (refine step_store 1 rfl rfl rfl rfl rfl rfl rfl rfl rfl ?_) | (refine step_store 2 rfl rfl rfl rfl rfl rfl rfl rfl rfl ?_) | (refine step_store 3 rfl rfl rfl rfl rfl rfl rfl rfl rfl ?_) | (refine step_store 4 rfl rfl rfl rfl rfl rfl rfl rfl rfl ?_) | (refine step_store 5 rfl rfl rfl rfl rfl rfl rfl rfl rfl ?_) | (refine step_store 6 rfl rfl rfl rfl rfl rfl rfl rfl rfl ?_) | (refine step_store 7 rfl rfl rfl rfl rfl rfl rfl rfl rfl ?_)))
    exact ⟨trivial, _, rfl, by simp [oneOf, hc]⟩

end Go.Proofs.Ytafbconajhpijaa

