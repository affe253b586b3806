/-
  'bonsailaw17.TraceTells' is true at every input: the walk.
-/
import Derived.Test.YtafbconajhpijaaWTrace2
namespace Go.Proofs.Ytafbconajhpijaa
open Go.Ev Go.Ev.Wk
set_option linter.unusedVariables false
set_option linter.unusedSimpArgs false
variable {O : Old}

theorem alike_symm (la lb : List (List UInt8)) (e k e' k' : Int) : alike lb la e' k' e k = alike la lb e k e' k' := by
  unfold alike
  rw [show decide (lb = la) = decide (la = lb) from by rw [decide_eq_decide]; exact ⟨Eq.symm, Eq.symm⟩, show (e' == e) = (e == e') from Bool.beq_comm .., show (k' == k) = (k == k') from Bool.beq_comm ..]

theorem agrees_symm (la lb : List (List UInt8)) (e k e' k' : Int) : agrees lb la e' k' e k = agrees la lb e k e' k' := by
  unfold agrees
  cases whole e <;> cases whole e' <;> simp [alike_symm, Bool.or_comm]

/-- cells of a result -/
def ResAt (O : Old) (cs : List Value) (i : Nat) : Prop :=
  ∃ (a : Option Addr) (n c : Nat) (e k s h d : Int) (l : List (List UInt8)), (cs.drop (i * 6)).take 6 = [.slice a n c, .int .i64 e, .int .i64 k, .int .i64 s, .int .i64 h, .int .i64 d] ∧ n ≤ 1073741824

set_option maxHeartbeats 8000000 in
set_option maxRecDepth 100000 in
theorem traceTells_walk {aa ab al : Option Addr} {na ca nb cb n cl : Nat} {la lb : List (List UInt8)} {l : List Int} (ha : ∀ H, Sl O H (.slice aa na ca) 1 na (la.map str)) (hb : ∀ H, Sl O H (.slice ab nb cb) 1 nb (lb.map str)) (hl : ∀ H, Sl O H (.slice al n cl) 1 n (l.map (.int .u8)))
    {ea ka sa ha' da eb kb sb hb' db cut other k j : Int} (hcut : 0 ≤ cut ∧ cut ≤ 255) (ho : 0 ≤ other ∧ other ≤ 255) (hk : 0 ≤ k ∧ k ≤ 255) (hj : 0 ≤ j ∧ j ≤ 255) :
    CallC TT O 3 [res aa na ca ea ka sa ha' da, res ab nb cb eb kb sb hb' db, .slice al n cl, .int .u8 cut, .int .u8 other, .int .u8 k, .int .u8 j] .empty fun v H' => v = .bool true ∧ Ext .empty H' := by
  have hln : l.length = n := by have := (hl .empty).1; simpa using this
  refine call_pure rfl rfl rfl rfl rfl ?_
  repeat (first
      | refine exec_seq ?_
      | refine exec_region ?_
      | refine exec_block ?_
      | refine exec_skip ?_
      | refine exec_exit ?_
      | refine exec_ret ?_
      | refine exec_true rfl ?_
      | refine exec_false rfl ?_
      | refine ops_nil ?_
      | refine ops_pl rfl rfl rfl (.bld rfl rfl rfl rfl) rfl ?_
      | refine ops_pl rfl rfl rfl (.neSelf rfl rfl rfl rfl) rfl ?_
      | refine ops_pl rfl rfl rfl (.eqSelf rfl rfl rfl rfl) rfl ?_
      | refine ops_pl rfl rfl rfl (.wr64 rfl rfl (by omega) (by omega)) rfl ?_
      | refine ops_pl rfl rfl rfl (.wr8 rfl rfl (by omega) (by omega)) rfl ?_
      | refine ops_pl rfl rfl rfl (.p rfl rfl) rfl ?_
      | refine ops_pl rfl rfl rfl (.cv64 rfl (fun _ => rfl) (by omega) (by omega)) rfl ?_
      | refine ops_pl rfl rfl rfl (.cv8 rfl (fun _ => rfl) (by omega) (by omega)) rfl ?_
      | refine ops_pl rfl rfl rfl (.l rfl (fun _ _ => rfl)) rfl ?_
      | refine ops_pl rfl rfl rfl (.l rfl (look_own 0 rfl rfl rfl rfl)) rfl ?_
      | refine ops_pl rfl rfl rfl (.l rfl (look_own 1 rfl rfl rfl rfl)) rfl ?_
      | refine ops_pl rfl rfl rfl (.l rfl (look_own 2 rfl rfl rfl rfl)) rfl ?_
      | refine ops_pl rfl rfl rfl (.l rfl (look_own 3 rfl rfl rfl rfl)) rfl ?_
      | refine ops_pl rfl rfl rfl (.l rfl (look_own 4 rfl rfl rfl rfl)) rfl ?_
      | refine ops_pl rfl rfl rfl (.l rfl (look_own 5 rfl rfl rfl rfl)) rfl ?_
      | refine ops_pl rfl rfl rfl (.l rfl (look_own 6 rfl rfl rfl rfl)) rfl ?_
      | refine ops_pl rfl rfl rfl (.l rfl (look_own 7 rfl rfl rfl rfl)) rfl ?_
      | refine ops_pl rfl rfl rfl (.l rfl (look_agg 0 rfl rfl rfl rfl)) rfl ?_
      | refine ops_pl rfl rfl rfl (.l rfl (look_agg 1 rfl rfl rfl rfl)) rfl ?_
      | refine ops_pl rfl rfl rfl (.l rfl (look_agg 2 rfl rfl rfl rfl)) rfl ?_
      | refine ops_pl rfl rfl rfl (.l rfl (look_agg 3 rfl rfl rfl rfl)) rfl ?_
      | refine ops_pl rfl rfl rfl (.l rfl (look_agg 4 rfl rfl rfl rfl)) rfl ?_
      | refine ops_pl rfl rfl rfl (.l rfl (look_agg 5 rfl rfl rfl rfl)) rfl ?_
      | refine ops_pl rfl rfl rfl (.l rfl (look_agg 6 rfl rfl rfl rfl)) rfl ?_
      | refine ops_pl rfl rfl rfl (.l rfl (look_agg 7 rfl rfl rfl rfl)) rfl ?_
      | refine ops_pl rfl rfl rfl (.l rfl (look_str 0 rfl rfl rfl rfl rfl rfl rfl)) rfl ?_
      | refine ops_pl rfl rfl rfl (.l rfl (look_str 1 rfl rfl rfl rfl rfl rfl rfl)) rfl ?_
      | refine ops_pl rfl rfl rfl (.l rfl (look_str 2 rfl rfl rfl rfl rfl rfl rfl)) rfl ?_
      | refine ops_pl rfl rfl rfl (.l rfl (look_str 3 rfl rfl rfl rfl rfl rfl rfl)) rfl ?_
      | refine ops_skip rfl rfl rfl ?_
      | (refine ops_step rfl rfl rfl ?_; first | (refine step_box rfl rfl rfl (fun _ => ?_)) | (refine step_alloc rfl rfl rfl rfl (fun _ => ?_)) | (refine step_buildSlice rfl rfl rfl rfl rfl (fun _ => ?_)) | (refine step_store 0 rfl rfl rfl rfl rfl rfl rfl rfl rfl ?_) | (refine step_store 1 rfl rfl rfl rfl rfl rfl rfl rfl rfl ?_) | (refine step_store 2 rfl rfl rfl rfl rfl rfl rfl rfl rfl ?_) | (refine step_store 3 rfl rfl rfl rfl rfl rfl rfl rfl rfl ?_) | (refine step_store 4 rfl rfl rfl rfl rfl rfl rfl rfl rfl ?_) | (refine step_store 5 rfl rfl rfl rfl rfl rfl rfl rfl rfl ?_) | (refine step_store 6 rfl rfl rfl rfl rfl rfl rfl rfl rfl ?_) | (refine step_store 7 rfl rfl rfl rfl rfl rfl rfl rfl rfl ?_)))
  refine ops_step rfl rfl rfl (step_call_pure rfl rfl rfl (fun H hs => call_known rfl) ?_)
  repeat (first
      | refine exec_seq ?_
      | refine exec_region ?_
      | refine exec_block ?_
      | refine exec_skip ?_
      | refine exec_exit ?_
      | refine exec_ret ?_
      | refine exec_true rfl ?_
      | refine exec_false rfl ?_
      | refine ops_nil ?_
      | refine ops_pl rfl rfl rfl (.bld rfl rfl rfl rfl) rfl ?_
      | refine ops_pl rfl rfl rfl (.neSelf rfl rfl rfl rfl) rfl ?_
      | refine ops_pl rfl rfl rfl (.eqSelf rfl rfl rfl rfl) rfl ?_
      | refine ops_pl rfl rfl rfl (.wr64 rfl rfl (by omega) (by omega)) rfl ?_
      | refine ops_pl rfl rfl rfl (.wr8 rfl rfl (by omega) (by omega)) rfl ?_
      | refine ops_pl rfl rfl rfl (.p rfl rfl) rfl ?_
      | refine ops_pl rfl rfl rfl (.cv64 rfl (fun _ => rfl) (by omega) (by omega)) rfl ?_
      | refine ops_pl rfl rfl rfl (.cv8 rfl (fun _ => rfl) (by omega) (by omega)) rfl ?_
      | refine ops_pl rfl rfl rfl (.l rfl (fun _ _ => rfl)) rfl ?_
      | refine ops_pl rfl rfl rfl (.l rfl (look_own 0 rfl rfl rfl rfl)) rfl ?_
      | refine ops_pl rfl rfl rfl (.l rfl (look_own 1 rfl rfl rfl rfl)) rfl ?_
      | refine ops_pl rfl rfl rfl (.l rfl (look_own 2 rfl rfl rfl rfl)) rfl ?_
      | refine ops_pl rfl rfl rfl (.l rfl (look_own 3 rfl rfl rfl rfl)) rfl ?_
      | refine ops_pl rfl rfl rfl (.l rfl (look_own 4 rfl rfl rfl rfl)) rfl ?_
      | refine ops_pl rfl rfl rfl (.l rfl (look_own 5 rfl rfl rfl rfl)) rfl ?_
      | refine ops_pl rfl rfl rfl (.l rfl (look_own 6 rfl rfl rfl rfl)) rfl ?_
      | refine ops_pl rfl rfl rfl (.l rfl (look_own 7 rfl rfl rfl rfl)) rfl ?_
      | refine ops_pl rfl rfl rfl (.l rfl (look_agg 0 rfl rfl rfl rfl)) rfl ?_
      | refine ops_pl rfl rfl rfl (.l rfl (look_agg 1 rfl rfl rfl rfl)) rfl ?_
      | refine ops_pl rfl rfl rfl (.l rfl (look_agg 2 rfl rfl rfl rfl)) rfl ?_
      | refine ops_pl rfl rfl rfl (.l rfl (look_agg 3 rfl rfl rfl rfl)) rfl ?_
      | refine ops_pl rfl rfl rfl (.l rfl (look_agg 4 rfl rfl rfl rfl)) rfl ?_
      | refine ops_pl rfl rfl rfl (.l rfl (look_agg 5 rfl rfl rfl rfl)) rfl ?_
      | refine ops_pl rfl rfl rfl (.l rfl (look_agg 6 rfl rfl rfl rfl)) rfl ?_
      | refine ops_pl rfl rfl rfl (.l rfl (look_agg 7 rfl rfl rfl rfl)) rfl ?_
      | refine ops_pl rfl rfl rfl (.l rfl (look_str 0 rfl rfl rfl rfl rfl rfl rfl)) rfl ?_
      | refine ops_pl rfl rfl rfl (.l rfl (look_str 1 rfl rfl rfl rfl rfl rfl rfl)) rfl ?_
      | refine ops_pl rfl rfl rfl (.l rfl (look_str 2 rfl rfl rfl rfl rfl rfl rfl)) rfl ?_
      | refine ops_pl rfl rfl rfl (.l rfl (look_str 3 rfl rfl rfl rfl rfl rfl rfl)) rfl ?_
      | refine ops_skip rfl rfl rfl ?_
      | (refine ops_step rfl rfl rfl ?_; first | (refine step_box rfl rfl rfl (fun _ => ?_)) | (refine step_alloc rfl rfl rfl rfl (fun _ => ?_)) | (refine step_buildSlice rfl rfl rfl rfl rfl (fun _ => ?_)) | (refine step_store 0 rfl rfl rfl rfl rfl rfl rfl rfl rfl ?_) | (refine step_store 1 rfl rfl rfl rfl rfl rfl rfl rfl rfl ?_) | (refine step_store 2 rfl rfl rfl rfl rfl rfl rfl rfl rfl ?_) | (refine step_store 3 rfl rfl rfl rfl rfl rfl rfl rfl rfl ?_) | (refine step_store 4 rfl rfl rfl rfl rfl rfl rfl rfl rfl ?_) | (refine step_store 5 rfl rfl rfl rfl rfl rfl rfl rfl rfl ?_) | (refine step_store 6 rfl rfl rfl rfl rfl rfl rfl rfl rfl ?_) | (refine step_store 7 rfl rfl rfl rfl rfl rfl rfl rfl rfl ?_)))
  cases hA : decide ((na : Int) > 20)
  rotate_left
  · repeat (first
        | refine exec_seq ?_
        | refine exec_region ?_
        | refine exec_block ?_
        | refine exec_skip ?_
        | refine exec_exit ?_
        | refine exec_ret ?_
        | refine exec_true rfl ?_
        | refine exec_false rfl ?_
        | refine ops_nil ?_
        | refine ops_pl rfl rfl rfl (.bld rfl rfl rfl rfl) rfl ?_
        | refine ops_pl rfl rfl rfl (.neSelf rfl rfl rfl rfl) rfl ?_
        | refine ops_pl rfl rfl rfl (.eqSelf rfl rfl rfl rfl) rfl ?_
        | refine ops_pl rfl rfl rfl (.wr64 rfl rfl (by omega) (by omega)) rfl ?_
        | refine ops_pl rfl rfl rfl (.wr8 rfl rfl (by omega) (by omega)) rfl ?_
        | refine ops_pl rfl rfl rfl (.p rfl rfl) rfl ?_
        | refine ops_pl rfl rfl rfl (.cv64 rfl (fun _ => rfl) (by omega) (by omega)) rfl ?_
        | refine ops_pl rfl rfl rfl (.cv8 rfl (fun _ => rfl) (by omega) (by omega)) rfl ?_
        | refine ops_pl rfl rfl rfl (.l rfl (fun _ _ => rfl)) rfl ?_
        | refine ops_pl rfl rfl rfl (.l rfl (look_own 0 rfl rfl rfl rfl)) rfl ?_
        | refine ops_pl rfl rfl rfl (.l rfl (look_own 1 rfl rfl rfl rfl)) rfl ?_
        | refine ops_pl rfl rfl rfl (.l rfl (look_own 2 rfl rfl rfl rfl)) rfl ?_
        | refine ops_pl rfl rfl rfl (.l rfl (look_own 3 rfl rfl rfl rfl)) rfl ?_
        | refine ops_pl rfl rfl rfl (.l rfl (look_own 4 rfl rfl rfl rfl)) rfl ?_
        | refine ops_pl rfl rfl rfl (.l rfl (look_own 5 rfl rfl rfl rfl)) rfl ?_
        | refine ops_pl rfl rfl rfl (.l rfl (look_own 6 rfl rfl rfl rfl)) rfl ?_
        | refine ops_pl rfl rfl rfl (.l rfl (look_own 7 rfl rfl rfl rfl)) rfl ?_
        | refine ops_pl rfl rfl rfl (.l rfl (look_agg 0 rfl rfl rfl rfl)) rfl ?_
        | refine ops_pl rfl rfl rfl (.l rfl (look_agg 1 rfl rfl rfl rfl)) rfl ?_
        | refine ops_pl rfl rfl rfl (.l rfl (look_agg 2 rfl rfl rfl rfl)) rfl ?_
        | refine ops_pl rfl rfl rfl (.l rfl (look_agg 3 rfl rfl rfl rfl)) rfl ?_
        | refine ops_pl rfl rfl rfl (.l rfl (look_agg 4 rfl rfl rfl rfl)) rfl ?_
        | refine ops_pl rfl rfl rfl (.l rfl (look_agg 5 rfl rfl rfl rfl)) rfl ?_
        | refine ops_pl rfl rfl rfl (.l rfl (look_agg 6 rfl rfl rfl rfl)) rfl ?_
        | refine ops_pl rfl rfl rfl (.l rfl (look_agg 7 rfl rfl rfl rfl)) rfl ?_
        | refine ops_pl rfl rfl rfl (.l rfl (look_str 0 rfl rfl rfl rfl rfl rfl rfl)) rfl ?_
        | refine ops_pl rfl rfl rfl (.l rfl (look_str 1 rfl rfl rfl rfl rfl rfl rfl)) rfl ?_
        | refine ops_pl rfl rfl rfl (.l rfl (look_str 2 rfl rfl rfl rfl rfl rfl rfl)) rfl ?_
        | refine ops_pl rfl rfl rfl (.l rfl (look_str 3 rfl rfl rfl rfl rfl rfl rfl)) rfl ?_
        | refine ops_skip rfl rfl rfl ?_
        | (refine ops_step rfl rfl rfl ?_; first | (refine step_box rfl rfl rfl (fun _ => ?_)) | (refine step_alloc rfl rfl rfl rfl (fun _ => ?_)) | (refine step_buildSlice rfl rfl rfl rfl rfl (fun _ => ?_)) | (refine step_store 0 rfl rfl rfl rfl rfl rfl rfl rfl rfl ?_) | (refine step_store 1 rfl rfl rfl rfl rfl rfl rfl rfl rfl ?_) | (refine step_store 2 rfl rfl rfl rfl rfl rfl rfl rfl rfl ?_) | (refine step_store 3 rfl rfl rfl rfl rfl rfl rfl rfl rfl ?_) | (refine step_store 4 rfl rfl rfl rfl rfl rfl rfl rfl rfl ?_) | (refine step_store 5 rfl rfl rfl rfl rfl rfl rfl rfl rfl ?_) | (refine step_store 6 rfl rfl rfl rfl rfl rfl rfl rfl rfl ?_) | (refine step_store 7 rfl rfl rfl rfl rfl rfl rfl rfl rfl ?_)))
    exact ⟨trivial, _, rfl, rfl⟩
  repeat (first
      | refine exec_seq ?_
      | refine exec_region ?_
      | refine exec_block ?_
      | refine exec_skip ?_
      | refine exec_exit ?_
      | refine exec_ret ?_
      | refine exec_true rfl ?_
      | refine exec_false rfl ?_
      | refine ops_nil ?_
      | refine ops_pl rfl rfl rfl (.bld rfl rfl rfl rfl) rfl ?_
      | refine ops_pl rfl rfl rfl (.neSelf rfl rfl rfl rfl) rfl ?_
      | refine ops_pl rfl rfl rfl (.eqSelf rfl rfl rfl rfl) rfl ?_
      | refine ops_pl rfl rfl rfl (.wr64 rfl rfl (by omega) (by omega)) rfl ?_
      | refine ops_pl rfl rfl rfl (.wr8 rfl rfl (by omega) (by omega)) rfl ?_
      | refine ops_pl rfl rfl rfl (.p rfl rfl) rfl ?_
      | refine ops_pl rfl rfl rfl (.cv64 rfl (fun _ => rfl) (by omega) (by omega)) rfl ?_
      | refine ops_pl rfl rfl rfl (.cv8 rfl (fun _ => rfl) (by omega) (by omega)) rfl ?_
      | refine ops_pl rfl rfl rfl (.l rfl (fun _ _ => rfl)) rfl ?_
      | refine ops_pl rfl rfl rfl (.l rfl (look_own 0 rfl rfl rfl rfl)) rfl ?_
      | refine ops_pl rfl rfl rfl (.l rfl (look_own 1 rfl rfl rfl rfl)) rfl ?_
      | refine ops_pl rfl rfl rfl (.l rfl (look_own 2 rfl rfl rfl rfl)) rfl ?_
      | refine ops_pl rfl rfl rfl (.l rfl (look_own 3 rfl rfl rfl rfl)) rfl ?_
      | refine ops_pl rfl rfl rfl (.l rfl (look_own 4 rfl rfl rfl rfl)) rfl ?_
      | refine ops_pl rfl rfl rfl (.l rfl (look_own 5 rfl rfl rfl rfl)) rfl ?_
      | refine ops_pl rfl rfl rfl (.l rfl (look_own 6 rfl rfl rfl rfl)) rfl ?_
      | refine ops_pl rfl rfl rfl (.l rfl (look_own 7 rfl rfl rfl rfl)) rfl ?_
      | refine ops_pl rfl rfl rfl (.l rfl (look_agg 0 rfl rfl rfl rfl)) rfl ?_
      | refine ops_pl rfl rfl rfl (.l rfl (look_agg 1 rfl rfl rfl rfl)) rfl ?_
      | refine ops_pl rfl rfl rfl (.l rfl (look_agg 2 rfl rfl rfl rfl)) rfl ?_
      | refine ops_pl rfl rfl rfl (.l rfl (look_agg 3 rfl rfl rfl rfl)) rfl ?_
      | refine ops_pl rfl rfl rfl (.l rfl (look_agg 4 rfl rfl rfl rfl)) rfl ?_
      | refine ops_pl rfl rfl rfl (.l rfl (look_agg 5 rfl rfl rfl rfl)) rfl ?_
      | refine ops_pl rfl rfl rfl (.l rfl (look_agg 6 rfl rfl rfl rfl)) rfl ?_
      | refine ops_pl rfl rfl rfl (.l rfl (look_agg 7 rfl rfl rfl rfl)) rfl ?_
      | refine ops_pl rfl rfl rfl (.l rfl (look_str 0 rfl rfl rfl rfl rfl rfl rfl)) rfl ?_
      | refine ops_pl rfl rfl rfl (.l rfl (look_str 1 rfl rfl rfl rfl rfl rfl rfl)) rfl ?_
      | refine ops_pl rfl rfl rfl (.l rfl (look_str 2 rfl rfl rfl rfl rfl rfl rfl)) rfl ?_
      | refine ops_pl rfl rfl rfl (.l rfl (look_str 3 rfl rfl rfl rfl rfl rfl rfl)) rfl ?_
      | refine ops_skip rfl rfl rfl ?_
      | (refine ops_step rfl rfl rfl ?_; first | (refine step_box rfl rfl rfl (fun _ => ?_)) | (refine step_alloc rfl rfl rfl rfl (fun _ => ?_)) | (refine step_buildSlice rfl rfl rfl rfl rfl (fun _ => ?_)) | (refine step_store 0 rfl rfl rfl rfl rfl rfl rfl rfl rfl ?_) | (refine step_store 1 rfl rfl rfl rfl rfl rfl rfl rfl rfl ?_) | (refine step_store 2 rfl rfl rfl rfl rfl rfl rfl rfl rfl ?_) | (refine step_store 3 rfl rfl rfl rfl rfl rfl rfl rfl rfl ?_) | (refine step_store 4 rfl rfl rfl rfl rfl rfl rfl rfl rfl ?_) | (refine step_store 5 rfl rfl rfl rfl rfl rfl rfl rfl rfl ?_) | (refine step_store 6 rfl rfl rfl rfl rfl rfl rfl rfl rfl ?_) | (refine step_store 7 rfl rfl rfl rfl rfl rfl rfl rfl rfl ?_)))
  cases hB : decide ((nb : Int) > 20)
  rotate_left
  · repeat (first
        | refine exec_seq ?_
        | refine exec_region ?_
        | refine exec_block ?_
        | refine exec_skip ?_
        | refine exec_exit ?_
        | refine exec_ret ?_
        | refine exec_true rfl ?_
        | refine exec_false rfl ?_
        | refine ops_nil ?_
        | refine ops_pl rfl rfl rfl (.bld rfl rfl rfl rfl) rfl ?_
        | refine ops_pl rfl rfl rfl (.neSelf rfl rfl rfl rfl) rfl ?_
        | refine ops_pl rfl rfl rfl (.eqSelf rfl rfl rfl rfl) rfl ?_
        | refine ops_pl rfl rfl rfl (.wr64 rfl rfl (by omega) (by omega)) rfl ?_
        | refine ops_pl rfl rfl rfl (.wr8 rfl rfl (by omega) (by omega)) rfl ?_
        | refine ops_pl rfl rfl rfl (.p rfl rfl) rfl ?_
        | refine ops_pl rfl rfl rfl (.cv64 rfl (fun _ => rfl) (by omega) (by omega)) rfl ?_
        | refine ops_pl rfl rfl rfl (.cv8 rfl (fun _ => rfl) (by omega) (by omega)) rfl ?_
        | refine ops_pl rfl rfl rfl (.l rfl (fun _ _ => rfl)) rfl ?_
        | refine ops_pl rfl rfl rfl (.l rfl (look_own 0 rfl rfl rfl rfl)) rfl ?_
        | refine ops_pl rfl rfl rfl (.l rfl (look_own 1 rfl rfl rfl rfl)) rfl ?_
        | refine ops_pl rfl rfl rfl (.l rfl (look_own 2 rfl rfl rfl rfl)) rfl ?_
        | refine ops_pl rfl rfl rfl (.l rfl (look_own 3 rfl rfl rfl rfl)) rfl ?_
        | refine ops_pl rfl rfl rfl (.l rfl (look_own 4 rfl rfl rfl rfl)) rfl ?_
        | refine ops_pl rfl rfl rfl (.l rfl (look_own 5 rfl rfl rfl rfl)) rfl ?_
        | refine ops_pl rfl rfl rfl (.l rfl (look_own 6 rfl rfl rfl rfl)) rfl ?_
        | refine ops_pl rfl rfl rfl (.l rfl (look_own 7 rfl rfl rfl rfl)) rfl ?_
        | refine ops_pl rfl rfl rfl (.l rfl (look_agg 0 rfl rfl rfl rfl)) rfl ?_
        | refine ops_pl rfl rfl rfl (.l rfl (look_agg 1 rfl rfl rfl rfl)) rfl ?_
        | refine ops_pl rfl rfl rfl (.l rfl (look_agg 2 rfl rfl rfl rfl)) rfl ?_
        | refine ops_pl rfl rfl rfl (.l rfl (look_agg 3 rfl rfl rfl rfl)) rfl ?_
        | refine ops_pl rfl rfl rfl (.l rfl (look_agg 4 rfl rfl rfl rfl)) rfl ?_
        | refine ops_pl rfl rfl rfl (.l rfl (look_agg 5 rfl rfl rfl rfl)) rfl ?_
        | refine ops_pl rfl rfl rfl (.l rfl (look_agg 6 rfl rfl rfl rfl)) rfl ?_
        | refine ops_pl rfl rfl rfl (.l rfl (look_agg 7 rfl rfl rfl rfl)) rfl ?_
        | refine ops_pl rfl rfl rfl (.l rfl (look_str 0 rfl rfl rfl rfl rfl rfl rfl)) rfl ?_
        | refine ops_pl rfl rfl rfl (.l rfl (look_str 1 rfl rfl rfl rfl rfl rfl rfl)) rfl ?_
        | refine ops_pl rfl rfl rfl (.l rfl (look_str 2 rfl rfl rfl rfl rfl rfl rfl)) rfl ?_
        | refine ops_pl rfl rfl rfl (.l rfl (look_str 3 rfl rfl rfl rfl rfl rfl rfl)) rfl ?_
        | refine ops_skip rfl rfl rfl ?_
        | (refine ops_step rfl rfl rfl ?_; first | (refine step_box rfl rfl rfl (fun _ => ?_)) | (refine step_alloc rfl rfl rfl rfl (fun _ => ?_)) | (refine step_buildSlice rfl rfl rfl rfl rfl (fun _ => ?_)) | (refine step_store 0 rfl rfl rfl rfl rfl rfl rfl rfl rfl ?_) | (refine step_store 1 rfl rfl rfl rfl rfl rfl rfl rfl rfl ?_) | (refine step_store 2 rfl rfl rfl rfl rfl rfl rfl rfl rfl ?_) | (refine step_store 3 rfl rfl rfl rfl rfl rfl rfl rfl rfl ?_) | (refine step_store 4 rfl rfl rfl rfl rfl rfl rfl rfl rfl ?_) | (refine step_store 5 rfl rfl rfl rfl rfl rfl rfl rfl rfl ?_) | (refine step_store 6 rfl rfl rfl rfl rfl rfl rfl rfl rfl ?_) | (refine step_store 7 rfl rfl rfl rfl rfl rfl rfl rfl rfl ?_)))
    exact ⟨trivial, _, rfl, rfl⟩
  repeat (first
      | refine exec_seq ?_
      | refine exec_region ?_
      | refine exec_block ?_
      | refine exec_skip ?_
      | refine exec_exit ?_
      | refine exec_ret ?_
      | refine exec_true rfl ?_
      | refine exec_false rfl ?_
      | refine ops_nil ?_
      | refine ops_pl rfl rfl rfl (.bld rfl rfl rfl rfl) rfl ?_
      | refine ops_pl rfl rfl rfl (.neSelf rfl rfl rfl rfl) rfl ?_
      | refine ops_pl rfl rfl rfl (.eqSelf rfl rfl rfl rfl) rfl ?_
      | refine ops_pl rfl rfl rfl (.wr64 rfl rfl (by omega) (by omega)) rfl ?_
      | refine ops_pl rfl rfl rfl (.wr8 rfl rfl (by omega) (by omega)) rfl ?_
      | refine ops_pl rfl rfl rfl (.p rfl rfl) rfl ?_
      | refine ops_pl rfl rfl rfl (.cv64 rfl (fun _ => rfl) (by omega) (by omega)) rfl ?_
      | refine ops_pl rfl rfl rfl (.cv8 rfl (fun _ => rfl) (by omega) (by omega)) rfl ?_
      | refine ops_pl rfl rfl rfl (.l rfl (fun _ _ => rfl)) rfl ?_
      | refine ops_pl rfl rfl rfl (.l rfl (look_own 0 rfl rfl rfl rfl)) rfl ?_
      | refine ops_pl rfl rfl rfl (.l rfl (look_own 1 rfl rfl rfl rfl)) rfl ?_
      | refine ops_pl rfl rfl rfl (.l rfl (look_own 2 rfl rfl rfl rfl)) rfl ?_
      | refine ops_pl rfl rfl rfl (.l rfl (look_own 3 rfl rfl rfl rfl)) rfl ?_
      | refine ops_pl rfl rfl rfl (.l rfl (look_own 4 rfl rfl rfl rfl)) rfl ?_
      | refine ops_pl rfl rfl rfl (.l rfl (look_own 5 rfl rfl rfl rfl)) rfl ?_
      | refine ops_pl rfl rfl rfl (.l rfl (look_own 6 rfl rfl rfl rfl)) rfl ?_
      | refine ops_pl rfl rfl rfl (.l rfl (look_own 7 rfl rfl rfl rfl)) rfl ?_
      | refine ops_pl rfl rfl rfl (.l rfl (look_agg 0 rfl rfl rfl rfl)) rfl ?_
      | refine ops_pl rfl rfl rfl (.l rfl (look_agg 1 rfl rfl rfl rfl)) rfl ?_
      | refine ops_pl rfl rfl rfl (.l rfl (look_agg 2 rfl rfl rfl rfl)) rfl ?_
      | refine ops_pl rfl rfl rfl (.l rfl (look_agg 3 rfl rfl rfl rfl)) rfl ?_
      | refine ops_pl rfl rfl rfl (.l rfl (look_agg 4 rfl rfl rfl rfl)) rfl ?_
      | refine ops_pl rfl rfl rfl (.l rfl (look_agg 5 rfl rfl rfl rfl)) rfl ?_
      | refine ops_pl rfl rfl rfl (.l rfl (look_agg 6 rfl rfl rfl rfl)) rfl ?_
      | refine ops_pl rfl rfl rfl (.l rfl (look_agg 7 rfl rfl rfl rfl)) rfl ?_
      | refine ops_pl rfl rfl rfl (.l rfl (look_str 0 rfl rfl rfl rfl rfl rfl rfl)) rfl ?_
      | refine ops_pl rfl rfl rfl (.l rfl (look_str 1 rfl rfl rfl rfl rfl rfl rfl)) rfl ?_
      | refine ops_pl rfl rfl rfl (.l rfl (look_str 2 rfl rfl rfl rfl rfl rfl rfl)) rfl ?_
      | refine ops_pl rfl rfl rfl (.l rfl (look_str 3 rfl rfl rfl rfl rfl rfl rfl)) rfl ?_
      | refine ops_skip rfl rfl rfl ?_
      | (refine ops_step rfl rfl rfl ?_; first | (refine step_box rfl rfl rfl (fun _ => ?_)) | (refine step_alloc rfl rfl rfl rfl (fun _ => ?_)) | (refine step_buildSlice rfl rfl rfl rfl rfl (fun _ => ?_)) | (refine step_store 0 rfl rfl rfl rfl rfl rfl rfl rfl rfl ?_) | (refine step_store 1 rfl rfl rfl rfl rfl rfl rfl rfl rfl ?_) | (refine step_store 2 rfl rfl rfl rfl rfl rfl rfl rfl rfl ?_) | (refine step_store 3 rfl rfl rfl rfl rfl rfl rfl rfl rfl ?_) | (refine step_store 4 rfl rfl rfl rfl rfl rfl rfl rfl rfl ?_) | (refine step_store 5 rfl rfl rfl rfl rfl rfl rfl rfl rfl ?_) | (refine step_store 6 rfl rfl rfl rfl rfl rfl rfl rfl rfl ?_) | (refine step_store 7 rfl rfl rfl rfl rfl rfl rfl rfl rfl ?_)))
  cases hN : decide ((n : Int) > 20)
  rotate_left
  · repeat (first
        | refine exec_seq ?_
        | refine exec_region ?_
        | refine exec_block ?_
        | refine exec_skip ?_
        | refine exec_exit ?_
        | refine exec_ret ?_
        | refine exec_true rfl ?_
        | refine exec_false rfl ?_
        | refine ops_nil ?_
        | refine ops_pl rfl rfl rfl (.bld rfl rfl rfl rfl) rfl ?_
        | refine ops_pl rfl rfl rfl (.neSelf rfl rfl rfl rfl) rfl ?_
        | refine ops_pl rfl rfl rfl (.eqSelf rfl rfl rfl rfl) rfl ?_
        | refine ops_pl rfl rfl rfl (.wr64 rfl rfl (by omega) (by omega)) rfl ?_
        | refine ops_pl rfl rfl rfl (.wr8 rfl rfl (by omega) (by omega)) rfl ?_
        | refine ops_pl rfl rfl rfl (.p rfl rfl) rfl ?_
        | refine ops_pl rfl rfl rfl (.cv64 rfl (fun _ => rfl) (by omega) (by omega)) rfl ?_
        | refine ops_pl rfl rfl rfl (.cv8 rfl (fun _ => rfl) (by omega) (by omega)) rfl ?_
        | refine ops_pl rfl rfl rfl (.l rfl (fun _ _ => rfl)) rfl ?_
        | refine ops_pl rfl rfl rfl (.l rfl (look_own 0 rfl rfl rfl rfl)) rfl ?_
        | refine ops_pl rfl rfl rfl (.l rfl (look_own 1 rfl rfl rfl rfl)) rfl ?_
        | refine ops_pl rfl rfl rfl (.l rfl (look_own 2 rfl rfl rfl rfl)) rfl ?_
        | refine ops_pl rfl rfl rfl (.l rfl (look_own 3 rfl rfl rfl rfl)) rfl ?_
        | refine ops_pl rfl rfl rfl (.l rfl (look_own 4 rfl rfl rfl rfl)) rfl ?_
        | refine ops_pl rfl rfl rfl (.l rfl (look_own 5 rfl rfl rfl rfl)) rfl ?_
        | refine ops_pl rfl rfl rfl (.l rfl (look_own 6 rfl rfl rfl rfl)) rfl ?_
        | refine ops_pl rfl rfl rfl (.l rfl (look_own 7 rfl rfl rfl rfl)) rfl ?_
        | refine ops_pl rfl rfl rfl (.l rfl (look_agg 0 rfl rfl rfl rfl)) rfl ?_
        | refine ops_pl rfl rfl rfl (.l rfl (look_agg 1 rfl rfl rfl rfl)) rfl ?_
        | refine ops_pl rfl rfl rfl (.l rfl (look_agg 2 rfl rfl rfl rfl)) rfl ?_
        | refine ops_pl rfl rfl rfl (.l rfl (look_agg 3 rfl rfl rfl rfl)) rfl ?_
        | refine ops_pl rfl rfl rfl (.l rfl (look_agg 4 rfl rfl rfl rfl)) rfl ?_
        | refine ops_pl rfl rfl rfl (.l rfl (look_agg 5 rfl rfl rfl rfl)) rfl ?_
        | refine ops_pl rfl rfl rfl (.l rfl (look_agg 6 rfl rfl rfl rfl)) rfl ?_
        | refine ops_pl rfl rfl rfl (.l rfl (look_agg 7 rfl rfl rfl rfl)) rfl ?_
        | refine ops_pl rfl rfl rfl (.l rfl (look_str 0 rfl rfl rfl rfl rfl rfl rfl)) rfl ?_
        | refine ops_pl rfl rfl rfl (.l rfl (look_str 1 rfl rfl rfl rfl rfl rfl rfl)) rfl ?_
        | refine ops_pl rfl rfl rfl (.l rfl (look_str 2 rfl rfl rfl rfl rfl rfl rfl)) rfl ?_
        | refine ops_pl rfl rfl rfl (.l rfl (look_str 3 rfl rfl rfl rfl rfl rfl rfl)) rfl ?_
        | refine ops_skip rfl rfl rfl ?_
        | (refine ops_step rfl rfl rfl ?_; first | (refine step_box rfl rfl rfl (fun _ => ?_)) | (refine step_alloc rfl rfl rfl rfl (fun _ => ?_)) | (refine step_buildSlice rfl rfl rfl rfl rfl (fun _ => ?_)) | (refine step_store 0 rfl rfl rfl rfl rfl rfl rfl rfl rfl ?_) | (refine step_store 1 rfl rfl rfl rfl rfl rfl rfl rfl rfl ?_) | (refine step_store 2 rfl rfl rfl rfl rfl rfl rfl rfl rfl ?_) | (refine step_store 3 rfl rfl rfl rfl rfl rfl rfl rfl rfl ?_) | (refine step_store 4 rfl rfl rfl rfl rfl rfl rfl rfl rfl ?_) | (refine step_store 5 rfl rfl rfl rfl rfl rfl rfl rfl rfl ?_) | (refine step_store 6 rfl rfl rfl rfl rfl rfl rfl rfl rfl ?_) | (refine step_store 7 rfl rfl rfl rfl rfl rfl rfl rfl rfl ?_)))
    exact ⟨trivial, _, rfl, rfl⟩
  have hna : na ≤ 20 := by simp at hA; omega
  have hnb : nb ≤ 20 := by simp at hB; omega
  have hn : n ≤ 20 := by simp at hN; omega
  repeat (first
      | refine exec_seq ?_
      | refine exec_region ?_
      | refine exec_block ?_
      | refine exec_skip ?_
      | refine exec_exit ?_
      | refine exec_ret ?_
      | refine exec_true rfl ?_
      | refine exec_false rfl ?_
      | refine ops_nil ?_
      | refine ops_pl rfl rfl rfl (.bld rfl rfl rfl rfl) rfl ?_
      | refine ops_pl rfl rfl rfl (.neSelf rfl rfl rfl rfl) rfl ?_
      | refine ops_pl rfl rfl rfl (.eqSelf rfl rfl rfl rfl) rfl ?_
      | refine ops_pl rfl rfl rfl (.wr64 rfl rfl (by omega) (by omega)) rfl ?_
      | refine ops_pl rfl rfl rfl (.wr8 rfl rfl (by omega) (by omega)) rfl ?_
      | refine ops_pl rfl rfl rfl (.p rfl rfl) rfl ?_
      | refine ops_pl rfl rfl rfl (.cv64 rfl (fun _ => rfl) (by omega) (by omega)) rfl ?_
      | refine ops_pl rfl rfl rfl (.cv8 rfl (fun _ => rfl) (by omega) (by omega)) rfl ?_
      | refine ops_pl rfl rfl rfl (.l rfl (fun _ _ => rfl)) rfl ?_
      | refine ops_pl rfl rfl rfl (.l rfl (look_own 0 rfl rfl rfl rfl)) rfl ?_
      | refine ops_pl rfl rfl rfl (.l rfl (look_own 1 rfl rfl rfl rfl)) rfl ?_
      | refine ops_pl rfl rfl rfl (.l rfl (look_own 2 rfl rfl rfl rfl)) rfl ?_
      | refine ops_pl rfl rfl rfl (.l rfl (look_own 3 rfl rfl rfl rfl)) rfl ?_
      | refine ops_pl rfl rfl rfl (.l rfl (look_own 4 rfl rfl rfl rfl)) rfl ?_
      | refine ops_pl rfl rfl rfl (.l rfl (look_own 5 rfl rfl rfl rfl)) rfl ?_
      | refine ops_pl rfl rfl rfl (.l rfl (look_own 6 rfl rfl rfl rfl)) rfl ?_
      | refine ops_pl rfl rfl rfl (.l rfl (look_own 7 rfl rfl rfl rfl)) rfl ?_
      | refine ops_pl rfl rfl rfl (.l rfl (look_agg 0 rfl rfl rfl rfl)) rfl ?_
      | refine ops_pl rfl rfl rfl (.l rfl (look_agg 1 rfl rfl rfl rfl)) rfl ?_
      | refine ops_pl rfl rfl rfl (.l rfl (look_agg 2 rfl rfl rfl rfl)) rfl ?_
      | refine ops_pl rfl rfl rfl (.l rfl (look_agg 3 rfl rfl rfl rfl)) rfl ?_
      | refine ops_pl rfl rfl rfl (.l rfl (look_agg 4 rfl rfl rfl rfl)) rfl ?_
      | refine ops_pl rfl rfl rfl (.l rfl (look_agg 5 rfl rfl rfl rfl)) rfl ?_
      | refine ops_pl rfl rfl rfl (.l rfl (look_agg 6 rfl rfl rfl rfl)) rfl ?_
      | refine ops_pl rfl rfl rfl (.l rfl (look_agg 7 rfl rfl rfl rfl)) rfl ?_
      | refine ops_pl rfl rfl rfl (.l rfl (look_str 0 rfl rfl rfl rfl rfl rfl rfl)) rfl ?_
      | refine ops_pl rfl rfl rfl (.l rfl (look_str 1 rfl rfl rfl rfl rfl rfl rfl)) rfl ?_
      | refine ops_pl rfl rfl rfl (.l rfl (look_str 2 rfl rfl rfl rfl rfl rfl rfl)) rfl ?_
      | refine ops_pl rfl rfl rfl (.l rfl (look_str 3 rfl rfl rfl rfl rfl rfl rfl)) rfl ?_
      | refine ops_skip rfl rfl rfl ?_
      | (refine ops_step rfl rfl rfl ?_; first | (refine step_box rfl rfl rfl (fun _ => ?_)) | (refine step_alloc rfl rfl rfl rfl (fun _ => ?_)) | (refine step_buildSlice rfl rfl rfl rfl rfl (fun _ => ?_)) | (refine step_store 0 rfl rfl rfl rfl rfl rfl rfl rfl rfl ?_) | (refine step_store 1 rfl rfl rfl rfl rfl rfl rfl rfl rfl ?_) | (refine step_store 2 rfl rfl rfl rfl rfl rfl rfl rfl rfl ?_) | (refine step_store 3 rfl rfl rfl rfl rfl rfl rfl rfl rfl ?_) | (refine step_store 4 rfl rfl rfl rfl rfl rfl rfl rfl rfl ?_) | (refine step_store 5 rfl rfl rfl rfl rfl rfl rfl rfl rfl ?_) | (refine step_store 6 rfl rfl rfl rfl rfl rfl rfl rfl rfl ?_) | (refine step_store 7 rfl rfl rfl rfl rfl rfl rfl rfl rfl ?_)))
  rename_i b7 b8
  refine ExecS.ghost ?_
  refine ExecS.weak (E' := [(2, .slice al n cl), (3, .int .u8 cut), (4, .int .u8 other), (5, .int .u8 k), (6, .int .u8 j), (7, .pointer (some ⟨b7, 0, some 0⟩)), (8, .pointer (some ⟨b8, 0, some 0⟩)), (15, .slice none 0 0), (16, .slice none 0 0), (17, .int .i64 ((0 : Nat) : Int))]) ⟨rfl, rfl, rfl, rfl, rfl, rfl, rfl, rfl, rfl, rfl, trivial⟩ (List.Sublist.refl _) ?_
  refine exec_loop (fun q E L => ∃ (i n1 c1 : Nat) (a1 : Option Addr) (p1 : Option Nat × Cont) (lx : List (List UInt8)), i + q = n ∧ n1 = i ∧ OwnA 1 9 a1 n1 c1 (lx.map str) p1 ∧ E = [(2, .slice al n cl), (3, .int .u8 cut), (4, .int .u8 other), (5, .int .u8 k), (6, .int .u8 j), (7, .pointer (some ⟨b7, 0, some 0⟩)), (8, .pointer (some ⟨b8, 0, some 0⟩)), (15, .slice a1 n1 c1), (16, .slice none 0 0), (17, .int .i64 (i : Int))] ∧ L = [p1, (some b8, .cells 0 [.slice ab nb cb, .int .i64 eb, .int .i64 kb, .int .i64 sb, .int .i64 hb', .int .i64 db] 0 24), (some b7, .cells 0 [.slice aa na ca, .int .i64 ea, .int .i64 ka, .int .i64 sa, .int .i64 ha', .int .i64 da] 0 24)]) ?_ n _ _ ⟨0, 0, 0, none, _, [], by omega, rfl, .nil _, rfl, rfl⟩
  rintro q E L ⟨i, n1, c1, a1, p1, lx, hiq, hn1, own1, rfl, rfl⟩
  repeat (first
      | refine exec_seq ?_
      | refine exec_region ?_
      | refine exec_block ?_
      | refine exec_skip ?_
      | refine exec_exit ?_
      | refine exec_ret ?_
      | refine exec_true rfl ?_
      | refine exec_false rfl ?_
      | refine ops_nil ?_
      | refine ops_pl rfl rfl rfl (.bld rfl rfl rfl rfl) rfl ?_
      | refine ops_pl rfl rfl rfl (.neSelf rfl rfl rfl rfl) rfl ?_
      | refine ops_pl rfl rfl rfl (.eqSelf rfl rfl rfl rfl) rfl ?_
      | refine ops_pl rfl rfl rfl (.wr64 rfl rfl (by omega) (by omega)) rfl ?_
      | refine ops_pl rfl rfl rfl (.wr8 rfl rfl (by omega) (by omega)) rfl ?_
      | refine ops_pl rfl rfl rfl (.p rfl rfl) rfl ?_
      | refine ops_pl rfl rfl rfl (.cv64 rfl (fun _ => rfl) (by omega) (by omega)) rfl ?_
      | refine ops_pl rfl rfl rfl (.cv8 rfl (fun _ => rfl) (by omega) (by omega)) rfl ?_
      | refine ops_pl rfl rfl rfl (.l rfl (fun _ _ => rfl)) rfl ?_
      | refine ops_pl rfl rfl rfl (.l rfl (look_own 0 rfl rfl rfl rfl)) rfl ?_
      | refine ops_pl rfl rfl rfl (.l rfl (look_own 1 rfl rfl rfl rfl)) rfl ?_
      | refine ops_pl rfl rfl rfl (.l rfl (look_own 2 rfl rfl rfl rfl)) rfl ?_
      | refine ops_pl rfl rfl rfl (.l rfl (look_own 3 rfl rfl rfl rfl)) rfl ?_
      | refine ops_pl rfl rfl rfl (.l rfl (look_own 4 rfl rfl rfl rfl)) rfl ?_
      | refine ops_pl rfl rfl rfl (.l rfl (look_own 5 rfl rfl rfl rfl)) rfl ?_
      | refine ops_pl rfl rfl rfl (.l rfl (look_own 6 rfl rfl rfl rfl)) rfl ?_
      | refine ops_pl rfl rfl rfl (.l rfl (look_own 7 rfl rfl rfl rfl)) rfl ?_
      | refine ops_pl rfl rfl rfl (.l rfl (look_agg 0 rfl rfl rfl rfl)) rfl ?_
      | refine ops_pl rfl rfl rfl (.l rfl (look_agg 1 rfl rfl rfl rfl)) rfl ?_
      | refine ops_pl rfl rfl rfl (.l rfl (look_agg 2 rfl rfl rfl rfl)) rfl ?_
      | refine ops_pl rfl rfl rfl (.l rfl (look_agg 3 rfl rfl rfl rfl)) rfl ?_
      | refine ops_pl rfl rfl rfl (.l rfl (look_agg 4 rfl rfl rfl rfl)) rfl ?_
      | refine ops_pl rfl rfl rfl (.l rfl (look_agg 5 rfl rfl rfl rfl)) rfl ?_
      | refine ops_pl rfl rfl rfl (.l rfl (look_agg 6 rfl rfl rfl rfl)) rfl ?_
      | refine ops_pl rfl rfl rfl (.l rfl (look_agg 7 rfl rfl rfl rfl)) rfl ?_
      | refine ops_pl rfl rfl rfl (.l rfl (look_str 0 rfl rfl rfl rfl rfl rfl rfl)) rfl ?_
      | refine ops_pl rfl rfl rfl (.l rfl (look_str 1 rfl rfl rfl rfl rfl rfl rfl)) rfl ?_
      | refine ops_pl rfl rfl rfl (.l rfl (look_str 2 rfl rfl rfl rfl rfl rfl rfl)) rfl ?_
      | refine ops_pl rfl rfl rfl (.l rfl (look_str 3 rfl rfl rfl rfl rfl rfl rfl)) rfl ?_
      | refine ops_skip rfl rfl rfl ?_
      | (refine ops_step rfl rfl rfl ?_; first | (refine step_box rfl rfl rfl (fun _ => ?_)) | (refine step_alloc rfl rfl rfl rfl (fun _ => ?_)) | (refine step_buildSlice rfl rfl rfl rfl rfl (fun _ => ?_)) | (refine step_store 0 rfl rfl rfl rfl rfl rfl rfl rfl rfl ?_) | (refine step_store 1 rfl rfl rfl rfl rfl rfl rfl rfl rfl ?_) | (refine step_store 2 rfl rfl rfl rfl rfl rfl rfl rfl rfl ?_) | (refine step_store 3 rfl rfl rfl rfl rfl rfl rfl rfl rfl ?_) | (refine step_store 4 rfl rfl rfl rfl rfl rfl rfl rfl rfl ?_) | (refine step_store 5 rfl rfl rfl rfl rfl rfl rfl rfl rfl ?_) | (refine step_store 6 rfl rfl rfl rfl rfl rfl rfl rfl rfl ?_) | (refine step_store 7 rfl rfl rfl rfl rfl rfl rfl rfl rfl ?_)))
  refine exec_cond rfl (fun hlt => ?_) (fun hge => ?_)
  · have hi : i < n := by simp at hlt; omega
    repeat (first
        | refine exec_seq ?_
        | refine exec_region ?_
        | refine exec_block ?_
        | refine exec_skip ?_
        | refine exec_exit ?_
        | refine exec_ret ?_
        | refine exec_true rfl ?_
        | refine exec_false rfl ?_
        | refine ops_nil ?_
        | refine ops_pl rfl rfl rfl (.bld rfl rfl rfl rfl) rfl ?_
        | refine ops_pl rfl rfl rfl (.neSelf rfl rfl rfl rfl) rfl ?_
        | refine ops_pl rfl rfl rfl (.eqSelf rfl rfl rfl rfl) rfl ?_
        | refine ops_pl rfl rfl rfl (.wr64 rfl rfl (by omega) (by omega)) rfl ?_
        | refine ops_pl rfl rfl rfl (.wr8 rfl rfl (by omega) (by omega)) rfl ?_
        | refine ops_pl rfl rfl rfl (.p rfl rfl) rfl ?_
        | refine ops_pl rfl rfl rfl (.cv64 rfl (fun _ => rfl) (by omega) (by omega)) rfl ?_
        | refine ops_pl rfl rfl rfl (.cv8 rfl (fun _ => rfl) (by omega) (by omega)) rfl ?_
        | refine ops_pl rfl rfl rfl (.l rfl (fun _ _ => rfl)) rfl ?_
        | refine ops_pl rfl rfl rfl (.l rfl (look_own 0 rfl rfl rfl rfl)) rfl ?_
        | refine ops_pl rfl rfl rfl (.l rfl (look_own 1 rfl rfl rfl rfl)) rfl ?_
        | refine ops_pl rfl rfl rfl (.l rfl (look_own 2 rfl rfl rfl rfl)) rfl ?_
        | refine ops_pl rfl rfl rfl (.l rfl (look_own 3 rfl rfl rfl rfl)) rfl ?_
        | refine ops_pl rfl rfl rfl (.l rfl (look_own 4 rfl rfl rfl rfl)) rfl ?_
        | refine ops_pl rfl rfl rfl (.l rfl (look_own 5 rfl rfl rfl rfl)) rfl ?_
        | refine ops_pl rfl rfl rfl (.l rfl (look_own 6 rfl rfl rfl rfl)) rfl ?_
        | refine ops_pl rfl rfl rfl (.l rfl (look_own 7 rfl rfl rfl rfl)) rfl ?_
        | refine ops_pl rfl rfl rfl (.l rfl (look_agg 0 rfl rfl rfl rfl)) rfl ?_
        | refine ops_pl rfl rfl rfl (.l rfl (look_agg 1 rfl rfl rfl rfl)) rfl ?_
        | refine ops_pl rfl rfl rfl (.l rfl (look_agg 2 rfl rfl rfl rfl)) rfl ?_
        | refine ops_pl rfl rfl rfl (.l rfl (look_agg 3 rfl rfl rfl rfl)) rfl ?_
        | refine ops_pl rfl rfl rfl (.l rfl (look_agg 4 rfl rfl rfl rfl)) rfl ?_
        | refine ops_pl rfl rfl rfl (.l rfl (look_agg 5 rfl rfl rfl rfl)) rfl ?_
        | refine ops_pl rfl rfl rfl (.l rfl (look_agg 6 rfl rfl rfl rfl)) rfl ?_
        | refine ops_pl rfl rfl rfl (.l rfl (look_agg 7 rfl rfl rfl rfl)) rfl ?_
        | refine ops_pl rfl rfl rfl (.l rfl (look_str 0 rfl rfl rfl rfl rfl rfl rfl)) rfl ?_
        | refine ops_pl rfl rfl rfl (.l rfl (look_str 1 rfl rfl rfl rfl rfl rfl rfl)) rfl ?_
        | refine ops_pl rfl rfl rfl (.l rfl (look_str 2 rfl rfl rfl rfl rfl rfl rfl)) rfl ?_
        | refine ops_pl rfl rfl rfl (.l rfl (look_str 3 rfl rfl rfl rfl rfl rfl rfl)) rfl ?_
        | refine ops_skip rfl rfl rfl ?_
        | (refine ops_step rfl rfl rfl ?_; first | (refine step_box rfl rfl rfl (fun _ => ?_)) | (refine step_alloc rfl rfl rfl rfl (fun _ => ?_)) | (refine step_buildSlice rfl rfl rfl rfl rfl (fun _ => ?_)) | (refine step_store 0 rfl rfl rfl rfl rfl rfl rfl rfl rfl ?_) | (refine step_store 1 rfl rfl rfl rfl rfl rfl rfl rfl rfl ?_) | (refine step_store 2 rfl rfl rfl rfl rfl rfl rfl rfl rfl ?_) | (refine step_store 3 rfl rfl rfl rfl rfl rfl rfl rfl rfl ?_) | (refine step_store 4 rfl rfl rfl rfl rfl rfl rfl rfl rfl ?_) | (refine step_store 5 rfl rfl rfl rfl rfl rfl rfl rfl rfl ?_) | (refine step_store 6 rfl rfl rfl rfl rfl rfl rfl rfl rfl ?_) | (refine step_store 7 rfl rfl rfl rfl rfl rfl rfl rfl rfl ?_)))
    first | refine ops_pl rfl rfl rfl (.p rfl (opP_idx rfl rfl (hl Heap.empty) rfl rfl (by omega) (by omega))) rfl ?_ | refine draw_pl rfl rfl rfl rfl (.p rfl (opP_idx rfl rfl (hl Heap.empty) rfl rfl (by omega) (by omega))) rfl rfl ?_
    first | refine ops_pl rfl rfl rfl (.l rfl (fun H hs => opL_load rfl (((hl Heap.empty).at hs).ld rfl (getMap (l := l) (i := i) (by omega) rfl)))) rfl ?_ | refine draw_pl rfl rfl rfl rfl (.l rfl (fun H hs => opL_load rfl (((hl Heap.empty).at hs).ld rfl (getMap (l := l) (i := i) (by omega) rfl)))) rfl rfl ?_
    repeat (first
        | refine exec_seq ?_
        | refine exec_region ?_
        | refine exec_block ?_
        | refine exec_skip ?_
        | refine exec_exit ?_
        | refine exec_ret ?_
        | refine exec_true rfl ?_
        | refine exec_false rfl ?_
        | refine ops_nil ?_
        | refine ops_pl rfl rfl rfl (.bld rfl rfl rfl rfl) rfl ?_
        | refine ops_pl rfl rfl rfl (.neSelf rfl rfl rfl rfl) rfl ?_
        | refine ops_pl rfl rfl rfl (.eqSelf rfl rfl rfl rfl) rfl ?_
        | refine ops_pl rfl rfl rfl (.wr64 rfl rfl (by omega) (by omega)) rfl ?_
        | refine ops_pl rfl rfl rfl (.wr8 rfl rfl (by omega) (by omega)) rfl ?_
        | refine ops_pl rfl rfl rfl (.p rfl rfl) rfl ?_
        | refine ops_pl rfl rfl rfl (.cv64 rfl (fun _ => rfl) (by omega) (by omega)) rfl ?_
        | refine ops_pl rfl rfl rfl (.cv8 rfl (fun _ => rfl) (by omega) (by omega)) rfl ?_
        | refine ops_pl rfl rfl rfl (.l rfl (fun _ _ => rfl)) rfl ?_
        | refine ops_pl rfl rfl rfl (.l rfl (look_own 0 rfl rfl rfl rfl)) rfl ?_
        | refine ops_pl rfl rfl rfl (.l rfl (look_own 1 rfl rfl rfl rfl)) rfl ?_
        | refine ops_pl rfl rfl rfl (.l rfl (look_own 2 rfl rfl rfl rfl)) rfl ?_
        | refine ops_pl rfl rfl rfl (.l rfl (look_own 3 rfl rfl rfl rfl)) rfl ?_
        | refine ops_pl rfl rfl rfl (.l rfl (look_own 4 rfl rfl rfl rfl)) rfl ?_
        | refine ops_pl rfl rfl rfl (.l rfl (look_own 5 rfl rfl rfl rfl)) rfl ?_
        | refine ops_pl rfl rfl rfl (.l rfl (look_own 6 rfl rfl rfl rfl)) rfl ?_
        | refine ops_pl rfl rfl rfl (.l rfl (look_own 7 rfl rfl rfl rfl)) rfl ?_
        | refine ops_pl rfl rfl rfl (.l rfl (look_agg 0 rfl rfl rfl rfl)) rfl ?_
        | refine ops_pl rfl rfl rfl (.l rfl (look_agg 1 rfl rfl rfl rfl)) rfl ?_
        | refine ops_pl rfl rfl rfl (.l rfl (look_agg 2 rfl rfl rfl rfl)) rfl ?_
        | refine ops_pl rfl rfl rfl (.l rfl (look_agg 3 rfl rfl rfl rfl)) rfl ?_
        | refine ops_pl rfl rfl rfl (.l rfl (look_agg 4 rfl rfl rfl rfl)) rfl ?_
        | refine ops_pl rfl rfl rfl (.l rfl (look_agg 5 rfl rfl rfl rfl)) rfl ?_
        | refine ops_pl rfl rfl rfl (.l rfl (look_agg 6 rfl rfl rfl rfl)) rfl ?_
        | refine ops_pl rfl rfl rfl (.l rfl (look_agg 7 rfl rfl rfl rfl)) rfl ?_
        | refine ops_pl rfl rfl rfl (.l rfl (look_str 0 rfl rfl rfl rfl rfl rfl rfl)) rfl ?_
        | refine ops_pl rfl rfl rfl (.l rfl (look_str 1 rfl rfl rfl rfl rfl rfl rfl)) rfl ?_
        | refine ops_pl rfl rfl rfl (.l rfl (look_str 2 rfl rfl rfl rfl rfl rfl rfl)) rfl ?_
        | refine ops_pl rfl rfl rfl (.l rfl (look_str 3 rfl rfl rfl rfl rfl rfl rfl)) rfl ?_
        | refine ops_skip rfl rfl rfl ?_
        | (refine ops_step rfl rfl rfl ?_; first | (refine step_box rfl rfl rfl (fun _ => ?_)) | (refine step_alloc rfl rfl rfl rfl (fun _ => ?_)) | (refine step_buildSlice rfl rfl rfl rfl rfl (fun _ => ?_)) | (refine step_store 0 rfl rfl rfl rfl rfl rfl rfl rfl rfl ?_) | (refine step_store 1 rfl rfl rfl rfl rfl rfl rfl rfl rfl ?_) | (refine step_store 2 rfl rfl rfl rfl rfl rfl rfl rfl rfl ?_) | (refine step_store 3 rfl rfl rfl rfl rfl rfl rfl rfl rfl ?_) | (refine step_store 4 rfl rfl rfl rfl rfl rfl rfl rfl rfl ?_) | (refine step_store 5 rfl rfl rfl rfl rfl rfl rfl rfl rfl ?_) | (refine step_store 6 rfl rfl rfl rfl rfl rfl rfl rfl rfl ?_) | (refine step_store 7 rfl rfl rfl rfl rfl rfl rfl rfl rfl ?_)))
    refine ops_step rfl rfl rfl (step_append 2 1 rfl rfl rfl rfl rfl rfl rfl rfl own1 (fun H hs => src_own (j := 0) hs rfl rfl 1) rfl (by first | rfl | exact allCell_map (fun _ => rfl) _) (by first | rfl | (simp; done) | (simp; omega)) (by omega) (fun a2 c2 p2 own2 => ?_))
    repeat (first
        | refine exec_seq ?_
        | refine exec_region ?_
        | refine exec_block ?_
        | refine exec_skip ?_
        | refine exec_exit ?_
        | refine exec_ret ?_
        | refine exec_true rfl ?_
        | refine exec_false rfl ?_
        | refine ops_nil ?_
        | refine ops_pl rfl rfl rfl (.bld rfl rfl rfl rfl) rfl ?_
        | refine ops_pl rfl rfl rfl (.neSelf rfl rfl rfl rfl) rfl ?_
        | refine ops_pl rfl rfl rfl (.eqSelf rfl rfl rfl rfl) rfl ?_
        | refine ops_pl rfl rfl rfl (.wr64 rfl rfl (by omega) (by omega)) rfl ?_
        | refine ops_pl rfl rfl rfl (.wr8 rfl rfl (by omega) (by omega)) rfl ?_
        | refine ops_pl rfl rfl rfl (.p rfl rfl) rfl ?_
        | refine ops_pl rfl rfl rfl (.cv64 rfl (fun _ => rfl) (by omega) (by omega)) rfl ?_
        | refine ops_pl rfl rfl rfl (.cv8 rfl (fun _ => rfl) (by omega) (by omega)) rfl ?_
        | refine ops_pl rfl rfl rfl (.l rfl (fun _ _ => rfl)) rfl ?_
        | refine ops_pl rfl rfl rfl (.l rfl (look_own 0 rfl rfl rfl rfl)) rfl ?_
        | refine ops_pl rfl rfl rfl (.l rfl (look_own 1 rfl rfl rfl rfl)) rfl ?_
        | refine ops_pl rfl rfl rfl (.l rfl (look_own 2 rfl rfl rfl rfl)) rfl ?_
        | refine ops_pl rfl rfl rfl (.l rfl (look_own 3 rfl rfl rfl rfl)) rfl ?_
        | refine ops_pl rfl rfl rfl (.l rfl (look_own 4 rfl rfl rfl rfl)) rfl ?_
        | refine ops_pl rfl rfl rfl (.l rfl (look_own 5 rfl rfl rfl rfl)) rfl ?_
        | refine ops_pl rfl rfl rfl (.l rfl (look_own 6 rfl rfl rfl rfl)) rfl ?_
        | refine ops_pl rfl rfl rfl (.l rfl (look_own 7 rfl rfl rfl rfl)) rfl ?_
        | refine ops_pl rfl rfl rfl (.l rfl (look_agg 0 rfl rfl rfl rfl)) rfl ?_
        | refine ops_pl rfl rfl rfl (.l rfl (look_agg 1 rfl rfl rfl rfl)) rfl ?_
        | refine ops_pl rfl rfl rfl (.l rfl (look_agg 2 rfl rfl rfl rfl)) rfl ?_
        | refine ops_pl rfl rfl rfl (.l rfl (look_agg 3 rfl rfl rfl rfl)) rfl ?_
        | refine ops_pl rfl rfl rfl (.l rfl (look_agg 4 rfl rfl rfl rfl)) rfl ?_
        | refine ops_pl rfl rfl rfl (.l rfl (look_agg 5 rfl rfl rfl rfl)) rfl ?_
        | refine ops_pl rfl rfl rfl (.l rfl (look_agg 6 rfl rfl rfl rfl)) rfl ?_
        | refine ops_pl rfl rfl rfl (.l rfl (look_agg 7 rfl rfl rfl rfl)) rfl ?_
        | refine ops_pl rfl rfl rfl (.l rfl (look_str 0 rfl rfl rfl rfl rfl rfl rfl)) rfl ?_
        | refine ops_pl rfl rfl rfl (.l rfl (look_str 1 rfl rfl rfl rfl rfl rfl rfl)) rfl ?_
        | refine ops_pl rfl rfl rfl (.l rfl (look_str 2 rfl rfl rfl rfl rfl rfl rfl)) rfl ?_
        | refine ops_pl rfl rfl rfl (.l rfl (look_str 3 rfl rfl rfl rfl rfl rfl rfl)) rfl ?_
        | refine ops_skip rfl rfl rfl ?_
        | (refine ops_step rfl rfl rfl ?_; first | (refine step_box rfl rfl rfl (fun _ => ?_)) | (refine step_alloc rfl rfl rfl rfl (fun _ => ?_)) | (refine step_buildSlice rfl rfl rfl rfl rfl (fun _ => ?_)) | (refine step_store 0 rfl rfl rfl rfl rfl rfl rfl rfl rfl ?_) | (refine step_store 1 rfl rfl rfl rfl rfl rfl rfl rfl rfl ?_) | (refine step_store 2 rfl rfl rfl rfl rfl rfl rfl rfl rfl ?_) | (refine step_store 3 rfl rfl rfl rfl rfl rfl rfl rfl rfl ?_) | (refine step_store 4 rfl rfl rfl rfl rfl rfl rfl rfl rfl ?_) | (refine step_store 5 rfl rfl rfl rfl rfl rfl rfl rfl rfl ?_) | (refine step_store 6 rfl rfl rfl rfl rfl rfl rfl rfl rfl ?_) | (refine step_store 7 rfl rfl rfl rfl rfl rfl rfl rfl rfl ?_)))
    obtain ⟨w, own3⟩ : ∃ w, OwnA 1 9 a2 (n1 + 1) c2 ((lx ++ [w]).map str) p2 := ⟨_, by rw [List.map_append]; exact own2⟩
    refine ⟨q - 1, by omega, _, _, ?_, ?_, i + 1, n1 + 1, c2, a2, p2, lx ++ [w], by omega, by omega, own3, rfl, rfl⟩
    · exact ⟨rfl, rfl, rfl, rfl, rfl, rfl, rfl, rfl, rfl, rfl, trivial⟩
    · exact .cons _ (.cons _ (.refl _))
  have hin : i = n := by simp at hge; omega
  have hn1' : n1 ≤ 20 := by omega
  clear hge hiq hln
  subst hn1
  repeat (first
      | refine exec_seq ?_
      | refine exec_region ?_
      | refine exec_block ?_
      | refine exec_skip ?_
      | refine exec_exit ?_
      | refine exec_ret ?_
      | refine exec_true rfl ?_
      | refine exec_false rfl ?_
      | refine ops_nil ?_
      | refine ops_pl rfl rfl rfl (.bld rfl rfl rfl rfl) rfl ?_
      | refine ops_pl rfl rfl rfl (.neSelf rfl rfl rfl rfl) rfl ?_
      | refine ops_pl rfl rfl rfl (.eqSelf rfl rfl rfl rfl) rfl ?_
      | refine ops_pl rfl rfl rfl (.wr64 rfl rfl (by omega) (by omega)) rfl ?_
      | refine ops_pl rfl rfl rfl (.wr8 rfl rfl (by omega) (by omega)) rfl ?_
      | refine ops_pl rfl rfl rfl (.p rfl rfl) rfl ?_
      | refine ops_pl rfl rfl rfl (.cv64 rfl (fun _ => rfl) (by omega) (by omega)) rfl ?_
      | refine ops_pl rfl rfl rfl (.cv8 rfl (fun _ => rfl) (by omega) (by omega)) rfl ?_
      | refine ops_pl rfl rfl rfl (.l rfl (fun _ _ => rfl)) rfl ?_
      | refine ops_pl rfl rfl rfl (.l rfl (look_own 0 rfl rfl rfl rfl)) rfl ?_
      | refine ops_pl rfl rfl rfl (.l rfl (look_own 1 rfl rfl rfl rfl)) rfl ?_
      | refine ops_pl rfl rfl rfl (.l rfl (look_own 2 rfl rfl rfl rfl)) rfl ?_
      | refine ops_pl rfl rfl rfl (.l rfl (look_own 3 rfl rfl rfl rfl)) rfl ?_
      | refine ops_pl rfl rfl rfl (.l rfl (look_own 4 rfl rfl rfl rfl)) rfl ?_
      | refine ops_pl rfl rfl rfl (.l rfl (look_own 5 rfl rfl rfl rfl)) rfl ?_
      | refine ops_pl rfl rfl rfl (.l rfl (look_own 6 rfl rfl rfl rfl)) rfl ?_
      | refine ops_pl rfl rfl rfl (.l rfl (look_own 7 rfl rfl rfl rfl)) rfl ?_
      | refine ops_pl rfl rfl rfl (.l rfl (look_agg 0 rfl rfl rfl rfl)) rfl ?_
      | refine ops_pl rfl rfl rfl (.l rfl (look_agg 1 rfl rfl rfl rfl)) rfl ?_
      | refine ops_pl rfl rfl rfl (.l rfl (look_agg 2 rfl rfl rfl rfl)) rfl ?_
      | refine ops_pl rfl rfl rfl (.l rfl (look_agg 3 rfl rfl rfl rfl)) rfl ?_
      | refine ops_pl rfl rfl rfl (.l rfl (look_agg 4 rfl rfl rfl rfl)) rfl ?_
      | refine ops_pl rfl rfl rfl (.l rfl (look_agg 5 rfl rfl rfl rfl)) rfl ?_
      | refine ops_pl rfl rfl rfl (.l rfl (look_agg 6 rfl rfl rfl rfl)) rfl ?_
      | refine ops_pl rfl rfl rfl (.l rfl (look_agg 7 rfl rfl rfl rfl)) rfl ?_
      | refine ops_pl rfl rfl rfl (.l rfl (look_str 0 rfl rfl rfl rfl rfl rfl rfl)) rfl ?_
      | refine ops_pl rfl rfl rfl (.l rfl (look_str 1 rfl rfl rfl rfl rfl rfl rfl)) rfl ?_
      | refine ops_pl rfl rfl rfl (.l rfl (look_str 2 rfl rfl rfl rfl rfl rfl rfl)) rfl ?_
      | refine ops_pl rfl rfl rfl (.l rfl (look_str 3 rfl rfl rfl rfl rfl rfl rfl)) rfl ?_
      | refine ops_skip rfl rfl rfl ?_
      | (refine ops_step rfl rfl rfl ?_; first | (refine step_box rfl rfl rfl (fun _ => ?_)) | (refine step_alloc rfl rfl rfl rfl (fun _ => ?_)) | (refine step_buildSlice rfl rfl rfl rfl rfl (fun _ => ?_)) | (refine step_store 0 rfl rfl rfl rfl rfl rfl rfl rfl rfl ?_) | (refine step_store 1 rfl rfl rfl rfl rfl rfl rfl rfl rfl ?_) | (refine step_store 2 rfl rfl rfl rfl rfl rfl rfl rfl rfl ?_) | (refine step_store 3 rfl rfl rfl rfl rfl rfl rfl rfl rfl ?_) | (refine step_store 4 rfl rfl rfl rfl rfl rfl rfl rfl rfl ?_) | (refine step_store 5 rfl rfl rfl rfl rfl rfl rfl rfl rfl ?_) | (refine step_store 6 rfl rfl rfl rfl rfl rfl rfl rfl rfl ?_) | (refine step_store 7 rfl rfl rfl rfl rfl rfl rfl rfl rfl ?_)))
  rw [tmodN (m := n1 + 1) (by omega) (by omega)]
  generalize hr : cut.toNat % (n1 + 1) = r
  have hrn : r ≤ n1 := by have := Nat.mod_lt cut.toNat (show 0 < n1 + 1 by omega); omega
  rw [w64 (m := (n1 : Int) - (r : Int)) (n := ((n1 - r : Nat) : Int)) (by omega) (by omega) (by omega)]
  first | refine ops_pl rfl rfl rfl (.l rfl (look_cut0 (h := n1 - r) rfl rfl rfl rfl (by omega) rfl (by omega) (fun H hs => (own1.sl (i := 0) hs rfl)) rfl rfl (by omega))) rfl ?_ | refine draw_pl rfl rfl rfl rfl (.l rfl (look_cut0 (h := n1 - r) rfl rfl rfl rfl (by omega) rfl (by omega) (fun H hs => (own1.sl (i := 0) hs rfl)) rfl rfl (by omega))) rfl rfl ?_
  have hlx : lx.length = n1 := by have := own1.len; simpa using this
  refine OpsS.ghost ?_
  refine ops_step rfl rfl rfl (step_append 0 1 rfl rfl rfl rfl rfl rfl rfl rfl (.nil _) (fun H hs => ((own1.sl hs (i := 1) rfl).cutM0 (Nat.sub_le n1 r)).src) rfl (by first | rfl | exact allCell_map (fun _ => rfl) _) (by first | rfl | (simp; done) | (simp; omega)) (by omega) (fun a2 c2 p2 own2 => ?_))
  repeat (first
      | refine ops_pl rfl rfl rfl (.bld rfl rfl rfl rfl) rfl ?_
      | refine ops_pl rfl rfl rfl (.neSelf rfl rfl rfl rfl) rfl ?_
      | refine ops_pl rfl rfl rfl (.eqSelf rfl rfl rfl rfl) rfl ?_
      | refine ops_pl rfl rfl rfl (.wr64 rfl rfl (by omega) (by omega)) rfl ?_
      | refine ops_pl rfl rfl rfl (.wr8 rfl rfl (by omega) (by omega)) rfl ?_
      | refine ops_pl rfl rfl rfl (.p rfl rfl) rfl ?_
      | refine ops_pl rfl rfl rfl (.cv64 rfl (fun _ => rfl) (by omega) (by omega)) rfl ?_
      | refine ops_pl rfl rfl rfl (.cv8 rfl (fun _ => rfl) (by omega) (by omega)) rfl ?_
      | refine ops_pl rfl rfl rfl (.l rfl (fun _ _ => rfl)) rfl ?_
      | refine ops_pl rfl rfl rfl (.l rfl (look_own 0 rfl rfl rfl rfl)) rfl ?_
      | refine ops_pl rfl rfl rfl (.l rfl (look_own 1 rfl rfl rfl rfl)) rfl ?_
      | refine ops_pl rfl rfl rfl (.l rfl (look_own 2 rfl rfl rfl rfl)) rfl ?_
      | refine ops_pl rfl rfl rfl (.l rfl (look_own 3 rfl rfl rfl rfl)) rfl ?_
      | refine ops_pl rfl rfl rfl (.l rfl (look_own 4 rfl rfl rfl rfl)) rfl ?_
      | refine ops_pl rfl rfl rfl (.l rfl (look_own 5 rfl rfl rfl rfl)) rfl ?_
      | refine ops_pl rfl rfl rfl (.l rfl (look_own 6 rfl rfl rfl rfl)) rfl ?_
      | refine ops_pl rfl rfl rfl (.l rfl (look_own 7 rfl rfl rfl rfl)) rfl ?_
      | refine ops_pl rfl rfl rfl (.l rfl (look_agg 0 rfl rfl rfl rfl)) rfl ?_
      | refine ops_pl rfl rfl rfl (.l rfl (look_agg 1 rfl rfl rfl rfl)) rfl ?_
      | refine ops_pl rfl rfl rfl (.l rfl (look_agg 2 rfl rfl rfl rfl)) rfl ?_
      | refine ops_pl rfl rfl rfl (.l rfl (look_agg 3 rfl rfl rfl rfl)) rfl ?_
      | refine ops_pl rfl rfl rfl (.l rfl (look_agg 4 rfl rfl rfl rfl)) rfl ?_
      | refine ops_pl rfl rfl rfl (.l rfl (look_agg 5 rfl rfl rfl rfl)) rfl ?_
      | refine ops_pl rfl rfl rfl (.l rfl (look_agg 6 rfl rfl rfl rfl)) rfl ?_
      | refine ops_pl rfl rfl rfl (.l rfl (look_agg 7 rfl rfl rfl rfl)) rfl ?_
      | refine ops_pl rfl rfl rfl (.l rfl (look_str 0 rfl rfl rfl rfl rfl rfl rfl)) rfl ?_
      | refine ops_pl rfl rfl rfl (.l rfl (look_str 1 rfl rfl rfl rfl rfl rfl rfl)) rfl ?_
      | refine ops_pl rfl rfl rfl (.l rfl (look_str 2 rfl rfl rfl rfl rfl rfl rfl)) rfl ?_
      | refine ops_pl rfl rfl rfl (.l rfl (look_str 3 rfl rfl rfl rfl rfl rfl rfl)) rfl ?_
      | refine ops_skip rfl rfl rfl ?_
      | (refine ops_step rfl rfl rfl ?_; first | (refine step_box rfl rfl rfl (fun _ => ?_)) | (refine step_alloc rfl rfl rfl rfl (fun _ => ?_)) | (refine step_buildSlice rfl rfl rfl rfl rfl (fun _ => ?_)) | (refine step_store 0 rfl rfl rfl rfl rfl rfl rfl rfl rfl ?_) | (refine step_store 1 rfl rfl rfl rfl rfl rfl rfl rfl rfl ?_) | (refine step_store 2 rfl rfl rfl rfl rfl rfl rfl rfl rfl ?_) | (refine step_store 3 rfl rfl rfl rfl rfl rfl rfl rfl rfl ?_) | (refine step_store 4 rfl rfl rfl rfl rfl rfl rfl rfl rfl ?_) | (refine step_store 5 rfl rfl rfl rfl rfl rfl rfl rfl rfl ?_) | (refine step_store 6 rfl rfl rfl rfl rfl rfl rfl rfl rfl ?_) | (refine step_store 7 rfl rfl rfl rfl rfl rfl rfl rfl rfl ?_)))
  refine ops_nil ?_
  refine exec_seq ?_
  have hy : ((lx.take (n1 - r)).map str).length = n1 - r := by have := own1.len; simp at this; simp; omega
  refine exec_mid (fun E L => ∃ (m c3 : Nat) (a3 : Option Addr) (p3 : Option Nat × Cont) (ly : List (List UInt8)), m ≤ 20 ∧ OwnA 1 9 a3 m c3 (ly.map str) p3 ∧ SubE [(2, .slice al n cl), (3, .int .u8 cut), (4, .int .u8 other), (5, .int .u8 k), (6, .int .u8 j), (7, .pointer (some ⟨b7, 0, some 0⟩)), (8, .pointer (some ⟨b8, 0, some 0⟩)), (15, .slice a1 n1 c1), (16, .slice a3 m c3), (17, .int .i64 (n1 : Int))] E ∧ List.Sublist [p3, p1, (some b8, .cells 0 [.slice ab nb cb, .int .i64 eb, .int .i64 kb, .int .i64 sb, .int .i64 hb', .int .i64 db] 0 24), (some b7, .cells 0 [.slice aa na ca, .int .i64 ea, .int .i64 ka, .int .i64 sa, .int .i64 ha', .int .i64 da] 0 24)] L) ?_ ?_
  · repeat (first
        | refine exec_seq ?_
        | refine exec_region ?_
        | refine exec_block ?_
        | refine exec_skip ?_
        | refine exec_exit ?_
        | refine exec_ret ?_
        | refine exec_true rfl ?_
        | refine exec_false rfl ?_
        | refine ops_nil ?_
        | refine ops_pl rfl rfl rfl (.bld rfl rfl rfl rfl) rfl ?_
        | refine ops_pl rfl rfl rfl (.neSelf rfl rfl rfl rfl) rfl ?_
        | refine ops_pl rfl rfl rfl (.eqSelf rfl rfl rfl rfl) rfl ?_
        | refine ops_pl rfl rfl rfl (.wr64 rfl rfl (by omega) (by omega)) rfl ?_
        | refine ops_pl rfl rfl rfl (.wr8 rfl rfl (by omega) (by omega)) rfl ?_
        | refine ops_pl rfl rfl rfl (.p rfl rfl) rfl ?_
        | refine ops_pl rfl rfl rfl (.cv64 rfl (fun _ => rfl) (by omega) (by omega)) rfl ?_
        | refine ops_pl rfl rfl rfl (.cv8 rfl (fun _ => rfl) (by omega) (by omega)) rfl ?_
        | refine ops_pl rfl rfl rfl (.l rfl (fun _ _ => rfl)) rfl ?_
        | refine ops_pl rfl rfl rfl (.l rfl (look_own 0 rfl rfl rfl rfl)) rfl ?_
        | refine ops_pl rfl rfl rfl (.l rfl (look_own 1 rfl rfl rfl rfl)) rfl ?_
        | refine ops_pl rfl rfl rfl (.l rfl (look_own 2 rfl rfl rfl rfl)) rfl ?_
        | refine ops_pl rfl rfl rfl (.l rfl (look_own 3 rfl rfl rfl rfl)) rfl ?_
        | refine ops_pl rfl rfl rfl (.l rfl (look_own 4 rfl rfl rfl rfl)) rfl ?_
        | refine ops_pl rfl rfl rfl (.l rfl (look_own 5 rfl rfl rfl rfl)) rfl ?_
        | refine ops_pl rfl rfl rfl (.l rfl (look_own 6 rfl rfl rfl rfl)) rfl ?_
        | refine ops_pl rfl rfl rfl (.l rfl (look_own 7 rfl rfl rfl rfl)) rfl ?_
        | refine ops_pl rfl rfl rfl (.l rfl (look_agg 0 rfl rfl rfl rfl)) rfl ?_
        | refine ops_pl rfl rfl rfl (.l rfl (look_agg 1 rfl rfl rfl rfl)) rfl ?_
        | refine ops_pl rfl rfl rfl (.l rfl (look_agg 2 rfl rfl rfl rfl)) rfl ?_
        | refine ops_pl rfl rfl rfl (.l rfl (look_agg 3 rfl rfl rfl rfl)) rfl ?_
        | refine ops_pl rfl rfl rfl (.l rfl (look_agg 4 rfl rfl rfl rfl)) rfl ?_
        | refine ops_pl rfl rfl rfl (.l rfl (look_agg 5 rfl rfl rfl rfl)) rfl ?_
        | refine ops_pl rfl rfl rfl (.l rfl (look_agg 6 rfl rfl rfl rfl)) rfl ?_
        | refine ops_pl rfl rfl rfl (.l rfl (look_agg 7 rfl rfl rfl rfl)) rfl ?_
        | refine ops_pl rfl rfl rfl (.l rfl (look_str 0 rfl rfl rfl rfl rfl rfl rfl)) rfl ?_
        | refine ops_pl rfl rfl rfl (.l rfl (look_str 1 rfl rfl rfl rfl rfl rfl rfl)) rfl ?_
        | refine ops_pl rfl rfl rfl (.l rfl (look_str 2 rfl rfl rfl rfl rfl rfl rfl)) rfl ?_
        | refine ops_pl rfl rfl rfl (.l rfl (look_str 3 rfl rfl rfl rfl rfl rfl rfl)) rfl ?_
        | refine ops_skip rfl rfl rfl ?_
        | (refine ops_step rfl rfl rfl ?_; first | (refine step_box rfl rfl rfl (fun _ => ?_)) | (refine step_alloc rfl rfl rfl rfl (fun _ => ?_)) | (refine step_buildSlice rfl rfl rfl rfl rfl (fun _ => ?_)) | (refine step_store 0 rfl rfl rfl rfl rfl rfl rfl rfl rfl ?_) | (refine step_store 1 rfl rfl rfl rfl rfl rfl rfl rfl rfl ?_) | (refine step_store 2 rfl rfl rfl rfl rfl rfl rfl rfl rfl ?_) | (refine step_store 3 rfl rfl rfl rfl rfl rfl rfl rfl rfl ?_) | (refine step_store 4 rfl rfl rfl rfl rfl rfl rfl rfl rfl ?_) | (refine step_store 5 rfl rfl rfl rfl rfl rfl rfl rfl rfl ?_) | (refine step_store 6 rfl rfl rfl rfl rfl rfl rfl rfl rfl ?_) | (refine step_store 7 rfl rfl rfl rfl rfl rfl rfl rfl rfl ?_)))
    cases hd1 : decide (((0 + (n1 - r) : Nat) : Int) > 0)
    · repeat (first
          | refine exec_seq ?_
          | refine exec_region ?_
          | refine exec_block ?_
          | refine exec_skip ?_
          | refine exec_exit ?_
          | refine exec_ret ?_
          | refine exec_true rfl ?_
          | refine exec_false rfl ?_
          | refine ops_nil ?_
          | refine ops_pl rfl rfl rfl (.bld rfl rfl rfl rfl) rfl ?_
          | refine ops_pl rfl rfl rfl (.neSelf rfl rfl rfl rfl) rfl ?_
          | refine ops_pl rfl rfl rfl (.eqSelf rfl rfl rfl rfl) rfl ?_
          | refine ops_pl rfl rfl rfl (.wr64 rfl rfl (by omega) (by omega)) rfl ?_
          | refine ops_pl rfl rfl rfl (.wr8 rfl rfl (by omega) (by omega)) rfl ?_
          | refine ops_pl rfl rfl rfl (.p rfl rfl) rfl ?_
          | refine ops_pl rfl rfl rfl (.cv64 rfl (fun _ => rfl) (by omega) (by omega)) rfl ?_
          | refine ops_pl rfl rfl rfl (.cv8 rfl (fun _ => rfl) (by omega) (by omega)) rfl ?_
          | refine ops_pl rfl rfl rfl (.l rfl (fun _ _ => rfl)) rfl ?_
          | refine ops_pl rfl rfl rfl (.l rfl (look_own 0 rfl rfl rfl rfl)) rfl ?_
          | refine ops_pl rfl rfl rfl (.l rfl (look_own 1 rfl rfl rfl rfl)) rfl ?_
          | refine ops_pl rfl rfl rfl (.l rfl (look_own 2 rfl rfl rfl rfl)) rfl ?_
          | refine ops_pl rfl rfl rfl (.l rfl (look_own 3 rfl rfl rfl rfl)) rfl ?_
          | refine ops_pl rfl rfl rfl (.l rfl (look_own 4 rfl rfl rfl rfl)) rfl ?_
          | refine ops_pl rfl rfl rfl (.l rfl (look_own 5 rfl rfl rfl rfl)) rfl ?_
          | refine ops_pl rfl rfl rfl (.l rfl (look_own 6 rfl rfl rfl rfl)) rfl ?_
          | refine ops_pl rfl rfl rfl (.l rfl (look_own 7 rfl rfl rfl rfl)) rfl ?_
          | refine ops_pl rfl rfl rfl (.l rfl (look_agg 0 rfl rfl rfl rfl)) rfl ?_
          | refine ops_pl rfl rfl rfl (.l rfl (look_agg 1 rfl rfl rfl rfl)) rfl ?_
          | refine ops_pl rfl rfl rfl (.l rfl (look_agg 2 rfl rfl rfl rfl)) rfl ?_
          | refine ops_pl rfl rfl rfl (.l rfl (look_agg 3 rfl rfl rfl rfl)) rfl ?_
          | refine ops_pl rfl rfl rfl (.l rfl (look_agg 4 rfl rfl rfl rfl)) rfl ?_
          | refine ops_pl rfl rfl rfl (.l rfl (look_agg 5 rfl rfl rfl rfl)) rfl ?_
          | refine ops_pl rfl rfl rfl (.l rfl (look_agg 6 rfl rfl rfl rfl)) rfl ?_
          | refine ops_pl rfl rfl rfl (.l rfl (look_agg 7 rfl rfl rfl rfl)) rfl ?_
          | refine ops_pl rfl rfl rfl (.l rfl (look_str 0 rfl rfl rfl rfl rfl rfl rfl)) rfl ?_
          | refine ops_pl rfl rfl rfl (.l rfl (look_str 1 rfl rfl rfl rfl rfl rfl rfl)) rfl ?_
          | refine ops_pl rfl rfl rfl (.l rfl (look_str 2 rfl rfl rfl rfl rfl rfl rfl)) rfl ?_
          | refine ops_pl rfl rfl rfl (.l rfl (look_str 3 rfl rfl rfl rfl rfl rfl rfl)) rfl ?_
          | refine ops_skip rfl rfl rfl ?_
          | (refine ops_step rfl rfl rfl ?_; first | (refine step_box rfl rfl rfl (fun _ => ?_)) | (refine step_alloc rfl rfl rfl rfl (fun _ => ?_)) | (refine step_buildSlice rfl rfl rfl rfl rfl (fun _ => ?_)) | (refine step_store 0 rfl rfl rfl rfl rfl rfl rfl rfl rfl ?_) | (refine step_store 1 rfl rfl rfl rfl rfl rfl rfl rfl rfl ?_) | (refine step_store 2 rfl rfl rfl rfl rfl rfl rfl rfl rfl ?_) | (refine step_store 3 rfl rfl rfl rfl rfl rfl rfl rfl rfl ?_) | (refine step_store 4 rfl rfl rfl rfl rfl rfl rfl rfl rfl ?_) | (refine step_store 5 rfl rfl rfl rfl rfl rfl rfl rfl rfl ?_) | (refine step_store 6 rfl rfl rfl rfl rfl rfl rfl rfl rfl ?_) | (refine step_store 7 rfl rfl rfl rfl rfl rfl rfl rfl rfl ?_)))
      refine ⟨_, _, _, _, lx.take (n1 - r), ?_, own2, ⟨rfl, rfl, rfl, rfl, rfl, rfl, rfl, rfl, rfl, rfl, trivial⟩, .refl _⟩
      omega
    · repeat (first
          | refine exec_seq ?_
          | refine exec_region ?_
          | refine exec_block ?_
          | refine exec_skip ?_
          | refine exec_exit ?_
          | refine exec_ret ?_
          | refine exec_true rfl ?_
          | refine exec_false rfl ?_
          | refine ops_nil ?_
          | refine ops_pl rfl rfl rfl (.bld rfl rfl rfl rfl) rfl ?_
          | refine ops_pl rfl rfl rfl (.neSelf rfl rfl rfl rfl) rfl ?_
          | refine ops_pl rfl rfl rfl (.eqSelf rfl rfl rfl rfl) rfl ?_
          | refine ops_pl rfl rfl rfl (.wr64 rfl rfl (by omega) (by omega)) rfl ?_
          | refine ops_pl rfl rfl rfl (.wr8 rfl rfl (by omega) (by omega)) rfl ?_
          | refine ops_pl rfl rfl rfl (.p rfl rfl) rfl ?_
          | refine ops_pl rfl rfl rfl (.cv64 rfl (fun _ => rfl) (by omega) (by omega)) rfl ?_
          | refine ops_pl rfl rfl rfl (.cv8 rfl (fun _ => rfl) (by omega) (by omega)) rfl ?_
          | refine ops_pl rfl rfl rfl (.l rfl (fun _ _ => rfl)) rfl ?_
          | refine ops_pl rfl rfl rfl (.l rfl (look_own 0 rfl rfl rfl rfl)) rfl ?_
          | refine ops_pl rfl rfl rfl (.l rfl (look_own 1 rfl rfl rfl rfl)) rfl ?_
          | refine ops_pl rfl rfl rfl (.l rfl (look_own 2 rfl rfl rfl rfl)) rfl ?_
          | refine ops_pl rfl rfl rfl (.l rfl (look_own 3 rfl rfl rfl rfl)) rfl ?_
          | refine ops_pl rfl rfl rfl (.l rfl (look_own 4 rfl rfl rfl rfl)) rfl ?_
          | refine ops_pl rfl rfl rfl (.l rfl (look_own 5 rfl rfl rfl rfl)) rfl ?_
          | refine ops_pl rfl rfl rfl (.l rfl (look_own 6 rfl rfl rfl rfl)) rfl ?_
          | refine ops_pl rfl rfl rfl (.l rfl (look_own 7 rfl rfl rfl rfl)) rfl ?_
          | refine ops_pl rfl rfl rfl (.l rfl (look_agg 0 rfl rfl rfl rfl)) rfl ?_
          | refine ops_pl rfl rfl rfl (.l rfl (look_agg 1 rfl rfl rfl rfl)) rfl ?_
          | refine ops_pl rfl rfl rfl (.l rfl (look_agg 2 rfl rfl rfl rfl)) rfl ?_
          | refine ops_pl rfl rfl rfl (.l rfl (look_agg 3 rfl rfl rfl rfl)) rfl ?_
          | refine ops_pl rfl rfl rfl (.l rfl (look_agg 4 rfl rfl rfl rfl)) rfl ?_
          | refine ops_pl rfl rfl rfl (.l rfl (look_agg 5 rfl rfl rfl rfl)) rfl ?_
          | refine ops_pl rfl rfl rfl (.l rfl (look_agg 6 rfl rfl rfl rfl)) rfl ?_
          | refine ops_pl rfl rfl rfl (.l rfl (look_agg 7 rfl rfl rfl rfl)) rfl ?_
          | refine ops_pl rfl rfl rfl (.l rfl (look_str 0 rfl rfl rfl rfl rfl rfl rfl)) rfl ?_
          | refine ops_pl rfl rfl rfl (.l rfl (look_str 1 rfl rfl rfl rfl rfl rfl rfl)) rfl ?_
          | refine ops_pl rfl rfl rfl (.l rfl (look_str 2 rfl rfl rfl rfl rfl rfl rfl)) rfl ?_
          | refine ops_pl rfl rfl rfl (.l rfl (look_str 3 rfl rfl rfl rfl rfl rfl rfl)) rfl ?_
          | refine ops_skip rfl rfl rfl ?_
          | (refine ops_step rfl rfl rfl ?_; first | (refine step_box rfl rfl rfl (fun _ => ?_)) | (refine step_alloc rfl rfl rfl rfl (fun _ => ?_)) | (refine step_buildSlice rfl rfl rfl rfl rfl (fun _ => ?_)) | (refine step_store 0 rfl rfl rfl rfl rfl rfl rfl rfl rfl ?_) | (refine step_store 1 rfl rfl rfl rfl rfl rfl rfl rfl rfl ?_) | (refine step_store 2 rfl rfl rfl rfl rfl rfl rfl rfl rfl ?_) | (refine step_store 3 rfl rfl rfl rfl rfl rfl rfl rfl rfl ?_) | (refine step_store 4 rfl rfl rfl rfl rfl rfl rfl rfl rfl ?_) | (refine step_store 5 rfl rfl rfl rfl rfl rfl rfl rfl rfl ?_) | (refine step_store 6 rfl rfl rfl rfl rfl rfl rfl rfl rfl ?_) | (refine step_store 7 rfl rfl rfl rfl rfl rfl rfl rfl rfl ?_)))
      cases hd2 : ((other.tmod 4) == 0)
      · repeat (first
            | refine exec_seq ?_
            | refine exec_region ?_
            | refine exec_block ?_
            | refine exec_skip ?_
            | refine exec_exit ?_
            | refine exec_ret ?_
            | refine exec_true rfl ?_
            | refine exec_false rfl ?_
            | refine ops_nil ?_
            | refine ops_pl rfl rfl rfl (.bld rfl rfl rfl rfl) rfl ?_
            | refine ops_pl rfl rfl rfl (.neSelf rfl rfl rfl rfl) rfl ?_
            | refine ops_pl rfl rfl rfl (.eqSelf rfl rfl rfl rfl) rfl ?_
            | refine ops_pl rfl rfl rfl (.wr64 rfl rfl (by omega) (by omega)) rfl ?_
            | refine ops_pl rfl rfl rfl (.wr8 rfl rfl (by omega) (by omega)) rfl ?_
            | refine ops_pl rfl rfl rfl (.p rfl rfl) rfl ?_
            | refine ops_pl rfl rfl rfl (.cv64 rfl (fun _ => rfl) (by omega) (by omega)) rfl ?_
            | refine ops_pl rfl rfl rfl (.cv8 rfl (fun _ => rfl) (by omega) (by omega)) rfl ?_
            | refine ops_pl rfl rfl rfl (.l rfl (fun _ _ => rfl)) rfl ?_
            | refine ops_pl rfl rfl rfl (.l rfl (look_own 0 rfl rfl rfl rfl)) rfl ?_
            | refine ops_pl rfl rfl rfl (.l rfl (look_own 1 rfl rfl rfl rfl)) rfl ?_
            | refine ops_pl rfl rfl rfl (.l rfl (look_own 2 rfl rfl rfl rfl)) rfl ?_
            | refine ops_pl rfl rfl rfl (.l rfl (look_own 3 rfl rfl rfl rfl)) rfl ?_
            | refine ops_pl rfl rfl rfl (.l rfl (look_own 4 rfl rfl rfl rfl)) rfl ?_
            | refine ops_pl rfl rfl rfl (.l rfl (look_own 5 rfl rfl rfl rfl)) rfl ?_
            | refine ops_pl rfl rfl rfl (.l rfl (look_own 6 rfl rfl rfl rfl)) rfl ?_
            | refine ops_pl rfl rfl rfl (.l rfl (look_own 7 rfl rfl rfl rfl)) rfl ?_
            | refine ops_pl rfl rfl rfl (.l rfl (look_agg 0 rfl rfl rfl rfl)) rfl ?_
            | refine ops_pl rfl rfl rfl (.l rfl (look_agg 1 rfl rfl rfl rfl)) rfl ?_
            | refine ops_pl rfl rfl rfl (.l rfl (look_agg 2 rfl rfl rfl rfl)) rfl ?_
            | refine ops_pl rfl rfl rfl (.l rfl (look_agg 3 rfl rfl rfl rfl)) rfl ?_
            | refine ops_pl rfl rfl rfl (.l rfl (look_agg 4 rfl rfl rfl rfl)) rfl ?_
            | refine ops_pl rfl rfl rfl (.l rfl (look_agg 5 rfl rfl rfl rfl)) rfl ?_
            | refine ops_pl rfl rfl rfl (.l rfl (look_agg 6 rfl rfl rfl rfl)) rfl ?_
            | refine ops_pl rfl rfl rfl (.l rfl (look_agg 7 rfl rfl rfl rfl)) rfl ?_
            | refine ops_pl rfl rfl rfl (.l rfl (look_str 0 rfl rfl rfl rfl rfl rfl rfl)) rfl ?_
            | refine ops_pl rfl rfl rfl (.l rfl (look_str 1 rfl rfl rfl rfl rfl rfl rfl)) rfl ?_
            | refine ops_pl rfl rfl rfl (.l rfl (look_str 2 rfl rfl rfl rfl rfl rfl rfl)) rfl ?_
            | refine ops_pl rfl rfl rfl (.l rfl (look_str 3 rfl rfl rfl rfl rfl rfl rfl)) rfl ?_
            | refine ops_skip rfl rfl rfl ?_
            | (refine ops_step rfl rfl rfl ?_; first | (refine step_box rfl rfl rfl (fun _ => ?_)) | (refine step_alloc rfl rfl rfl rfl (fun _ => ?_)) | (refine step_buildSlice rfl rfl rfl rfl rfl (fun _ => ?_)) | (refine step_store 0 rfl rfl rfl rfl rfl rfl rfl rfl rfl ?_) | (refine step_store 1 rfl rfl rfl rfl rfl rfl rfl rfl rfl ?_) | (refine step_store 2 rfl rfl rfl rfl rfl rfl rfl rfl rfl ?_) | (refine step_store 3 rfl rfl rfl rfl rfl rfl rfl rfl rfl ?_) | (refine step_store 4 rfl rfl rfl rfl rfl rfl rfl rfl rfl ?_) | (refine step_store 5 rfl rfl rfl rfl rfl rfl rfl rfl rfl ?_) | (refine step_store 6 rfl rfl rfl rfl rfl rfl rfl rfl rfl ?_) | (refine step_store 7 rfl rfl rfl rfl rfl rfl rfl rfl rfl ?_)))
        refine ⟨_, _, _, _, lx.take (n1 - r), ?_, own2, ⟨rfl, rfl, rfl, rfl, rfl, rfl, rfl, rfl, rfl, rfl, trivial⟩, .refl _⟩
        omega
      · obtain ⟨yb, yv, rfl, rfl, rfl, hyl⟩ := own2.inv (by simp at hd1; omega)
        have hm0 : 0 < 0 + (n1 - r) := by simp at hd1; omega
        repeat (first
            | refine exec_seq ?_
            | refine exec_region ?_
            | refine exec_block ?_
            | refine exec_skip ?_
            | refine exec_exit ?_
            | refine exec_ret ?_
            | refine exec_true rfl ?_
            | refine exec_false rfl ?_
            | refine ops_nil ?_
            | refine ops_pl rfl rfl rfl (.bld rfl rfl rfl rfl) rfl ?_
            | refine ops_pl rfl rfl rfl (.neSelf rfl rfl rfl rfl) rfl ?_
            | refine ops_pl rfl rfl rfl (.eqSelf rfl rfl rfl rfl) rfl ?_
            | refine ops_pl rfl rfl rfl (.wr64 rfl rfl (by omega) (by omega)) rfl ?_
            | refine ops_pl rfl rfl rfl (.wr8 rfl rfl (by omega) (by omega)) rfl ?_
            | refine ops_pl rfl rfl rfl (.p rfl rfl) rfl ?_
            | refine ops_pl rfl rfl rfl (.cv64 rfl (fun _ => rfl) (by omega) (by omega)) rfl ?_
            | refine ops_pl rfl rfl rfl (.cv8 rfl (fun _ => rfl) (by omega) (by omega)) rfl ?_
            | refine ops_pl rfl rfl rfl (.l rfl (fun _ _ => rfl)) rfl ?_
            | refine ops_pl rfl rfl rfl (.l rfl (look_own 0 rfl rfl rfl rfl)) rfl ?_
            | refine ops_pl rfl rfl rfl (.l rfl (look_own 1 rfl rfl rfl rfl)) rfl ?_
            | refine ops_pl rfl rfl rfl (.l rfl (look_own 2 rfl rfl rfl rfl)) rfl ?_
            | refine ops_pl rfl rfl rfl (.l rfl (look_own 3 rfl rfl rfl rfl)) rfl ?_
            | refine ops_pl rfl rfl rfl (.l rfl (look_own 4 rfl rfl rfl rfl)) rfl ?_
            | refine ops_pl rfl rfl rfl (.l rfl (look_own 5 rfl rfl rfl rfl)) rfl ?_
            | refine ops_pl rfl rfl rfl (.l rfl (look_own 6 rfl rfl rfl rfl)) rfl ?_
            | refine ops_pl rfl rfl rfl (.l rfl (look_own 7 rfl rfl rfl rfl)) rfl ?_
            | refine ops_pl rfl rfl rfl (.l rfl (look_agg 0 rfl rfl rfl rfl)) rfl ?_
            | refine ops_pl rfl rfl rfl (.l rfl (look_agg 1 rfl rfl rfl rfl)) rfl ?_
            | refine ops_pl rfl rfl rfl (.l rfl (look_agg 2 rfl rfl rfl rfl)) rfl ?_
            | refine ops_pl rfl rfl rfl (.l rfl (look_agg 3 rfl rfl rfl rfl)) rfl ?_
            | refine ops_pl rfl rfl rfl (.l rfl (look_agg 4 rfl rfl rfl rfl)) rfl ?_
            | refine ops_pl rfl rfl rfl (.l rfl (look_agg 5 rfl rfl rfl rfl)) rfl ?_
            | refine ops_pl rfl rfl rfl (.l rfl (look_agg 6 rfl rfl rfl rfl)) rfl ?_
            | refine ops_pl rfl rfl rfl (.l rfl (look_agg 7 rfl rfl rfl rfl)) rfl ?_
            | refine ops_pl rfl rfl rfl (.l rfl (look_str 0 rfl rfl rfl rfl rfl rfl rfl)) rfl ?_
            | refine ops_pl rfl rfl rfl (.l rfl (look_str 1 rfl rfl rfl rfl rfl rfl rfl)) rfl ?_
            | refine ops_pl rfl rfl rfl (.l rfl (look_str 2 rfl rfl rfl rfl rfl rfl rfl)) rfl ?_
            | refine ops_pl rfl rfl rfl (.l rfl (look_str 3 rfl rfl rfl rfl rfl rfl rfl)) rfl ?_
            | refine ops_skip rfl rfl rfl ?_
            | (refine ops_step rfl rfl rfl ?_; first | (refine step_box rfl rfl rfl (fun _ => ?_)) | (refine step_alloc rfl rfl rfl rfl (fun _ => ?_)) | (refine step_buildSlice rfl rfl rfl rfl rfl (fun _ => ?_)) | (refine step_store 0 rfl rfl rfl rfl rfl rfl rfl rfl rfl ?_) | (refine step_store 1 rfl rfl rfl rfl rfl rfl rfl rfl rfl ?_) | (refine step_store 2 rfl rfl rfl rfl rfl rfl rfl rfl rfl ?_) | (refine step_store 3 rfl rfl rfl rfl rfl rfl rfl rfl rfl ?_) | (refine step_store 4 rfl rfl rfl rfl rfl rfl rfl rfl rfl ?_) | (refine step_store 5 rfl rfl rfl rfl rfl rfl rfl rfl rfl ?_) | (refine step_store 6 rfl rfl rfl rfl rfl rfl rfl rfl rfl ?_) | (refine step_store 7 rfl rfl rfl rfl rfl rfl rfl rfl rfl ?_)))
        first | refine ops_pl rfl rfl rfl (.rem rfl rfl rfl rfl (by omega) (tmodN (m := 0 + (n1 - r)) (by omega) (by omega))) rfl ?_ | refine draw_pl rfl rfl rfl rfl (.rem rfl rfl rfl rfl (by omega) (tmodN (m := 0 + (n1 - r)) (by omega) (by omega))) rfl rfl ?_
        generalize hjj : other.toNat % (0 + (n1 - r)) = jj
        have hjm : jj < 0 + (n1 - r) := by rw [← hjj]; exact Nat.mod_lt _ hm0
        repeat (first
            | refine exec_seq ?_
            | refine exec_region ?_
            | refine exec_block ?_
            | refine exec_skip ?_
            | refine exec_exit ?_
            | refine exec_ret ?_
            | refine exec_true rfl ?_
            | refine exec_false rfl ?_
            | refine ops_nil ?_
            | refine ops_pl rfl rfl rfl (.bld rfl rfl rfl rfl) rfl ?_
            | refine ops_pl rfl rfl rfl (.neSelf rfl rfl rfl rfl) rfl ?_
            | refine ops_pl rfl rfl rfl (.eqSelf rfl rfl rfl rfl) rfl ?_
            | refine ops_pl rfl rfl rfl (.wr64 rfl rfl (by omega) (by omega)) rfl ?_
            | refine ops_pl rfl rfl rfl (.wr8 rfl rfl (by omega) (by omega)) rfl ?_
            | refine ops_pl rfl rfl rfl (.p rfl rfl) rfl ?_
            | refine ops_pl rfl rfl rfl (.cv64 rfl (fun _ => rfl) (by omega) (by omega)) rfl ?_
            | refine ops_pl rfl rfl rfl (.cv8 rfl (fun _ => rfl) (by omega) (by omega)) rfl ?_
            | refine ops_pl rfl rfl rfl (.l rfl (fun _ _ => rfl)) rfl ?_
            | refine ops_pl rfl rfl rfl (.l rfl (look_own 0 rfl rfl rfl rfl)) rfl ?_
            | refine ops_pl rfl rfl rfl (.l rfl (look_own 1 rfl rfl rfl rfl)) rfl ?_
            | refine ops_pl rfl rfl rfl (.l rfl (look_own 2 rfl rfl rfl rfl)) rfl ?_
            | refine ops_pl rfl rfl rfl (.l rfl (look_own 3 rfl rfl rfl rfl)) rfl ?_
            | refine ops_pl rfl rfl rfl (.l rfl (look_own 4 rfl rfl rfl rfl)) rfl ?_
            | refine ops_pl rfl rfl rfl (.l rfl (look_own 5 rfl rfl rfl rfl)) rfl ?_
            | refine ops_pl rfl rfl rfl (.l rfl (look_own 6 rfl rfl rfl rfl)) rfl ?_
            | refine ops_pl rfl rfl rfl (.l rfl (look_own 7 rfl rfl rfl rfl)) rfl ?_
            | refine ops_pl rfl rfl rfl (.l rfl (look_agg 0 rfl rfl rfl rfl)) rfl ?_
            | refine ops_pl rfl rfl rfl (.l rfl (look_agg 1 rfl rfl rfl rfl)) rfl ?_
            | refine ops_pl rfl rfl rfl (.l rfl (look_agg 2 rfl rfl rfl rfl)) rfl ?_
            | refine ops_pl rfl rfl rfl (.l rfl (look_agg 3 rfl rfl rfl rfl)) rfl ?_
            | refine ops_pl rfl rfl rfl (.l rfl (look_agg 4 rfl rfl rfl rfl)) rfl ?_
            | refine ops_pl rfl rfl rfl (.l rfl (look_agg 5 rfl rfl rfl rfl)) rfl ?_
            | refine ops_pl rfl rfl rfl (.l rfl (look_agg 6 rfl rfl rfl rfl)) rfl ?_
            | refine ops_pl rfl rfl rfl (.l rfl (look_agg 7 rfl rfl rfl rfl)) rfl ?_
            | refine ops_pl rfl rfl rfl (.l rfl (look_str 0 rfl rfl rfl rfl rfl rfl rfl)) rfl ?_
            | refine ops_pl rfl rfl rfl (.l rfl (look_str 1 rfl rfl rfl rfl rfl rfl rfl)) rfl ?_
            | refine ops_pl rfl rfl rfl (.l rfl (look_str 2 rfl rfl rfl rfl rfl rfl rfl)) rfl ?_
            | refine ops_pl rfl rfl rfl (.l rfl (look_str 3 rfl rfl rfl rfl rfl rfl rfl)) rfl ?_
            | refine ops_skip rfl rfl rfl ?_
            | (refine ops_step rfl rfl rfl ?_; first | (refine step_box rfl rfl rfl (fun _ => ?_)) | (refine step_alloc rfl rfl rfl rfl (fun _ => ?_)) | (refine step_buildSlice rfl rfl rfl rfl rfl (fun _ => ?_)) | (refine step_store 0 rfl rfl rfl rfl rfl rfl rfl rfl rfl ?_) | (refine step_store 1 rfl rfl rfl rfl rfl rfl rfl rfl rfl ?_) | (refine step_store 2 rfl rfl rfl rfl rfl rfl rfl rfl rfl ?_) | (refine step_store 3 rfl rfl rfl rfl rfl rfl rfl rfl rfl ?_) | (refine step_store 4 rfl rfl rfl rfl rfl rfl rfl rfl rfl ?_) | (refine step_store 5 rfl rfl rfl rfl rfl rfl rfl rfl rfl ?_) | (refine step_store 6 rfl rfl rfl rfl rfl rfl rfl rfl rfl ?_) | (refine step_store 7 rfl rfl rfl rfl rfl rfl rfl rfl rfl ?_)))
        first | refine ops_pl rfl rfl rfl (.p rfl (opP_idxo (z := 1) rfl rfl rfl rfl (by omega) (by omega))) rfl ?_ | refine draw_pl rfl rfl rfl rfl (.p rfl (opP_idxo (z := 1) rfl rfl rfl rfl (by omega) (by omega))) rfl rfl ?_
        repeat (first
            | refine ops_pl rfl rfl rfl (.bld rfl rfl rfl rfl) rfl ?_
            | refine ops_pl rfl rfl rfl (.neSelf rfl rfl rfl rfl) rfl ?_
            | refine ops_pl rfl rfl rfl (.eqSelf rfl rfl rfl rfl) rfl ?_
            | refine ops_pl rfl rfl rfl (.wr64 rfl rfl (by omega) (by omega)) rfl ?_
            | refine ops_pl rfl rfl rfl (.wr8 rfl rfl (by omega) (by omega)) rfl ?_
            | refine ops_pl rfl rfl rfl (.p rfl rfl) rfl ?_
            | refine ops_pl rfl rfl rfl (.cv64 rfl (fun _ => rfl) (by omega) (by omega)) rfl ?_
            | refine ops_pl rfl rfl rfl (.cv8 rfl (fun _ => rfl) (by omega) (by omega)) rfl ?_
            | refine ops_pl rfl rfl rfl (.l rfl (fun _ _ => rfl)) rfl ?_
            | refine ops_pl rfl rfl rfl (.l rfl (look_own 0 rfl rfl rfl rfl)) rfl ?_
            | refine ops_pl rfl rfl rfl (.l rfl (look_own 1 rfl rfl rfl rfl)) rfl ?_
            | refine ops_pl rfl rfl rfl (.l rfl (look_own 2 rfl rfl rfl rfl)) rfl ?_
            | refine ops_pl rfl rfl rfl (.l rfl (look_own 3 rfl rfl rfl rfl)) rfl ?_
            | refine ops_pl rfl rfl rfl (.l rfl (look_own 4 rfl rfl rfl rfl)) rfl ?_
            | refine ops_pl rfl rfl rfl (.l rfl (look_own 5 rfl rfl rfl rfl)) rfl ?_
            | refine ops_pl rfl rfl rfl (.l rfl (look_own 6 rfl rfl rfl rfl)) rfl ?_
            | refine ops_pl rfl rfl rfl (.l rfl (look_own 7 rfl rfl rfl rfl)) rfl ?_
            | refine ops_pl rfl rfl rfl (.l rfl (look_agg 0 rfl rfl rfl rfl)) rfl ?_
            | refine ops_pl rfl rfl rfl (.l rfl (look_agg 1 rfl rfl rfl rfl)) rfl ?_
            | refine ops_pl rfl rfl rfl (.l rfl (look_agg 2 rfl rfl rfl rfl)) rfl ?_
            | refine ops_pl rfl rfl rfl (.l rfl (look_agg 3 rfl rfl rfl rfl)) rfl ?_
            | refine ops_pl rfl rfl rfl (.l rfl (look_agg 4 rfl rfl rfl rfl)) rfl ?_
            | refine ops_pl rfl rfl rfl (.l rfl (look_agg 5 rfl rfl rfl rfl)) rfl ?_
            | refine ops_pl rfl rfl rfl (.l rfl (look_agg 6 rfl rfl rfl rfl)) rfl ?_
            | refine ops_pl rfl rfl rfl (.l rfl (look_agg 7 rfl rfl rfl rfl)) rfl ?_
            | refine ops_pl rfl rfl rfl (.l rfl (look_str 0 rfl rfl rfl rfl rfl rfl rfl)) rfl ?_
            | refine ops_pl rfl rfl rfl (.l rfl (look_str 1 rfl rfl rfl rfl rfl rfl rfl)) rfl ?_
            | refine ops_pl rfl rfl rfl (.l rfl (look_str 2 rfl rfl rfl rfl rfl rfl rfl)) rfl ?_
            | refine ops_pl rfl rfl rfl (.l rfl (look_str 3 rfl rfl rfl rfl rfl rfl rfl)) rfl ?_
            | refine ops_skip rfl rfl rfl ?_
            | (refine ops_step rfl rfl rfl ?_; first | (refine step_box rfl rfl rfl (fun _ => ?_)) | (refine step_alloc rfl rfl rfl rfl (fun _ => ?_)) | (refine step_buildSlice rfl rfl rfl rfl rfl (fun _ => ?_)) | (refine step_store 0 rfl rfl rfl rfl rfl rfl rfl rfl rfl ?_) | (refine step_store 1 rfl rfl rfl rfl rfl rfl rfl rfl rfl ?_) | (refine step_store 2 rfl rfl rfl rfl rfl rfl rfl rfl rfl ?_) | (refine step_store 3 rfl rfl rfl rfl rfl rfl rfl rfl rfl ?_) | (refine step_store 4 rfl rfl rfl rfl rfl rfl rfl rfl rfl ?_) | (refine step_store 5 rfl rfl rfl rfl rfl rfl rfl rfl rfl ?_) | (refine step_store 6 rfl rfl rfl rfl rfl rfl rfl rfl rfl ?_) | (refine step_store 7 rfl rfl rfl rfl rfl rfl rfl rfl rfl ?_)))
        refine ops_step rfl rfl rfl (step_store' 0 rfl rfl rfl rfl rfl rfl (wrL_one rfl (by rw [hyl]; simp; omega)) ?_)
        repeat (first
            | refine exec_seq ?_
            | refine exec_region ?_
            | refine exec_block ?_
            | refine exec_skip ?_
            | refine exec_exit ?_
            | refine exec_ret ?_
            | refine exec_true rfl ?_
            | refine exec_false rfl ?_
            | refine ops_nil ?_
            | refine ops_pl rfl rfl rfl (.bld rfl rfl rfl rfl) rfl ?_
            | refine ops_pl rfl rfl rfl (.neSelf rfl rfl rfl rfl) rfl ?_
            | refine ops_pl rfl rfl rfl (.eqSelf rfl rfl rfl rfl) rfl ?_
            | refine ops_pl rfl rfl rfl (.wr64 rfl rfl (by omega) (by omega)) rfl ?_
            | refine ops_pl rfl rfl rfl (.wr8 rfl rfl (by omega) (by omega)) rfl ?_
            | refine ops_pl rfl rfl rfl (.p rfl rfl) rfl ?_
            | refine ops_pl rfl rfl rfl (.cv64 rfl (fun _ => rfl) (by omega) (by omega)) rfl ?_
            | refine ops_pl rfl rfl rfl (.cv8 rfl (fun _ => rfl) (by omega) (by omega)) rfl ?_
            | refine ops_pl rfl rfl rfl (.l rfl (fun _ _ => rfl)) rfl ?_
            | refine ops_pl rfl rfl rfl (.l rfl (look_own 0 rfl rfl rfl rfl)) rfl ?_
            | refine ops_pl rfl rfl rfl (.l rfl (look_own 1 rfl rfl rfl rfl)) rfl ?_
            | refine ops_pl rfl rfl rfl (.l rfl (look_own 2 rfl rfl rfl rfl)) rfl ?_
            | refine ops_pl rfl rfl rfl (.l rfl (look_own 3 rfl rfl rfl rfl)) rfl ?_
            | refine ops_pl rfl rfl rfl (.l rfl (look_own 4 rfl rfl rfl rfl)) rfl ?_
            | refine ops_pl rfl rfl rfl (.l rfl (look_own 5 rfl rfl rfl rfl)) rfl ?_
            | refine ops_pl rfl rfl rfl (.l rfl (look_own 6 rfl rfl rfl rfl)) rfl ?_
            | refine ops_pl rfl rfl rfl (.l rfl (look_own 7 rfl rfl rfl rfl)) rfl ?_
            | refine ops_pl rfl rfl rfl (.l rfl (look_agg 0 rfl rfl rfl rfl)) rfl ?_
            | refine ops_pl rfl rfl rfl (.l rfl (look_agg 1 rfl rfl rfl rfl)) rfl ?_
            | refine ops_pl rfl rfl rfl (.l rfl (look_agg 2 rfl rfl rfl rfl)) rfl ?_
            | refine ops_pl rfl rfl rfl (.l rfl (look_agg 3 rfl rfl rfl rfl)) rfl ?_
            | refine ops_pl rfl rfl rfl (.l rfl (look_agg 4 rfl rfl rfl rfl)) rfl ?_
            | refine ops_pl rfl rfl rfl (.l rfl (look_agg 5 rfl rfl rfl rfl)) rfl ?_
            | refine ops_pl rfl rfl rfl (.l rfl (look_agg 6 rfl rfl rfl rfl)) rfl ?_
            | refine ops_pl rfl rfl rfl (.l rfl (look_agg 7 rfl rfl rfl rfl)) rfl ?_
            | refine ops_pl rfl rfl rfl (.l rfl (look_str 0 rfl rfl rfl rfl rfl rfl rfl)) rfl ?_
            | refine ops_pl rfl rfl rfl (.l rfl (look_str 1 rfl rfl rfl rfl rfl rfl rfl)) rfl ?_
            | refine ops_pl rfl rfl rfl (.l rfl (look_str 2 rfl rfl rfl rfl rfl rfl rfl)) rfl ?_
            | refine ops_pl rfl rfl rfl (.l rfl (look_str 3 rfl rfl rfl rfl rfl rfl rfl)) rfl ?_
            | refine ops_skip rfl rfl rfl ?_
            | (refine ops_step rfl rfl rfl ?_; first | (refine step_box rfl rfl rfl (fun _ => ?_)) | (refine step_alloc rfl rfl rfl rfl (fun _ => ?_)) | (refine step_buildSlice rfl rfl rfl rfl rfl (fun _ => ?_)) | (refine step_store 0 rfl rfl rfl rfl rfl rfl rfl rfl rfl ?_) | (refine step_store 1 rfl rfl rfl rfl rfl rfl rfl rfl rfl ?_) | (refine step_store 2 rfl rfl rfl rfl rfl rfl rfl rfl rfl ?_) | (refine step_store 3 rfl rfl rfl rfl rfl rfl rfl rfl rfl ?_) | (refine step_store 4 rfl rfl rfl rfl rfl rfl rfl rfl rfl ?_) | (refine step_store 5 rfl rfl rfl rfl rfl rfl rfl rfl rfl ?_) | (refine step_store 6 rfl rfl rfl rfl rfl rfl rfl rfl rfl ?_) | (refine step_store 7 rfl rfl rfl rfl rfl rfl rfl rfl rfl ?_)))
        refine ⟨_, _, _, _, (lx.take (n1 - r)).set jj [122], ?_, .own (b := yb) (ver := yv) (n := 0 + (n1 - r)) ?_, ⟨rfl, rfl, rfl, rfl, rfl, rfl, rfl, rfl, rfl, rfl, trivial⟩, ?_⟩
        · omega
        · simp; omega
        · have e : 0 + ((jj : Nat) : Int).toNat * 1 = jj := by simp
          rw [List.map_set, e]
          exact .refl _
  rintro E L ⟨m, c3, a3, p3, ly, hm, own3, hE, hL⟩
  refine ExecS.weak hE hL ?_
  repeat (first
      | refine exec_seq ?_
      | refine exec_region ?_
      | refine exec_block ?_
      | refine exec_skip ?_
      | refine exec_exit ?_
      | refine exec_ret ?_
      | refine exec_true rfl ?_
      | refine exec_false rfl ?_
      | refine ops_nil ?_
      | refine ops_pl rfl rfl rfl (.bld rfl rfl rfl rfl) rfl ?_
      | refine ops_pl rfl rfl rfl (.neSelf rfl rfl rfl rfl) rfl ?_
      | refine ops_pl rfl rfl rfl (.eqSelf rfl rfl rfl rfl) rfl ?_
      | refine ops_pl rfl rfl rfl (.wr64 rfl rfl (by omega) (by omega)) rfl ?_
      | refine ops_pl rfl rfl rfl (.wr8 rfl rfl (by omega) (by omega)) rfl ?_
      | refine ops_pl rfl rfl rfl (.p rfl rfl) rfl ?_
      | refine ops_pl rfl rfl rfl (.cv64 rfl (fun _ => rfl) (by omega) (by omega)) rfl ?_
      | refine ops_pl rfl rfl rfl (.cv8 rfl (fun _ => rfl) (by omega) (by omega)) rfl ?_
      | refine ops_pl rfl rfl rfl (.l rfl (fun _ _ => rfl)) rfl ?_
      | refine ops_pl rfl rfl rfl (.l rfl (look_own 0 rfl rfl rfl rfl)) rfl ?_
      | refine ops_pl rfl rfl rfl (.l rfl (look_own 1 rfl rfl rfl rfl)) rfl ?_
      | refine ops_pl rfl rfl rfl (.l rfl (look_own 2 rfl rfl rfl rfl)) rfl ?_
      | refine ops_pl rfl rfl rfl (.l rfl (look_own 3 rfl rfl rfl rfl)) rfl ?_
      | refine ops_pl rfl rfl rfl (.l rfl (look_own 4 rfl rfl rfl rfl)) rfl ?_
      | refine ops_pl rfl rfl rfl (.l rfl (look_own 5 rfl rfl rfl rfl)) rfl ?_
      | refine ops_pl rfl rfl rfl (.l rfl (look_own 6 rfl rfl rfl rfl)) rfl ?_
      | refine ops_pl rfl rfl rfl (.l rfl (look_own 7 rfl rfl rfl rfl)) rfl ?_
      | refine ops_pl rfl rfl rfl (.l rfl (look_agg 0 rfl rfl rfl rfl)) rfl ?_
      | refine ops_pl rfl rfl rfl (.l rfl (look_agg 1 rfl rfl rfl rfl)) rfl ?_
      | refine ops_pl rfl rfl rfl (.l rfl (look_agg 2 rfl rfl rfl rfl)) rfl ?_
      | refine ops_pl rfl rfl rfl (.l rfl (look_agg 3 rfl rfl rfl rfl)) rfl ?_
      | refine ops_pl rfl rfl rfl (.l rfl (look_agg 4 rfl rfl rfl rfl)) rfl ?_
      | refine ops_pl rfl rfl rfl (.l rfl (look_agg 5 rfl rfl rfl rfl)) rfl ?_
      | refine ops_pl rfl rfl rfl (.l rfl (look_agg 6 rfl rfl rfl rfl)) rfl ?_
      | refine ops_pl rfl rfl rfl (.l rfl (look_agg 7 rfl rfl rfl rfl)) rfl ?_
      | refine ops_pl rfl rfl rfl (.l rfl (look_str 0 rfl rfl rfl rfl rfl rfl rfl)) rfl ?_
      | refine ops_pl rfl rfl rfl (.l rfl (look_str 1 rfl rfl rfl rfl rfl rfl rfl)) rfl ?_
      | refine ops_pl rfl rfl rfl (.l rfl (look_str 2 rfl rfl rfl rfl rfl rfl rfl)) rfl ?_
      | refine ops_pl rfl rfl rfl (.l rfl (look_str 3 rfl rfl rfl rfl rfl rfl rfl)) rfl ?_
      | refine ops_skip rfl rfl rfl ?_
      | (refine ops_step rfl rfl rfl ?_; first | (refine step_box rfl rfl rfl (fun _ => ?_)) | (refine step_alloc rfl rfl rfl rfl (fun _ => ?_)) | (refine step_buildSlice rfl rfl rfl rfl rfl (fun _ => ?_)) | (refine step_store 0 rfl rfl rfl rfl rfl rfl rfl rfl rfl ?_) | (refine step_store 1 rfl rfl rfl rfl rfl rfl rfl rfl rfl ?_) | (refine step_store 2 rfl rfl rfl rfl rfl rfl rfl rfl rfl ?_) | (refine step_store 3 rfl rfl rfl rfl rfl rfl rfl rfl rfl ?_) | (refine step_store 4 rfl rfl rfl rfl rfl rfl rfl rfl rfl ?_) | (refine step_store 5 rfl rfl rfl rfl rfl rfl rfl rfl rfl ?_) | (refine step_store 6 rfl rfl rfl rfl rfl rfl rfl rfl rfl ?_) | (refine step_store 7 rfl rfl rfl rfl rfl rfl rfl rfl rfl ?_)))
  rename_i bp bq bx
  generalize IntKind.i64.wrap (k.tmod 7) = ep
  generalize IntKind.i64.wrap ((IntKind.u8.wrap (k.tdiv 7)).tmod 3) = kp
  generalize IntKind.i64.wrap (j.tmod 7) = eq
  generalize IntKind.i64.wrap ((IntKind.u8.wrap (j.tdiv 7)).tmod 3) = kq
  have hC : ∀ i : Nat, i < 3 → ∃ (a : Option Addr) (n c : Nat) (e k s h d : Int) (ll : List (List UInt8)), rdL [.slice aa na ca, .int .i64 ea, .int .i64 ka, .int .i64 sa, .int .i64 ha', .int .i64 da, .slice a1 n1 c1, .int .i64 ep, .int .i64 kp, .int .i64 0, .int .i64 0, .int .i64 0, .slice a3 m c3, .int .i64 eq, .int .i64 kq, .int .i64 9, .int .i64 3, .int .i64 0] 6 (0 + ((i : Nat) : Int).toNat * 6) = some [.slice a n c, .int .i64 e, .int .i64 k, .int .i64 s, .int .i64 h, .int .i64 d] ∧ n ≤ 1073741824 ∧
      ∀ (L : Atoms) H, p1 ∈ L → p3 ∈ L → St [] Heap.empty H L → Sl O H (.slice a n c) 1 n (ll.map str) := by
    intro i hi
    rcases (show i = 0 ∨ i = 1 ∨ i = 2 by omega) with rfl | rfl | rfl
    · exact ⟨_, _, _, _, _, _, _, _, la, rfl, by omega, fun L H _ _ _ => ha H⟩
    · exact ⟨_, _, _, _, _, _, _, _, lx, rfl, by omega, fun L H h1 _ hs => own1.slM hs h1⟩
    · exact ⟨_, _, _, _, _, _, _, _, ly, rfl, by omega, fun L H _ h3 hs => own3.slM hs h3⟩
  have hD : ∀ i : Nat, i < 3 → ∃ (a : Option Addr) (n c : Nat) (e k s h d : Int) (ll : List (List UInt8)), rdL [.slice ab nb cb, .int .i64 eb, .int .i64 kb, .int .i64 sb, .int .i64 hb', .int .i64 db, .slice a1 n1 c1, .int .i64 ep, .int .i64 kp, .int .i64 0, .int .i64 0, .int .i64 0, .slice a3 m c3, .int .i64 eq, .int .i64 kq, .int .i64 9, .int .i64 3, .int .i64 0] 6 (0 + ((i : Nat) : Int).toNat * 6) = some [.slice a n c, .int .i64 e, .int .i64 k, .int .i64 s, .int .i64 h, .int .i64 d] ∧ n ≤ 1073741824 ∧
      ∀ (L : Atoms) H, p1 ∈ L → p3 ∈ L → St [] Heap.empty H L → Sl O H (.slice a n c) 1 n (ll.map str) := by
    intro i hi
    rcases (show i = 0 ∨ i = 1 ∨ i = 2 by omega) with rfl | rfl | rfl
    · exact ⟨_, _, _, _, _, _, _, _, lb, rfl, by omega, fun L H _ _ _ => hb H⟩
    · exact ⟨_, _, _, _, _, _, _, _, lx, rfl, by omega, fun L H h1 _ hs => own1.slM hs h1⟩
    · exact ⟨_, _, _, _, _, _, _, _, ly, rfl, by omega, fun L H _ h3 hs => own3.slM hs h3⟩
  generalize hgC : [Value.slice aa na ca, .int .i64 ea, .int .i64 ka, .int .i64 sa, .int .i64 ha', .int .i64 da, .slice a1 n1 c1, .int .i64 ep, .int .i64 kp, .int .i64 0, .int .i64 0, .int .i64 0, .slice a3 m c3, .int .i64 eq, .int .i64 kq, .int .i64 9, .int .i64 3, .int .i64 0] = C1 at hC
  refine ExecS.weak (E' := [(8, .pointer (some ⟨b8, 0, some 0⟩)), (18, .pointer (some ⟨bp, 0, some 0⟩)), (19, .pointer (some ⟨bq, 0, some 0⟩)), (107, .slice (some ⟨bx, 0, some 0⟩) 3 3), (108, .int .i64 ((3 : Nat) : Int)), (109, .int .i64 ((0 : Nat) : Int))]) ⟨rfl, rfl, rfl, rfl, rfl, rfl, trivial⟩ (.refl _) ?_
  refine exec_loop (fun q E L => ∃ i : Nat, i + q = 3 ∧ E = [(8, .pointer (some ⟨b8, 0, some 0⟩)), (18, .pointer (some ⟨bp, 0, some 0⟩)), (19, .pointer (some ⟨bq, 0, some 0⟩)), (107, .slice (some ⟨bx, 0, some 0⟩) 3 3), (108, .int .i64 ((3 : Nat) : Int)), (109, .int .i64 (i : Int))] ∧ L = [(some bx, .cells 0 C1 Try.t24.size 24), (some bq, .cells 0 [.slice a3 m c3, .int .i64 eq, .int .i64 kq, .int .i64 9, .int .i64 3, .int .i64 0] 0 24), (some bp, .cells 0 [.slice a1 n1 c1, .int .i64 ep, .int .i64 kp, .int .i64 0, .int .i64 0, .int .i64 0] 0 24), p3, p1, (some b8, .cells 0 [.slice ab nb cb, .int .i64 eb, .int .i64 kb, .int .i64 sb, .int .i64 hb', .int .i64 db] 0 24), (some b7, .cells 0 [.slice aa na ca, .int .i64 ea, .int .i64 ka, .int .i64 sa, .int .i64 ha', .int .i64 da] 0 24)]) ?_ 3 _ _ ⟨0, rfl, rfl, rfl⟩
  rintro q E L ⟨i, hiq, rfl, rfl⟩
  repeat (first
      | refine exec_seq ?_
      | refine exec_region ?_
      | refine exec_block ?_
      | refine exec_skip ?_
      | refine exec_exit ?_
      | refine exec_ret ?_
      | refine exec_true rfl ?_
      | refine exec_false rfl ?_
      | refine ops_nil ?_
      | refine ops_pl rfl rfl rfl (.bld rfl rfl rfl rfl) rfl ?_
      | refine ops_pl rfl rfl rfl (.neSelf rfl rfl rfl rfl) rfl ?_
      | refine ops_pl rfl rfl rfl (.eqSelf rfl rfl rfl rfl) rfl ?_
      | refine ops_pl rfl rfl rfl (.wr64 rfl rfl (by omega) (by omega)) rfl ?_
      | refine ops_pl rfl rfl rfl (.wr8 rfl rfl (by omega) (by omega)) rfl ?_
      | refine ops_pl rfl rfl rfl (.p rfl rfl) rfl ?_
      | refine ops_pl rfl rfl rfl (.cv64 rfl (fun _ => rfl) (by omega) (by omega)) rfl ?_
      | refine ops_pl rfl rfl rfl (.cv8 rfl (fun _ => rfl) (by omega) (by omega)) rfl ?_
      | refine ops_pl rfl rfl rfl (.l rfl (fun _ _ => rfl)) rfl ?_
      | refine ops_pl rfl rfl rfl (.l rfl (look_own 0 rfl rfl rfl rfl)) rfl ?_
      | refine ops_pl rfl rfl rfl (.l rfl (look_own 1 rfl rfl rfl rfl)) rfl ?_
      | refine ops_pl rfl rfl rfl (.l rfl (look_own 2 rfl rfl rfl rfl)) rfl ?_
      | refine ops_pl rfl rfl rfl (.l rfl (look_own 3 rfl rfl rfl rfl)) rfl ?_
      | refine ops_pl rfl rfl rfl (.l rfl (look_own 4 rfl rfl rfl rfl)) rfl ?_
      | refine ops_pl rfl rfl rfl (.l rfl (look_own 5 rfl rfl rfl rfl)) rfl ?_
      | refine ops_pl rfl rfl rfl (.l rfl (look_own 6 rfl rfl rfl rfl)) rfl ?_
      | refine ops_pl rfl rfl rfl (.l rfl (look_own 7 rfl rfl rfl rfl)) rfl ?_
      | refine ops_pl rfl rfl rfl (.l rfl (look_agg 0 rfl rfl rfl rfl)) rfl ?_
      | refine ops_pl rfl rfl rfl (.l rfl (look_agg 1 rfl rfl rfl rfl)) rfl ?_
      | refine ops_pl rfl rfl rfl (.l rfl (look_agg 2 rfl rfl rfl rfl)) rfl ?_
      | refine ops_pl rfl rfl rfl (.l rfl (look_agg 3 rfl rfl rfl rfl)) rfl ?_
      | refine ops_pl rfl rfl rfl (.l rfl (look_agg 4 rfl rfl rfl rfl)) rfl ?_
      | refine ops_pl rfl rfl rfl (.l rfl (look_agg 5 rfl rfl rfl rfl)) rfl ?_
      | refine ops_pl rfl rfl rfl (.l rfl (look_agg 6 rfl rfl rfl rfl)) rfl ?_
      | refine ops_pl rfl rfl rfl (.l rfl (look_agg 7 rfl rfl rfl rfl)) rfl ?_
      | refine ops_pl rfl rfl rfl (.l rfl (look_str 0 rfl rfl rfl rfl rfl rfl rfl)) rfl ?_
      | refine ops_pl rfl rfl rfl (.l rfl (look_str 1 rfl rfl rfl rfl rfl rfl rfl)) rfl ?_
      | refine ops_pl rfl rfl rfl (.l rfl (look_str 2 rfl rfl rfl rfl rfl rfl rfl)) rfl ?_
      | refine ops_pl rfl rfl rfl (.l rfl (look_str 3 rfl rfl rfl rfl rfl rfl rfl)) rfl ?_
      | refine ops_skip rfl rfl rfl ?_
      | (refine ops_step rfl rfl rfl ?_; first | (refine step_box rfl rfl rfl (fun _ => ?_)) | (refine step_alloc rfl rfl rfl rfl (fun _ => ?_)) | (refine step_buildSlice rfl rfl rfl rfl rfl (fun _ => ?_)) | (refine step_store 0 rfl rfl rfl rfl rfl rfl rfl rfl rfl ?_) | (refine step_store 1 rfl rfl rfl rfl rfl rfl rfl rfl rfl ?_) | (refine step_store 2 rfl rfl rfl rfl rfl rfl rfl rfl rfl ?_) | (refine step_store 3 rfl rfl rfl rfl rfl rfl rfl rfl rfl ?_) | (refine step_store 4 rfl rfl rfl rfl rfl rfl rfl rfl rfl ?_) | (refine step_store 5 rfl rfl rfl rfl rfl rfl rfl rfl rfl ?_) | (refine step_store 6 rfl rfl rfl rfl rfl rfl rfl rfl rfl ?_) | (refine step_store 7 rfl rfl rfl rfl rfl rfl rfl rfl rfl ?_)))
  refine exec_cond rfl (fun hlt => ?_) (fun hge => ?_)
  rotate_left
  · repeat (first
        | refine exec_seq ?_
        | refine exec_region ?_
        | refine exec_block ?_
        | refine exec_skip ?_
        | refine exec_exit ?_
        | refine exec_ret ?_
        | refine exec_true rfl ?_
        | refine exec_false rfl ?_
        | refine ops_nil ?_
        | refine ops_pl rfl rfl rfl (.bld rfl rfl rfl rfl) rfl ?_
        | refine ops_pl rfl rfl rfl (.neSelf rfl rfl rfl rfl) rfl ?_
        | refine ops_pl rfl rfl rfl (.eqSelf rfl rfl rfl rfl) rfl ?_
        | refine ops_pl rfl rfl rfl (.wr64 rfl rfl (by omega) (by omega)) rfl ?_
        | refine ops_pl rfl rfl rfl (.wr8 rfl rfl (by omega) (by omega)) rfl ?_
        | refine ops_pl rfl rfl rfl (.p rfl rfl) rfl ?_
        | refine ops_pl rfl rfl rfl (.cv64 rfl (fun _ => rfl) (by omega) (by omega)) rfl ?_
        | refine ops_pl rfl rfl rfl (.cv8 rfl (fun _ => rfl) (by omega) (by omega)) rfl ?_
        | refine ops_pl rfl rfl rfl (.l rfl (fun _ _ => rfl)) rfl ?_
        | refine ops_pl rfl rfl rfl (.l rfl (look_own 0 rfl rfl rfl rfl)) rfl ?_
        | refine ops_pl rfl rfl rfl (.l rfl (look_own 1 rfl rfl rfl rfl)) rfl ?_
        | refine ops_pl rfl rfl rfl (.l rfl (look_own 2 rfl rfl rfl rfl)) rfl ?_
        | refine ops_pl rfl rfl rfl (.l rfl (look_own 3 rfl rfl rfl rfl)) rfl ?_
        | refine ops_pl rfl rfl rfl (.l rfl (look_own 4 rfl rfl rfl rfl)) rfl ?_
        | refine ops_pl rfl rfl rfl (.l rfl (look_own 5 rfl rfl rfl rfl)) rfl ?_
        | refine ops_pl rfl rfl rfl (.l rfl (look_own 6 rfl rfl rfl rfl)) rfl ?_
        | refine ops_pl rfl rfl rfl (.l rfl (look_own 7 rfl rfl rfl rfl)) rfl ?_
        | refine ops_pl rfl rfl rfl (.l rfl (look_agg 0 rfl rfl rfl rfl)) rfl ?_
        | refine ops_pl rfl rfl rfl (.l rfl (look_agg 1 rfl rfl rfl rfl)) rfl ?_
        | refine ops_pl rfl rfl rfl (.l rfl (look_agg 2 rfl rfl rfl rfl)) rfl ?_
        | refine ops_pl rfl rfl rfl (.l rfl (look_agg 3 rfl rfl rfl rfl)) rfl ?_
        | refine ops_pl rfl rfl rfl (.l rfl (look_agg 4 rfl rfl rfl rfl)) rfl ?_
        | refine ops_pl rfl rfl rfl (.l rfl (look_agg 5 rfl rfl rfl rfl)) rfl ?_
        | refine ops_pl rfl rfl rfl (.l rfl (look_agg 6 rfl rfl rfl rfl)) rfl ?_
        | refine ops_pl rfl rfl rfl (.l rfl (look_agg 7 rfl rfl rfl rfl)) rfl ?_
        | refine ops_pl rfl rfl rfl (.l rfl (look_str 0 rfl rfl rfl rfl rfl rfl rfl)) rfl ?_
        | refine ops_pl rfl rfl rfl (.l rfl (look_str 1 rfl rfl rfl rfl rfl rfl rfl)) rfl ?_
        | refine ops_pl rfl rfl rfl (.l rfl (look_str 2 rfl rfl rfl rfl rfl rfl rfl)) rfl ?_
        | refine ops_pl rfl rfl rfl (.l rfl (look_str 3 rfl rfl rfl rfl rfl rfl rfl)) rfl ?_
        | refine ops_skip rfl rfl rfl ?_
        | (refine ops_step rfl rfl rfl ?_; first | (refine step_box rfl rfl rfl (fun _ => ?_)) | (refine step_alloc rfl rfl rfl rfl (fun _ => ?_)) | (refine step_buildSlice rfl rfl rfl rfl rfl (fun _ => ?_)) | (refine step_store 0 rfl rfl rfl rfl rfl rfl rfl rfl rfl ?_) | (refine step_store 1 rfl rfl rfl rfl rfl rfl rfl rfl rfl ?_) | (refine step_store 2 rfl rfl rfl rfl rfl rfl rfl rfl rfl ?_) | (refine step_store 3 rfl rfl rfl rfl rfl rfl rfl rfl rfl ?_) | (refine step_store 4 rfl rfl rfl rfl rfl rfl rfl rfl rfl ?_) | (refine step_store 5 rfl rfl rfl rfl rfl rfl rfl rfl rfl ?_) | (refine step_store 6 rfl rfl rfl rfl rfl rfl rfl rfl rfl ?_) | (refine step_store 7 rfl rfl rfl rfl rfl rfl rfl rfl rfl ?_)))
    exact ⟨trivial, _, rfl, rfl⟩
  have hi : i < 3 := by simp at hlt; omega
  obtain ⟨ax, nx, cx, ex, kx, sx, hx, dx, lcx, hrd, hnx, hslx⟩ := hC i hi
  repeat (first
      | refine exec_seq ?_
      | refine exec_region ?_
      | refine exec_block ?_
      | refine exec_skip ?_
      | refine exec_exit ?_
      | refine exec_ret ?_
      | refine exec_true rfl ?_
      | refine exec_false rfl ?_
      | refine ops_nil ?_
      | refine ops_pl rfl rfl rfl (.bld rfl rfl rfl rfl) rfl ?_
      | refine ops_pl rfl rfl rfl (.neSelf rfl rfl rfl rfl) rfl ?_
      | refine ops_pl rfl rfl rfl (.eqSelf rfl rfl rfl rfl) rfl ?_
      | refine ops_pl rfl rfl rfl (.wr64 rfl rfl (by omega) (by omega)) rfl ?_
      | refine ops_pl rfl rfl rfl (.wr8 rfl rfl (by omega) (by omega)) rfl ?_
      | refine ops_pl rfl rfl rfl (.p rfl rfl) rfl ?_
      | refine ops_pl rfl rfl rfl (.cv64 rfl (fun _ => rfl) (by omega) (by omega)) rfl ?_
      | refine ops_pl rfl rfl rfl (.cv8 rfl (fun _ => rfl) (by omega) (by omega)) rfl ?_
      | refine ops_pl rfl rfl rfl (.l rfl (fun _ _ => rfl)) rfl ?_
      | refine ops_pl rfl rfl rfl (.l rfl (look_own 0 rfl rfl rfl rfl)) rfl ?_
      | refine ops_pl rfl rfl rfl (.l rfl (look_own 1 rfl rfl rfl rfl)) rfl ?_
      | refine ops_pl rfl rfl rfl (.l rfl (look_own 2 rfl rfl rfl rfl)) rfl ?_
      | refine ops_pl rfl rfl rfl (.l rfl (look_own 3 rfl rfl rfl rfl)) rfl ?_
      | refine ops_pl rfl rfl rfl (.l rfl (look_own 4 rfl rfl rfl rfl)) rfl ?_
      | refine ops_pl rfl rfl rfl (.l rfl (look_own 5 rfl rfl rfl rfl)) rfl ?_
      | refine ops_pl rfl rfl rfl (.l rfl (look_own 6 rfl rfl rfl rfl)) rfl ?_
      | refine ops_pl rfl rfl rfl (.l rfl (look_own 7 rfl rfl rfl rfl)) rfl ?_
      | refine ops_pl rfl rfl rfl (.l rfl (look_agg 0 rfl rfl rfl rfl)) rfl ?_
      | refine ops_pl rfl rfl rfl (.l rfl (look_agg 1 rfl rfl rfl rfl)) rfl ?_
      | refine ops_pl rfl rfl rfl (.l rfl (look_agg 2 rfl rfl rfl rfl)) rfl ?_
      | refine ops_pl rfl rfl rfl (.l rfl (look_agg 3 rfl rfl rfl rfl)) rfl ?_
      | refine ops_pl rfl rfl rfl (.l rfl (look_agg 4 rfl rfl rfl rfl)) rfl ?_
      | refine ops_pl rfl rfl rfl (.l rfl (look_agg 5 rfl rfl rfl rfl)) rfl ?_
      | refine ops_pl rfl rfl rfl (.l rfl (look_agg 6 rfl rfl rfl rfl)) rfl ?_
      | refine ops_pl rfl rfl rfl (.l rfl (look_agg 7 rfl rfl rfl rfl)) rfl ?_
      | refine ops_pl rfl rfl rfl (.l rfl (look_str 0 rfl rfl rfl rfl rfl rfl rfl)) rfl ?_
      | refine ops_pl rfl rfl rfl (.l rfl (look_str 1 rfl rfl rfl rfl rfl rfl rfl)) rfl ?_
      | refine ops_pl rfl rfl rfl (.l rfl (look_str 2 rfl rfl rfl rfl rfl rfl rfl)) rfl ?_
      | refine ops_pl rfl rfl rfl (.l rfl (look_str 3 rfl rfl rfl rfl rfl rfl rfl)) rfl ?_
      | refine ops_skip rfl rfl rfl ?_
      | (refine ops_step rfl rfl rfl ?_; first | (refine step_box rfl rfl rfl (fun _ => ?_)) | (refine step_alloc rfl rfl rfl rfl (fun _ => ?_)) | (refine step_buildSlice rfl rfl rfl rfl rfl (fun _ => ?_)) | (refine step_store 0 rfl rfl rfl rfl rfl rfl rfl rfl rfl ?_) | (refine step_store 1 rfl rfl rfl rfl rfl rfl rfl rfl rfl ?_) | (refine step_store 2 rfl rfl rfl rfl rfl rfl rfl rfl rfl ?_) | (refine step_store 3 rfl rfl rfl rfl rfl rfl rfl rfl rfl ?_) | (refine step_store 4 rfl rfl rfl rfl rfl rfl rfl rfl rfl ?_) | (refine step_store 5 rfl rfl rfl rfl rfl rfl rfl rfl rfl ?_) | (refine step_store 6 rfl rfl rfl rfl rfl rfl rfl rfl rfl ?_) | (refine step_store 7 rfl rfl rfl rfl rfl rfl rfl rfl rfl ?_)))
  first | refine ops_pl rfl rfl rfl (.p rfl (opP_idxo (z := 6) rfl rfl rfl rfl (by omega) (by omega))) rfl ?_ | refine draw_pl rfl rfl rfl rfl (.p rfl (opP_idxo (z := 6) rfl rfl rfl rfl (by omega) (by omega))) rfl rfl ?_
  first | refine ops_pl rfl rfl rfl (.l rfl (look_agg 0 rfl rfl rfl hrd)) rfl ?_ | refine draw_pl rfl rfl rfl rfl (.l rfl (look_agg 0 rfl rfl rfl hrd)) rfl rfl ?_
  repeat (first
      | refine exec_seq ?_
      | refine exec_region ?_
      | refine exec_block ?_
      | refine exec_skip ?_
      | refine exec_exit ?_
      | refine exec_ret ?_
      | refine exec_true rfl ?_
      | refine exec_false rfl ?_
      | refine ops_nil ?_
      | refine ops_pl rfl rfl rfl (.bld rfl rfl rfl rfl) rfl ?_
      | refine ops_pl rfl rfl rfl (.neSelf rfl rfl rfl rfl) rfl ?_
      | refine ops_pl rfl rfl rfl (.eqSelf rfl rfl rfl rfl) rfl ?_
      | refine ops_pl rfl rfl rfl (.wr64 rfl rfl (by omega) (by omega)) rfl ?_
      | refine ops_pl rfl rfl rfl (.wr8 rfl rfl (by omega) (by omega)) rfl ?_
      | refine ops_pl rfl rfl rfl (.p rfl rfl) rfl ?_
      | refine ops_pl rfl rfl rfl (.cv64 rfl (fun _ => rfl) (by omega) (by omega)) rfl ?_
      | refine ops_pl rfl rfl rfl (.cv8 rfl (fun _ => rfl) (by omega) (by omega)) rfl ?_
      | refine ops_pl rfl rfl rfl (.l rfl (fun _ _ => rfl)) rfl ?_
      | refine ops_pl rfl rfl rfl (.l rfl (look_own 0 rfl rfl rfl rfl)) rfl ?_
      | refine ops_pl rfl rfl rfl (.l rfl (look_own 1 rfl rfl rfl rfl)) rfl ?_
      | refine ops_pl rfl rfl rfl (.l rfl (look_own 2 rfl rfl rfl rfl)) rfl ?_
      | refine ops_pl rfl rfl rfl (.l rfl (look_own 3 rfl rfl rfl rfl)) rfl ?_
      | refine ops_pl rfl rfl rfl (.l rfl (look_own 4 rfl rfl rfl rfl)) rfl ?_
      | refine ops_pl rfl rfl rfl (.l rfl (look_own 5 rfl rfl rfl rfl)) rfl ?_
      | refine ops_pl rfl rfl rfl (.l rfl (look_own 6 rfl rfl rfl rfl)) rfl ?_
      | refine ops_pl rfl rfl rfl (.l rfl (look_own 7 rfl rfl rfl rfl)) rfl ?_
      | refine ops_pl rfl rfl rfl (.l rfl (look_agg 0 rfl rfl rfl rfl)) rfl ?_
      | refine ops_pl rfl rfl rfl (.l rfl (look_agg 1 rfl rfl rfl rfl)) rfl ?_
      | refine ops_pl rfl rfl rfl (.l rfl (look_agg 2 rfl rfl rfl rfl)) rfl ?_
      | refine ops_pl rfl rfl rfl (.l rfl (look_agg 3 rfl rfl rfl rfl)) rfl ?_
      | refine ops_pl rfl rfl rfl (.l rfl (look_agg 4 rfl rfl rfl rfl)) rfl ?_
      | refine ops_pl rfl rfl rfl (.l rfl (look_agg 5 rfl rfl rfl rfl)) rfl ?_
      | refine ops_pl rfl rfl rfl (.l rfl (look_agg 6 rfl rfl rfl rfl)) rfl ?_
      | refine ops_pl rfl rfl rfl (.l rfl (look_agg 7 rfl rfl rfl rfl)) rfl ?_
      | refine ops_pl rfl rfl rfl (.l rfl (look_str 0 rfl rfl rfl rfl rfl rfl rfl)) rfl ?_
      | refine ops_pl rfl rfl rfl (.l rfl (look_str 1 rfl rfl rfl rfl rfl rfl rfl)) rfl ?_
      | refine ops_pl rfl rfl rfl (.l rfl (look_str 2 rfl rfl rfl rfl rfl rfl rfl)) rfl ?_
      | refine ops_pl rfl rfl rfl (.l rfl (look_str 3 rfl rfl rfl rfl rfl rfl rfl)) rfl ?_
      | refine ops_skip rfl rfl rfl ?_
      | (refine ops_step rfl rfl rfl ?_; first | (refine step_box rfl rfl rfl (fun _ => ?_)) | (refine step_alloc rfl rfl rfl rfl (fun _ => ?_)) | (refine step_buildSlice rfl rfl rfl rfl rfl (fun _ => ?_)) | (refine step_store 0 rfl rfl rfl rfl rfl rfl rfl rfl rfl ?_) | (refine step_store 1 rfl rfl rfl rfl rfl rfl rfl rfl rfl ?_) | (refine step_store 2 rfl rfl rfl rfl rfl rfl rfl rfl rfl ?_) | (refine step_store 3 rfl rfl rfl rfl rfl rfl rfl rfl rfl ?_) | (refine step_store 4 rfl rfl rfl rfl rfl rfl rfl rfl rfl ?_) | (refine step_store 5 rfl rfl rfl rfl rfl rfl rfl rfl rfl ?_) | (refine step_store 6 rfl rfl rfl rfl rfl rfl rfl rfl rfl ?_) | (refine step_store 7 rfl rfl rfl rfl rfl rfl rfl rfl rfl ?_)))
  rename_i bt by_
  generalize hgD : [Value.slice ab nb cb, .int .i64 eb, .int .i64 kb, .int .i64 sb, .int .i64 hb', .int .i64 db, .slice a1 n1 c1, .int .i64 ep, .int .i64 kp, .int .i64 0, .int .i64 0, .int .i64 0, .slice a3 m c3, .int .i64 eq, .int .i64 kq, .int .i64 9, .int .i64 3, .int .i64 0] = D1 at hD
  refine ExecS.weak (E' := [(8, .pointer (some ⟨b8, 0, some 0⟩)), (18, .pointer (some ⟨bp, 0, some 0⟩)), (19, .pointer (some ⟨bq, 0, some 0⟩)), (107, .slice (some ⟨bx, 0, some 0⟩) 3 3), (108, .int .i64 ((3 : Nat) : Int)), (109, .int .i64 (i : Int)), (21, .pointer (some ⟨bt, 0, some 0⟩)), (116, .slice (some ⟨by_, 0, some 0⟩) 3 3), (117, .int .i64 ((3 : Nat) : Int)), (118, .int .i64 ((0 : Nat) : Int))]) ⟨rfl, rfl, rfl, rfl, rfl, rfl, rfl, rfl, rfl, rfl, trivial⟩ (.refl _) ?_
  refine exec_loop (fun q' E L => ∃ i' : Nat, i' + q' = 3 ∧ E = [(8, .pointer (some ⟨b8, 0, some 0⟩)), (18, .pointer (some ⟨bp, 0, some 0⟩)), (19, .pointer (some ⟨bq, 0, some 0⟩)), (107, .slice (some ⟨bx, 0, some 0⟩) 3 3), (108, .int .i64 ((3 : Nat) : Int)), (109, .int .i64 (i : Int)), (21, .pointer (some ⟨bt, 0, some 0⟩)), (116, .slice (some ⟨by_, 0, some 0⟩) 3 3), (117, .int .i64 ((3 : Nat) : Int)), (118, .int .i64 (i' : Int))] ∧ L = [(some by_, .cells 0 D1 Try.t24.size 24), (some bt, .cells 0 [.slice ax nx cx, .int .i64 ex, .int .i64 kx, .int .i64 sx, .int .i64 hx, .int .i64 dx] 0 24), (some bx, .cells 0 C1 Try.t24.size 24), (some bq, .cells 0 [.slice a3 m c3, .int .i64 eq, .int .i64 kq, .int .i64 9, .int .i64 3, .int .i64 0] 0 24), (some bp, .cells 0 [.slice a1 n1 c1, .int .i64 ep, .int .i64 kp, .int .i64 0, .int .i64 0, .int .i64 0] 0 24), p3, p1, (some b8, .cells 0 [.slice ab nb cb, .int .i64 eb, .int .i64 kb, .int .i64 sb, .int .i64 hb', .int .i64 db] 0 24), (some b7, .cells 0 [.slice aa na ca, .int .i64 ea, .int .i64 ka, .int .i64 sa, .int .i64 ha', .int .i64 da] 0 24)]) ?_ 3 _ _ ⟨0, rfl, rfl, rfl⟩
  rintro q' E L ⟨i', hiq', rfl, rfl⟩
  repeat (first
      | refine exec_seq ?_
      | refine exec_region ?_
      | refine exec_block ?_
      | refine exec_skip ?_
      | refine exec_exit ?_
      | refine exec_ret ?_
      | refine exec_true rfl ?_
      | refine exec_false rfl ?_
      | refine ops_nil ?_
      | refine ops_pl rfl rfl rfl (.bld rfl rfl rfl rfl) rfl ?_
      | refine ops_pl rfl rfl rfl (.neSelf rfl rfl rfl rfl) rfl ?_
      | refine ops_pl rfl rfl rfl (.eqSelf rfl rfl rfl rfl) rfl ?_
      | refine ops_pl rfl rfl rfl (.wr64 rfl rfl (by omega) (by omega)) rfl ?_
      | refine ops_pl rfl rfl rfl (.wr8 rfl rfl (by omega) (by omega)) rfl ?_
      | refine ops_pl rfl rfl rfl (.p rfl rfl) rfl ?_
      | refine ops_pl rfl rfl rfl (.cv64 rfl (fun _ => rfl) (by omega) (by omega)) rfl ?_
      | refine ops_pl rfl rfl rfl (.cv8 rfl (fun _ => rfl) (by omega) (by omega)) rfl ?_
      | refine ops_pl rfl rfl rfl (.l rfl (fun _ _ => rfl)) rfl ?_
      | refine ops_pl rfl rfl rfl (.l rfl (look_own 0 rfl rfl rfl rfl)) rfl ?_
      | refine ops_pl rfl rfl rfl (.l rfl (look_own 1 rfl rfl rfl rfl)) rfl ?_
      | refine ops_pl rfl rfl rfl (.l rfl (look_own 2 rfl rfl rfl rfl)) rfl ?_
      | refine ops_pl rfl rfl rfl (.l rfl (look_own 3 rfl rfl rfl rfl)) rfl ?_
      | refine ops_pl rfl rfl rfl (.l rfl (look_own 4 rfl rfl rfl rfl)) rfl ?_
      | refine ops_pl rfl rfl rfl (.l rfl (look_own 5 rfl rfl rfl rfl)) rfl ?_
      | refine ops_pl rfl rfl rfl (.l rfl (look_own 6 rfl rfl rfl rfl)) rfl ?_
      | refine ops_pl rfl rfl rfl (.l rfl (look_own 7 rfl rfl rfl rfl)) rfl ?_
      | refine ops_pl rfl rfl rfl (.l rfl (look_agg 0 rfl rfl rfl rfl)) rfl ?_
      | refine ops_pl rfl rfl rfl (.l rfl (look_agg 1 rfl rfl rfl rfl)) rfl ?_
      | refine ops_pl rfl rfl rfl (.l rfl (look_agg 2 rfl rfl rfl rfl)) rfl ?_
      | refine ops_pl rfl rfl rfl (.l rfl (look_agg 3 rfl rfl rfl rfl)) rfl ?_
      | refine ops_pl rfl rfl rfl (.l rfl (look_agg 4 rfl rfl rfl rfl)) rfl ?_
      | refine ops_pl rfl rfl rfl (.l rfl (look_agg 5 rfl rfl rfl rfl)) rfl ?_
      | refine ops_pl rfl rfl rfl (.l rfl (look_agg 6 rfl rfl rfl rfl)) rfl ?_
      | refine ops_pl rfl rfl rfl (.l rfl (look_agg 7 rfl rfl rfl rfl)) rfl ?_
      | refine ops_pl rfl rfl rfl (.l rfl (look_str 0 rfl rfl rfl rfl rfl rfl rfl)) rfl ?_
      | refine ops_pl rfl rfl rfl (.l rfl (look_str 1 rfl rfl rfl rfl rfl rfl rfl)) rfl ?_
      | refine ops_pl rfl rfl rfl (.l rfl (look_str 2 rfl rfl rfl rfl rfl rfl rfl)) rfl ?_
      | refine ops_pl rfl rfl rfl (.l rfl (look_str 3 rfl rfl rfl rfl rfl rfl rfl)) rfl ?_
      | refine ops_skip rfl rfl rfl ?_
      | (refine ops_step rfl rfl rfl ?_; first | (refine step_box rfl rfl rfl (fun _ => ?_)) | (refine step_alloc rfl rfl rfl rfl (fun _ => ?_)) | (refine step_buildSlice rfl rfl rfl rfl rfl (fun _ => ?_)) | (refine step_store 0 rfl rfl rfl rfl rfl rfl rfl rfl rfl ?_) | (refine step_store 1 rfl rfl rfl rfl rfl rfl rfl rfl rfl ?_) | (refine step_store 2 rfl rfl rfl rfl rfl rfl rfl rfl rfl ?_) | (refine step_store 3 rfl rfl rfl rfl rfl rfl rfl rfl rfl ?_) | (refine step_store 4 rfl rfl rfl rfl rfl rfl rfl rfl rfl ?_) | (refine step_store 5 rfl rfl rfl rfl rfl rfl rfl rfl rfl ?_) | (refine step_store 6 rfl rfl rfl rfl rfl rfl rfl rfl rfl ?_) | (refine step_store 7 rfl rfl rfl rfl rfl rfl rfl rfl rfl ?_)))
  refine exec_cond rfl (fun hlt' => ?_) (fun hge' => ?_)
  rotate_left
  · repeat (first
        | refine exec_seq ?_
        | refine exec_region ?_
        | refine exec_block ?_
        | refine exec_skip ?_
        | refine exec_exit ?_
        | refine exec_ret ?_
        | refine exec_true rfl ?_
        | refine exec_false rfl ?_
        | refine ops_nil ?_
        | refine ops_pl rfl rfl rfl (.bld rfl rfl rfl rfl) rfl ?_
        | refine ops_pl rfl rfl rfl (.neSelf rfl rfl rfl rfl) rfl ?_
        | refine ops_pl rfl rfl rfl (.eqSelf rfl rfl rfl rfl) rfl ?_
        | refine ops_pl rfl rfl rfl (.wr64 rfl rfl (by omega) (by omega)) rfl ?_
        | refine ops_pl rfl rfl rfl (.wr8 rfl rfl (by omega) (by omega)) rfl ?_
        | refine ops_pl rfl rfl rfl (.p rfl rfl) rfl ?_
        | refine ops_pl rfl rfl rfl (.cv64 rfl (fun _ => rfl) (by omega) (by omega)) rfl ?_
        | refine ops_pl rfl rfl rfl (.cv8 rfl (fun _ => rfl) (by omega) (by omega)) rfl ?_
        | refine ops_pl rfl rfl rfl (.l rfl (fun _ _ => rfl)) rfl ?_
        | refine ops_pl rfl rfl rfl (.l rfl (look_own 0 rfl rfl rfl rfl)) rfl ?_
        | refine ops_pl rfl rfl rfl (.l rfl (look_own 1 rfl rfl rfl rfl)) rfl ?_
        | refine ops_pl rfl rfl rfl (.l rfl (look_own 2 rfl rfl rfl rfl)) rfl ?_
        | refine ops_pl rfl rfl rfl (.l rfl (look_own 3 rfl rfl rfl rfl)) rfl ?_
        | refine ops_pl rfl rfl rfl (.l rfl (look_own 4 rfl rfl rfl rfl)) rfl ?_
        | refine ops_pl rfl rfl rfl (.l rfl (look_own 5 rfl rfl rfl rfl)) rfl ?_
        | refine ops_pl rfl rfl rfl (.l rfl (look_own 6 rfl rfl rfl rfl)) rfl ?_
        | refine ops_pl rfl rfl rfl (.l rfl (look_own 7 rfl rfl rfl rfl)) rfl ?_
        | refine ops_pl rfl rfl rfl (.l rfl (look_agg 0 rfl rfl rfl rfl)) rfl ?_
        | refine ops_pl rfl rfl rfl (.l rfl (look_agg 1 rfl rfl rfl rfl)) rfl ?_
        | refine ops_pl rfl rfl rfl (.l rfl (look_agg 2 rfl rfl rfl rfl)) rfl ?_
        | refine ops_pl rfl rfl rfl (.l rfl (look_agg 3 rfl rfl rfl rfl)) rfl ?_
        | refine ops_pl rfl rfl rfl (.l rfl (look_agg 4 rfl rfl rfl rfl)) rfl ?_
        | refine ops_pl rfl rfl rfl (.l rfl (look_agg 5 rfl rfl rfl rfl)) rfl ?_
        | refine ops_pl rfl rfl rfl (.l rfl (look_agg 6 rfl rfl rfl rfl)) rfl ?_
        | refine ops_pl rfl rfl rfl (.l rfl (look_agg 7 rfl rfl rfl rfl)) rfl ?_
        | refine ops_pl rfl rfl rfl (.l rfl (look_str 0 rfl rfl rfl rfl rfl rfl rfl)) rfl ?_
        | refine ops_pl rfl rfl rfl (.l rfl (look_str 1 rfl rfl rfl rfl rfl rfl rfl)) rfl ?_
        | refine ops_pl rfl rfl rfl (.l rfl (look_str 2 rfl rfl rfl rfl rfl rfl rfl)) rfl ?_
        | refine ops_pl rfl rfl rfl (.l rfl (look_str 3 rfl rfl rfl rfl rfl rfl rfl)) rfl ?_
        | refine ops_skip rfl rfl rfl ?_
        | (refine ops_step rfl rfl rfl ?_; first | (refine step_box rfl rfl rfl (fun _ => ?_)) | (refine step_alloc rfl rfl rfl rfl (fun _ => ?_)) | (refine step_buildSlice rfl rfl rfl rfl rfl (fun _ => ?_)) | (refine step_store 0 rfl rfl rfl rfl rfl rfl rfl rfl rfl ?_) | (refine step_store 1 rfl rfl rfl rfl rfl rfl rfl rfl rfl ?_) | (refine step_store 2 rfl rfl rfl rfl rfl rfl rfl rfl rfl ?_) | (refine step_store 3 rfl rfl rfl rfl rfl rfl rfl rfl rfl ?_) | (refine step_store 4 rfl rfl rfl rfl rfl rfl rfl rfl rfl ?_) | (refine step_store 5 rfl rfl rfl rfl rfl rfl rfl rfl rfl ?_) | (refine step_store 6 rfl rfl rfl rfl rfl rfl rfl rfl rfl ?_) | (refine step_store 7 rfl rfl rfl rfl rfl rfl rfl rfl rfl ?_)))
    refine ⟨q - 1, by omega, _, _, ?_, ?_, i + 1, by omega, rfl, rfl⟩
    · exact ⟨rfl, rfl, rfl, rfl, rfl, rfl, trivial⟩
    · exact .cons _ (.cons _ (.refl _))
  have hi' : i' < 3 := by simp at hlt'; omega
  obtain ⟨ay, ny, cy, ey, ky, sy, hy', dy, lcy, hrdy, hny, hsly⟩ := hD i' hi'
  repeat (first
      | refine exec_seq ?_
      | refine exec_region ?_
      | refine exec_block ?_
      | refine exec_skip ?_
      | refine exec_exit ?_
      | refine exec_ret ?_
      | refine exec_true rfl ?_
      | refine exec_false rfl ?_
      | refine ops_nil ?_
      | refine ops_pl rfl rfl rfl (.bld rfl rfl rfl rfl) rfl ?_
      | refine ops_pl rfl rfl rfl (.neSelf rfl rfl rfl rfl) rfl ?_
      | refine ops_pl rfl rfl rfl (.eqSelf rfl rfl rfl rfl) rfl ?_
      | refine ops_pl rfl rfl rfl (.wr64 rfl rfl (by omega) (by omega)) rfl ?_
      | refine ops_pl rfl rfl rfl (.wr8 rfl rfl (by omega) (by omega)) rfl ?_
      | refine ops_pl rfl rfl rfl (.p rfl rfl) rfl ?_
      | refine ops_pl rfl rfl rfl (.cv64 rfl (fun _ => rfl) (by omega) (by omega)) rfl ?_
      | refine ops_pl rfl rfl rfl (.cv8 rfl (fun _ => rfl) (by omega) (by omega)) rfl ?_
      | refine ops_pl rfl rfl rfl (.l rfl (fun _ _ => rfl)) rfl ?_
      | refine ops_pl rfl rfl rfl (.l rfl (look_own 0 rfl rfl rfl rfl)) rfl ?_
      | refine ops_pl rfl rfl rfl (.l rfl (look_own 1 rfl rfl rfl rfl)) rfl ?_
      | refine ops_pl rfl rfl rfl (.l rfl (look_own 2 rfl rfl rfl rfl)) rfl ?_
      | refine ops_pl rfl rfl rfl (.l rfl (look_own 3 rfl rfl rfl rfl)) rfl ?_
      | refine ops_pl rfl rfl rfl (.l rfl (look_own 4 rfl rfl rfl rfl)) rfl ?_
      | refine ops_pl rfl rfl rfl (.l rfl (look_own 5 rfl rfl rfl rfl)) rfl ?_
      | refine ops_pl rfl rfl rfl (.l rfl (look_own 6 rfl rfl rfl rfl)) rfl ?_
      | refine ops_pl rfl rfl rfl (.l rfl (look_own 7 rfl rfl rfl rfl)) rfl ?_
      | refine ops_pl rfl rfl rfl (.l rfl (look_agg 0 rfl rfl rfl rfl)) rfl ?_
      | refine ops_pl rfl rfl rfl (.l rfl (look_agg 1 rfl rfl rfl rfl)) rfl ?_
      | refine ops_pl rfl rfl rfl (.l rfl (look_agg 2 rfl rfl rfl rfl)) rfl ?_
      | refine ops_pl rfl rfl rfl (.l rfl (look_agg 3 rfl rfl rfl rfl)) rfl ?_
      | refine ops_pl rfl rfl rfl (.l rfl (look_agg 4 rfl rfl rfl rfl)) rfl ?_
      | refine ops_pl rfl rfl rfl (.l rfl (look_agg 5 rfl rfl rfl rfl)) rfl ?_
      | refine ops_pl rfl rfl rfl (.l rfl (look_agg 6 rfl rfl rfl rfl)) rfl ?_
      | refine ops_pl rfl rfl rfl (.l rfl (look_agg 7 rfl rfl rfl rfl)) rfl ?_
      | refine ops_pl rfl rfl rfl (.l rfl (look_str 0 rfl rfl rfl rfl rfl rfl rfl)) rfl ?_
      | refine ops_pl rfl rfl rfl (.l rfl (look_str 1 rfl rfl rfl rfl rfl rfl rfl)) rfl ?_
      | refine ops_pl rfl rfl rfl (.l rfl (look_str 2 rfl rfl rfl rfl rfl rfl rfl)) rfl ?_
      | refine ops_pl rfl rfl rfl (.l rfl (look_str 3 rfl rfl rfl rfl rfl rfl rfl)) rfl ?_
      | refine ops_skip rfl rfl rfl ?_
      | (refine ops_step rfl rfl rfl ?_; first | (refine step_box rfl rfl rfl (fun _ => ?_)) | (refine step_alloc rfl rfl rfl rfl (fun _ => ?_)) | (refine step_buildSlice rfl rfl rfl rfl rfl (fun _ => ?_)) | (refine step_store 0 rfl rfl rfl rfl rfl rfl rfl rfl rfl ?_) | (refine step_store 1 rfl rfl rfl rfl rfl rfl rfl rfl rfl ?_) | (refine step_store 2 rfl rfl rfl rfl rfl rfl rfl rfl rfl ?_) | (refine step_store 3 rfl rfl rfl rfl rfl rfl rfl rfl rfl ?_) | (refine step_store 4 rfl rfl rfl rfl rfl rfl rfl rfl rfl ?_) | (refine step_store 5 rfl rfl rfl rfl rfl rfl rfl rfl rfl ?_) | (refine step_store 6 rfl rfl rfl rfl rfl rfl rfl rfl rfl ?_) | (refine step_store 7 rfl rfl rfl rfl rfl rfl rfl rfl rfl ?_)))
  first | refine ops_pl rfl rfl rfl (.p rfl (opP_idxo (z := 6) rfl rfl rfl rfl (by omega) (by omega))) rfl ?_ | refine draw_pl rfl rfl rfl rfl (.p rfl (opP_idxo (z := 6) rfl rfl rfl rfl (by omega) (by omega))) rfl rfl ?_
  first | refine ops_pl rfl rfl rfl (.l rfl (look_agg 0 rfl rfl rfl hrdy)) rfl ?_ | refine draw_pl rfl rfl rfl rfl (.l rfl (look_agg 0 rfl rfl rfl hrdy)) rfl rfl ?_
  repeat (first
      | refine exec_seq ?_
      | refine exec_region ?_
      | refine exec_block ?_
      | refine exec_skip ?_
      | refine exec_exit ?_
      | refine exec_ret ?_
      | refine exec_true rfl ?_
      | refine exec_false rfl ?_
      | refine ops_nil ?_
      | refine ops_pl rfl rfl rfl (.bld rfl rfl rfl rfl) rfl ?_
      | refine ops_pl rfl rfl rfl (.neSelf rfl rfl rfl rfl) rfl ?_
      | refine ops_pl rfl rfl rfl (.eqSelf rfl rfl rfl rfl) rfl ?_
      | refine ops_pl rfl rfl rfl (.wr64 rfl rfl (by omega) (by omega)) rfl ?_
      | refine ops_pl rfl rfl rfl (.wr8 rfl rfl (by omega) (by omega)) rfl ?_
      | refine ops_pl rfl rfl rfl (.p rfl rfl) rfl ?_
      | refine ops_pl rfl rfl rfl (.cv64 rfl (fun _ => rfl) (by omega) (by omega)) rfl ?_
      | refine ops_pl rfl rfl rfl (.cv8 rfl (fun _ => rfl) (by omega) (by omega)) rfl ?_
      | refine ops_pl rfl rfl rfl (.l rfl (fun _ _ => rfl)) rfl ?_
      | refine ops_pl rfl rfl rfl (.l rfl (look_own 0 rfl rfl rfl rfl)) rfl ?_
      | refine ops_pl rfl rfl rfl (.l rfl (look_own 1 rfl rfl rfl rfl)) rfl ?_
      | refine ops_pl rfl rfl rfl (.l rfl (look_own 2 rfl rfl rfl rfl)) rfl ?_
      | refine ops_pl rfl rfl rfl (.l rfl (look_own 3 rfl rfl rfl rfl)) rfl ?_
      | refine ops_pl rfl rfl rfl (.l rfl (look_own 4 rfl rfl rfl rfl)) rfl ?_
      | refine ops_pl rfl rfl rfl (.l rfl (look_own 5 rfl rfl rfl rfl)) rfl ?_
      | refine ops_pl rfl rfl rfl (.l rfl (look_own 6 rfl rfl rfl rfl)) rfl ?_
      | refine ops_pl rfl rfl rfl (.l rfl (look_own 7 rfl rfl rfl rfl)) rfl ?_
      | refine ops_pl rfl rfl rfl (.l rfl (look_agg 0 rfl rfl rfl rfl)) rfl ?_
      | refine ops_pl rfl rfl rfl (.l rfl (look_agg 1 rfl rfl rfl rfl)) rfl ?_
      | refine ops_pl rfl rfl rfl (.l rfl (look_agg 2 rfl rfl rfl rfl)) rfl ?_
      | refine ops_pl rfl rfl rfl (.l rfl (look_agg 3 rfl rfl rfl rfl)) rfl ?_
      | refine ops_pl rfl rfl rfl (.l rfl (look_agg 4 rfl rfl rfl rfl)) rfl ?_
      | refine ops_pl rfl rfl rfl (.l rfl (look_agg 5 rfl rfl rfl rfl)) rfl ?_
      | refine ops_pl rfl rfl rfl (.l rfl (look_agg 6 rfl rfl rfl rfl)) rfl ?_
      | refine ops_pl rfl rfl rfl (.l rfl (look_agg 7 rfl rfl rfl rfl)) rfl ?_
      | refine ops_pl rfl rfl rfl (.l rfl (look_str 0 rfl rfl rfl rfl rfl rfl rfl)) rfl ?_
      | refine ops_pl rfl rfl rfl (.l rfl (look_str 1 rfl rfl rfl rfl rfl rfl rfl)) rfl ?_
      | refine ops_pl rfl rfl rfl (.l rfl (look_str 2 rfl rfl rfl rfl rfl rfl rfl)) rfl ?_
      | refine ops_pl rfl rfl rfl (.l rfl (look_str 3 rfl rfl rfl rfl rfl rfl rfl)) rfl ?_
      | refine ops_skip rfl rfl rfl ?_
      | (refine ops_step rfl rfl rfl ?_; first | (refine step_box rfl rfl rfl (fun _ => ?_)) | (refine step_alloc rfl rfl rfl rfl (fun _ => ?_)) | (refine step_buildSlice rfl rfl rfl rfl rfl (fun _ => ?_)) | (refine step_store 0 rfl rfl rfl rfl rfl rfl rfl rfl rfl ?_) | (refine step_store 1 rfl rfl rfl rfl rfl rfl rfl rfl rfl ?_) | (refine step_store 2 rfl rfl rfl rfl rfl rfl rfl rfl rfl ?_) | (refine step_store 3 rfl rfl rfl rfl rfl rfl rfl rfl rfl ?_) | (refine step_store 4 rfl rfl rfl rfl rfl rfl rfl rfl rfl ?_) | (refine step_store 5 rfl rfl rfl rfl rfl rfl rfl rfl rfl ?_) | (refine step_store 6 rfl rfl rfl rfl rfl rfl rfl rfl rfl ?_) | (refine step_store 7 rfl rfl rfl rfl rfl rfl rfl rfl rfl ?_)))
  refine exec_draw (lst := [(0, 0), (1, 0), (3, 0), (4, 0), (2, 3), (5, 31), (6, 63), (7, 127), (8, 255), (9, 511), (10, 255), (11, 1279), (13, 255), (14, 8447), (15, 255), (16, 33023), (12, 4095), (17, 131071), (18, 262143), (19, 524287), (20, 1048575), (21, 2097151), (22, 2097151), (24, 2097151), (25, 2097151), (23, 8388607), (26, 67108863), (27, 134217727), (28, 268435455), (29, 536870911), (30, 1073741823), (31, 1073741823), (33, 1073741823), (34, 1073741823), (32, 4294967295), (35, 34359738367), (36, 68719476735), (37, 137438953471), (38, 274877906943), (39, 549755813887), (41, 549755813887), (40, 1099511627775), (42, 4398046511103), (43, 8796093022207), (44, 17592186044415)]) (full := 35184372088831) (by kernel_rfl) (by kernel_rfl) (by kernel_rfl) (by kernel_rfl) ?_
  repeat (first
      | refine draw_pl rfl rfl rfl rfl (.bld rfl rfl rfl rfl) rfl rfl ?_
      | refine draw_pl rfl rfl rfl rfl (.neSelf rfl rfl rfl rfl) rfl rfl ?_
      | refine draw_pl rfl rfl rfl rfl (.eqSelf rfl rfl rfl rfl) rfl rfl ?_
      | refine draw_pl rfl rfl rfl rfl (.wr64 rfl rfl (by omega) (by omega)) rfl rfl ?_
      | refine draw_pl rfl rfl rfl rfl (.wr8 rfl rfl (by omega) (by omega)) rfl rfl ?_
      | refine draw_pl rfl rfl rfl rfl (.p rfl rfl) rfl rfl ?_
      | refine draw_pl rfl rfl rfl rfl (.cv64 rfl (fun _ => rfl) (by omega) (by omega)) rfl rfl ?_
      | refine draw_pl rfl rfl rfl rfl (.cv8 rfl (fun _ => rfl) (by omega) (by omega)) rfl rfl ?_
      | refine draw_pl rfl rfl rfl rfl (.l rfl (fun _ _ => rfl)) rfl rfl ?_
      | refine draw_pl rfl rfl rfl rfl (.l rfl (look_own 0 rfl rfl rfl rfl)) rfl rfl ?_
      | refine draw_pl rfl rfl rfl rfl (.l rfl (look_own 1 rfl rfl rfl rfl)) rfl rfl ?_
      | refine draw_pl rfl rfl rfl rfl (.l rfl (look_own 2 rfl rfl rfl rfl)) rfl rfl ?_
      | refine draw_pl rfl rfl rfl rfl (.l rfl (look_own 3 rfl rfl rfl rfl)) rfl rfl ?_
      | refine draw_pl rfl rfl rfl rfl (.l rfl (look_own 4 rfl rfl rfl rfl)) rfl rfl ?_
      | refine draw_pl rfl rfl rfl rfl (.l rfl (look_own 5 rfl rfl rfl rfl)) rfl rfl ?_
      | refine draw_pl rfl rfl rfl rfl (.l rfl (look_own 6 rfl rfl rfl rfl)) rfl rfl ?_
      | refine draw_pl rfl rfl rfl rfl (.l rfl (look_own 7 rfl rfl rfl rfl)) rfl rfl ?_
      | refine draw_pl rfl rfl rfl rfl (.l rfl (look_agg 0 rfl rfl rfl rfl)) rfl rfl ?_
      | refine draw_pl rfl rfl rfl rfl (.l rfl (look_agg 1 rfl rfl rfl rfl)) rfl rfl ?_
      | refine draw_pl rfl rfl rfl rfl (.l rfl (look_agg 2 rfl rfl rfl rfl)) rfl rfl ?_
      | refine draw_pl rfl rfl rfl rfl (.l rfl (look_agg 3 rfl rfl rfl rfl)) rfl rfl ?_
      | refine draw_pl rfl rfl rfl rfl (.l rfl (look_agg 4 rfl rfl rfl rfl)) rfl rfl ?_
      | refine draw_pl rfl rfl rfl rfl (.l rfl (look_agg 5 rfl rfl rfl rfl)) rfl rfl ?_
      | refine draw_pl rfl rfl rfl rfl (.l rfl (look_agg 6 rfl rfl rfl rfl)) rfl rfl ?_
      | refine draw_pl rfl rfl rfl rfl (.l rfl (look_agg 7 rfl rfl rfl rfl)) rfl rfl ?_
      | refine draw_pl rfl rfl rfl rfl (.l rfl (look_str 0 rfl rfl rfl rfl rfl rfl rfl)) rfl rfl ?_
      | refine draw_pl rfl rfl rfl rfl (.l rfl (look_str 1 rfl rfl rfl rfl rfl rfl rfl)) rfl rfl ?_
      | refine draw_pl rfl rfl rfl rfl (.l rfl (look_str 2 rfl rfl rfl rfl rfl rfl rfl)) rfl rfl ?_
      | refine draw_pl rfl rfl rfl rfl (.l rfl (look_str 3 rfl rfl rfl rfl rfl rfl rfl)) rfl rfl ?_
      | refine draw_skip rfl rfl rfl rfl ?_
      | refine draw_nil ?_)
  refine draw_w rfl rfl rfl rfl rfl rfl (step_call_pure rfl rfl rfl (fun H hs => sameP_ok (hslx _ H (by simp) (by simp) hs) (hsly _ H (by simp) (by simp) hs) hnx) ⟨by repeat (first | exact True.intro | refine And.intro (.inl rfl) ?_ | refine And.intro (.inr ⟨veq_refl rfl, (fun _ _ => rfl)⟩) ?_ | refine And.intro (.inr ⟨veq_refl rfl, (look_own 0 rfl rfl rfl rfl)⟩) ?_ | refine And.intro (.inr ⟨veq_refl rfl, (look_own 1 rfl rfl rfl rfl)⟩) ?_ | refine And.intro (.inr ⟨veq_refl rfl, (look_own 2 rfl rfl rfl rfl)⟩) ?_ | refine And.intro (.inr ⟨veq_refl rfl, (look_own 3 rfl rfl rfl rfl)⟩) ?_ | refine And.intro (.inr ⟨veq_refl rfl, (look_own 4 rfl rfl rfl rfl)⟩) ?_ | refine And.intro (.inr ⟨veq_refl rfl, (look_own 5 rfl rfl rfl rfl)⟩) ?_ | refine And.intro (.inr ⟨veq_refl rfl, (look_own 6 rfl rfl rfl rfl)⟩) ?_ | refine And.intro (.inr ⟨veq_refl rfl, (look_own 7 rfl rfl rfl rfl)⟩) ?_ | refine And.intro (.inr ⟨veq_refl rfl, (look_agg 0 rfl rfl rfl rfl)⟩) ?_ | refine And.intro (.inr ⟨veq_refl rfl, (look_agg 1 rfl rfl rfl rfl)⟩) ?_ | refine And.intro (.inr ⟨veq_refl rfl, (look_agg 2 rfl rfl rfl rfl)⟩) ?_ | refine And.intro (.inr ⟨veq_refl rfl, (look_agg 3 rfl rfl rfl rfl)⟩) ?_ | refine And.intro (.inr ⟨veq_refl rfl, (look_agg 4 rfl rfl rfl rfl)⟩) ?_ | refine And.intro (.inr ⟨veq_refl rfl, (look_agg 5 rfl rfl rfl rfl)⟩) ?_ | refine And.intro (.inr ⟨veq_refl rfl, (look_agg 6 rfl rfl rfl rfl)⟩) ?_ | refine And.intro (.inr ⟨veq_refl rfl, (look_agg 7 rfl rfl rfl rfl)⟩) ?_), ?_⟩)
  repeat (first
      | refine draw_pl rfl rfl rfl rfl (.bld rfl rfl rfl rfl) rfl rfl ?_
      | refine draw_pl rfl rfl rfl rfl (.neSelf rfl rfl rfl rfl) rfl rfl ?_
      | refine draw_pl rfl rfl rfl rfl (.eqSelf rfl rfl rfl rfl) rfl rfl ?_
      | refine draw_pl rfl rfl rfl rfl (.wr64 rfl rfl (by omega) (by omega)) rfl rfl ?_
      | refine draw_pl rfl rfl rfl rfl (.wr8 rfl rfl (by omega) (by omega)) rfl rfl ?_
      | refine draw_pl rfl rfl rfl rfl (.p rfl rfl) rfl rfl ?_
      | refine draw_pl rfl rfl rfl rfl (.cv64 rfl (fun _ => rfl) (by omega) (by omega)) rfl rfl ?_
      | refine draw_pl rfl rfl rfl rfl (.cv8 rfl (fun _ => rfl) (by omega) (by omega)) rfl rfl ?_
      | refine draw_pl rfl rfl rfl rfl (.l rfl (fun _ _ => rfl)) rfl rfl ?_
      | refine draw_pl rfl rfl rfl rfl (.l rfl (look_own 0 rfl rfl rfl rfl)) rfl rfl ?_
      | refine draw_pl rfl rfl rfl rfl (.l rfl (look_own 1 rfl rfl rfl rfl)) rfl rfl ?_
      | refine draw_pl rfl rfl rfl rfl (.l rfl (look_own 2 rfl rfl rfl rfl)) rfl rfl ?_
      | refine draw_pl rfl rfl rfl rfl (.l rfl (look_own 3 rfl rfl rfl rfl)) rfl rfl ?_
      | refine draw_pl rfl rfl rfl rfl (.l rfl (look_own 4 rfl rfl rfl rfl)) rfl rfl ?_
      | refine draw_pl rfl rfl rfl rfl (.l rfl (look_own 5 rfl rfl rfl rfl)) rfl rfl ?_
      | refine draw_pl rfl rfl rfl rfl (.l rfl (look_own 6 rfl rfl rfl rfl)) rfl rfl ?_
      | refine draw_pl rfl rfl rfl rfl (.l rfl (look_own 7 rfl rfl rfl rfl)) rfl rfl ?_
      | refine draw_pl rfl rfl rfl rfl (.l rfl (look_agg 0 rfl rfl rfl rfl)) rfl rfl ?_
      | refine draw_pl rfl rfl rfl rfl (.l rfl (look_agg 1 rfl rfl rfl rfl)) rfl rfl ?_
      | refine draw_pl rfl rfl rfl rfl (.l rfl (look_agg 2 rfl rfl rfl rfl)) rfl rfl ?_
      | refine draw_pl rfl rfl rfl rfl (.l rfl (look_agg 3 rfl rfl rfl rfl)) rfl rfl ?_
      | refine draw_pl rfl rfl rfl rfl (.l rfl (look_agg 4 rfl rfl rfl rfl)) rfl rfl ?_
      | refine draw_pl rfl rfl rfl rfl (.l rfl (look_agg 5 rfl rfl rfl rfl)) rfl rfl ?_
      | refine draw_pl rfl rfl rfl rfl (.l rfl (look_agg 6 rfl rfl rfl rfl)) rfl rfl ?_
      | refine draw_pl rfl rfl rfl rfl (.l rfl (look_agg 7 rfl rfl rfl rfl)) rfl rfl ?_
      | refine draw_pl rfl rfl rfl rfl (.l rfl (look_str 0 rfl rfl rfl rfl rfl rfl rfl)) rfl rfl ?_
      | refine draw_pl rfl rfl rfl rfl (.l rfl (look_str 1 rfl rfl rfl rfl rfl rfl rfl)) rfl rfl ?_
      | refine draw_pl rfl rfl rfl rfl (.l rfl (look_str 2 rfl rfl rfl rfl rfl rfl rfl)) rfl rfl ?_
      | refine draw_pl rfl rfl rfl rfl (.l rfl (look_str 3 rfl rfl rfl rfl rfl rfl rfl)) rfl rfl ?_
      | refine draw_skip rfl rfl rfl rfl ?_
      | refine draw_nil ?_)
  refine draw_w rfl rfl rfl rfl rfl rfl (step_call_pure rfl rfl rfl (fun H hs => sameR_ok (hslx _ H (by simp) (by simp) hs) (hsly _ H (by simp) (by simp) hs) hnx) ⟨by repeat (first | exact True.intro | refine And.intro (.inl rfl) ?_ | refine And.intro (.inr ⟨veq_refl rfl, (fun _ _ => rfl)⟩) ?_ | refine And.intro (.inr ⟨veq_refl rfl, (look_own 0 rfl rfl rfl rfl)⟩) ?_ | refine And.intro (.inr ⟨veq_refl rfl, (look_own 1 rfl rfl rfl rfl)⟩) ?_ | refine And.intro (.inr ⟨veq_refl rfl, (look_own 2 rfl rfl rfl rfl)⟩) ?_ | refine And.intro (.inr ⟨veq_refl rfl, (look_own 3 rfl rfl rfl rfl)⟩) ?_ | refine And.intro (.inr ⟨veq_refl rfl, (look_own 4 rfl rfl rfl rfl)⟩) ?_ | refine And.intro (.inr ⟨veq_refl rfl, (look_own 5 rfl rfl rfl rfl)⟩) ?_ | refine And.intro (.inr ⟨veq_refl rfl, (look_own 6 rfl rfl rfl rfl)⟩) ?_ | refine And.intro (.inr ⟨veq_refl rfl, (look_own 7 rfl rfl rfl rfl)⟩) ?_ | refine And.intro (.inr ⟨veq_refl rfl, (look_agg 0 rfl rfl rfl rfl)⟩) ?_ | refine And.intro (.inr ⟨veq_refl rfl, (look_agg 1 rfl rfl rfl rfl)⟩) ?_ | refine And.intro (.inr ⟨veq_refl rfl, (look_agg 2 rfl rfl rfl rfl)⟩) ?_ | refine And.intro (.inr ⟨veq_refl rfl, (look_agg 3 rfl rfl rfl rfl)⟩) ?_ | refine And.intro (.inr ⟨veq_refl rfl, (look_agg 4 rfl rfl rfl rfl)⟩) ?_ | refine And.intro (.inr ⟨veq_refl rfl, (look_agg 5 rfl rfl rfl rfl)⟩) ?_ | refine And.intro (.inr ⟨veq_refl rfl, (look_agg 6 rfl rfl rfl rfl)⟩) ?_ | refine And.intro (.inr ⟨veq_refl rfl, (look_agg 7 rfl rfl rfl rfl)⟩) ?_), ?_⟩)
  repeat (first
      | refine draw_pl rfl rfl rfl rfl (.bld rfl rfl rfl rfl) rfl rfl ?_
      | refine draw_pl rfl rfl rfl rfl (.neSelf rfl rfl rfl rfl) rfl rfl ?_
      | refine draw_pl rfl rfl rfl rfl (.eqSelf rfl rfl rfl rfl) rfl rfl ?_
      | refine draw_pl rfl rfl rfl rfl (.wr64 rfl rfl (by omega) (by omega)) rfl rfl ?_
      | refine draw_pl rfl rfl rfl rfl (.wr8 rfl rfl (by omega) (by omega)) rfl rfl ?_
      | refine draw_pl rfl rfl rfl rfl (.p rfl rfl) rfl rfl ?_
      | refine draw_pl rfl rfl rfl rfl (.cv64 rfl (fun _ => rfl) (by omega) (by omega)) rfl rfl ?_
      | refine draw_pl rfl rfl rfl rfl (.cv8 rfl (fun _ => rfl) (by omega) (by omega)) rfl rfl ?_
      | refine draw_pl rfl rfl rfl rfl (.l rfl (fun _ _ => rfl)) rfl rfl ?_
      | refine draw_pl rfl rfl rfl rfl (.l rfl (look_own 0 rfl rfl rfl rfl)) rfl rfl ?_
      | refine draw_pl rfl rfl rfl rfl (.l rfl (look_own 1 rfl rfl rfl rfl)) rfl rfl ?_
      | refine draw_pl rfl rfl rfl rfl (.l rfl (look_own 2 rfl rfl rfl rfl)) rfl rfl ?_
      | refine draw_pl rfl rfl rfl rfl (.l rfl (look_own 3 rfl rfl rfl rfl)) rfl rfl ?_
      | refine draw_pl rfl rfl rfl rfl (.l rfl (look_own 4 rfl rfl rfl rfl)) rfl rfl ?_
      | refine draw_pl rfl rfl rfl rfl (.l rfl (look_own 5 rfl rfl rfl rfl)) rfl rfl ?_
      | refine draw_pl rfl rfl rfl rfl (.l rfl (look_own 6 rfl rfl rfl rfl)) rfl rfl ?_
      | refine draw_pl rfl rfl rfl rfl (.l rfl (look_own 7 rfl rfl rfl rfl)) rfl rfl ?_
      | refine draw_pl rfl rfl rfl rfl (.l rfl (look_agg 0 rfl rfl rfl rfl)) rfl rfl ?_
      | refine draw_pl rfl rfl rfl rfl (.l rfl (look_agg 1 rfl rfl rfl rfl)) rfl rfl ?_
      | refine draw_pl rfl rfl rfl rfl (.l rfl (look_agg 2 rfl rfl rfl rfl)) rfl rfl ?_
      | refine draw_pl rfl rfl rfl rfl (.l rfl (look_agg 3 rfl rfl rfl rfl)) rfl rfl ?_
      | refine draw_pl rfl rfl rfl rfl (.l rfl (look_agg 4 rfl rfl rfl rfl)) rfl rfl ?_
      | refine draw_pl rfl rfl rfl rfl (.l rfl (look_agg 5 rfl rfl rfl rfl)) rfl rfl ?_
      | refine draw_pl rfl rfl rfl rfl (.l rfl (look_agg 6 rfl rfl rfl rfl)) rfl rfl ?_
      | refine draw_pl rfl rfl rfl rfl (.l rfl (look_agg 7 rfl rfl rfl rfl)) rfl rfl ?_
      | refine draw_pl rfl rfl rfl rfl (.l rfl (look_str 0 rfl rfl rfl rfl rfl rfl rfl)) rfl rfl ?_
      | refine draw_pl rfl rfl rfl rfl (.l rfl (look_str 1 rfl rfl rfl rfl rfl rfl rfl)) rfl rfl ?_
      | refine draw_pl rfl rfl rfl rfl (.l rfl (look_str 2 rfl rfl rfl rfl rfl rfl rfl)) rfl rfl ?_
      | refine draw_pl rfl rfl rfl rfl (.l rfl (look_str 3 rfl rfl rfl rfl rfl rfl rfl)) rfl rfl ?_
      | refine draw_skip rfl rfl rfl rfl ?_
      | refine draw_nil ?_)
  refine draw_w rfl rfl rfl rfl rfl rfl (step_call_pure rfl rfl rfl (fun H hs => prefixP_ok (hslx _ H (by simp) (by simp) hs) (hsly _ H (by simp) (by simp) hs) hnx) ⟨by repeat (first | exact True.intro | refine And.intro (.inl rfl) ?_ | refine And.intro (.inr ⟨veq_refl rfl, (fun _ _ => rfl)⟩) ?_ | refine And.intro (.inr ⟨veq_refl rfl, (look_own 0 rfl rfl rfl rfl)⟩) ?_ | refine And.intro (.inr ⟨veq_refl rfl, (look_own 1 rfl rfl rfl rfl)⟩) ?_ | refine And.intro (.inr ⟨veq_refl rfl, (look_own 2 rfl rfl rfl rfl)⟩) ?_ | refine And.intro (.inr ⟨veq_refl rfl, (look_own 3 rfl rfl rfl rfl)⟩) ?_ | refine And.intro (.inr ⟨veq_refl rfl, (look_own 4 rfl rfl rfl rfl)⟩) ?_ | refine And.intro (.inr ⟨veq_refl rfl, (look_own 5 rfl rfl rfl rfl)⟩) ?_ | refine And.intro (.inr ⟨veq_refl rfl, (look_own 6 rfl rfl rfl rfl)⟩) ?_ | refine And.intro (.inr ⟨veq_refl rfl, (look_own 7 rfl rfl rfl rfl)⟩) ?_ | refine And.intro (.inr ⟨veq_refl rfl, (look_agg 0 rfl rfl rfl rfl)⟩) ?_ | refine And.intro (.inr ⟨veq_refl rfl, (look_agg 1 rfl rfl rfl rfl)⟩) ?_ | refine And.intro (.inr ⟨veq_refl rfl, (look_agg 2 rfl rfl rfl rfl)⟩) ?_ | refine And.intro (.inr ⟨veq_refl rfl, (look_agg 3 rfl rfl rfl rfl)⟩) ?_ | refine And.intro (.inr ⟨veq_refl rfl, (look_agg 4 rfl rfl rfl rfl)⟩) ?_ | refine And.intro (.inr ⟨veq_refl rfl, (look_agg 5 rfl rfl rfl rfl)⟩) ?_ | refine And.intro (.inr ⟨veq_refl rfl, (look_agg 6 rfl rfl rfl rfl)⟩) ?_ | refine And.intro (.inr ⟨veq_refl rfl, (look_agg 7 rfl rfl rfl rfl)⟩) ?_), ?_⟩)
  repeat (first
      | refine draw_pl rfl rfl rfl rfl (.bld rfl rfl rfl rfl) rfl rfl ?_
      | refine draw_pl rfl rfl rfl rfl (.neSelf rfl rfl rfl rfl) rfl rfl ?_
      | refine draw_pl rfl rfl rfl rfl (.eqSelf rfl rfl rfl rfl) rfl rfl ?_
      | refine draw_pl rfl rfl rfl rfl (.wr64 rfl rfl (by omega) (by omega)) rfl rfl ?_
      | refine draw_pl rfl rfl rfl rfl (.wr8 rfl rfl (by omega) (by omega)) rfl rfl ?_
      | refine draw_pl rfl rfl rfl rfl (.p rfl rfl) rfl rfl ?_
      | refine draw_pl rfl rfl rfl rfl (.cv64 rfl (fun _ => rfl) (by omega) (by omega)) rfl rfl ?_
      | refine draw_pl rfl rfl rfl rfl (.cv8 rfl (fun _ => rfl) (by omega) (by omega)) rfl rfl ?_
      | refine draw_pl rfl rfl rfl rfl (.l rfl (fun _ _ => rfl)) rfl rfl ?_
      | refine draw_pl rfl rfl rfl rfl (.l rfl (look_own 0 rfl rfl rfl rfl)) rfl rfl ?_
      | refine draw_pl rfl rfl rfl rfl (.l rfl (look_own 1 rfl rfl rfl rfl)) rfl rfl ?_
      | refine draw_pl rfl rfl rfl rfl (.l rfl (look_own 2 rfl rfl rfl rfl)) rfl rfl ?_
      | refine draw_pl rfl rfl rfl rfl (.l rfl (look_own 3 rfl rfl rfl rfl)) rfl rfl ?_
      | refine draw_pl rfl rfl rfl rfl (.l rfl (look_own 4 rfl rfl rfl rfl)) rfl rfl ?_
      | refine draw_pl rfl rfl rfl rfl (.l rfl (look_own 5 rfl rfl rfl rfl)) rfl rfl ?_
      | refine draw_pl rfl rfl rfl rfl (.l rfl (look_own 6 rfl rfl rfl rfl)) rfl rfl ?_
      | refine draw_pl rfl rfl rfl rfl (.l rfl (look_own 7 rfl rfl rfl rfl)) rfl rfl ?_
      | refine draw_pl rfl rfl rfl rfl (.l rfl (look_agg 0 rfl rfl rfl rfl)) rfl rfl ?_
      | refine draw_pl rfl rfl rfl rfl (.l rfl (look_agg 1 rfl rfl rfl rfl)) rfl rfl ?_
      | refine draw_pl rfl rfl rfl rfl (.l rfl (look_agg 2 rfl rfl rfl rfl)) rfl rfl ?_
      | refine draw_pl rfl rfl rfl rfl (.l rfl (look_agg 3 rfl rfl rfl rfl)) rfl rfl ?_
      | refine draw_pl rfl rfl rfl rfl (.l rfl (look_agg 4 rfl rfl rfl rfl)) rfl rfl ?_
      | refine draw_pl rfl rfl rfl rfl (.l rfl (look_agg 5 rfl rfl rfl rfl)) rfl rfl ?_
      | refine draw_pl rfl rfl rfl rfl (.l rfl (look_agg 6 rfl rfl rfl rfl)) rfl rfl ?_
      | refine draw_pl rfl rfl rfl rfl (.l rfl (look_agg 7 rfl rfl rfl rfl)) rfl rfl ?_
      | refine draw_pl rfl rfl rfl rfl (.l rfl (look_str 0 rfl rfl rfl rfl rfl rfl rfl)) rfl rfl ?_
      | refine draw_pl rfl rfl rfl rfl (.l rfl (look_str 1 rfl rfl rfl rfl rfl rfl rfl)) rfl rfl ?_
      | refine draw_pl rfl rfl rfl rfl (.l rfl (look_str 2 rfl rfl rfl rfl rfl rfl rfl)) rfl rfl ?_
      | refine draw_pl rfl rfl rfl rfl (.l rfl (look_str 3 rfl rfl rfl rfl rfl rfl rfl)) rfl rfl ?_
      | refine draw_skip rfl rfl rfl rfl ?_
      | refine draw_nil ?_)
  refine draw_w rfl rfl rfl rfl rfl rfl (step_call_pure rfl rfl rfl (fun H hs => prefixR_ok (hslx _ H (by simp) (by simp) hs) (hsly _ H (by simp) (by simp) hs) hnx) ⟨by repeat (first | exact True.intro | refine And.intro (.inl rfl) ?_ | refine And.intro (.inr ⟨veq_refl rfl, (fun _ _ => rfl)⟩) ?_ | refine And.intro (.inr ⟨veq_refl rfl, (look_own 0 rfl rfl rfl rfl)⟩) ?_ | refine And.intro (.inr ⟨veq_refl rfl, (look_own 1 rfl rfl rfl rfl)⟩) ?_ | refine And.intro (.inr ⟨veq_refl rfl, (look_own 2 rfl rfl rfl rfl)⟩) ?_ | refine And.intro (.inr ⟨veq_refl rfl, (look_own 3 rfl rfl rfl rfl)⟩) ?_ | refine And.intro (.inr ⟨veq_refl rfl, (look_own 4 rfl rfl rfl rfl)⟩) ?_ | refine And.intro (.inr ⟨veq_refl rfl, (look_own 5 rfl rfl rfl rfl)⟩) ?_ | refine And.intro (.inr ⟨veq_refl rfl, (look_own 6 rfl rfl rfl rfl)⟩) ?_ | refine And.intro (.inr ⟨veq_refl rfl, (look_own 7 rfl rfl rfl rfl)⟩) ?_ | refine And.intro (.inr ⟨veq_refl rfl, (look_agg 0 rfl rfl rfl rfl)⟩) ?_ | refine And.intro (.inr ⟨veq_refl rfl, (look_agg 1 rfl rfl rfl rfl)⟩) ?_ | refine And.intro (.inr ⟨veq_refl rfl, (look_agg 2 rfl rfl rfl rfl)⟩) ?_ | refine And.intro (.inr ⟨veq_refl rfl, (look_agg 3 rfl rfl rfl rfl)⟩) ?_ | refine And.intro (.inr ⟨veq_refl rfl, (look_agg 4 rfl rfl rfl rfl)⟩) ?_ | refine And.intro (.inr ⟨veq_refl rfl, (look_agg 5 rfl rfl rfl rfl)⟩) ?_ | refine And.intro (.inr ⟨veq_refl rfl, (look_agg 6 rfl rfl rfl rfl)⟩) ?_ | refine And.intro (.inr ⟨veq_refl rfl, (look_agg 7 rfl rfl rfl rfl)⟩) ?_), ?_⟩)
  repeat (first
      | refine draw_pl rfl rfl rfl rfl (.bld rfl rfl rfl rfl) rfl rfl ?_
      | refine draw_pl rfl rfl rfl rfl (.neSelf rfl rfl rfl rfl) rfl rfl ?_
      | refine draw_pl rfl rfl rfl rfl (.eqSelf rfl rfl rfl rfl) rfl rfl ?_
      | refine draw_pl rfl rfl rfl rfl (.wr64 rfl rfl (by omega) (by omega)) rfl rfl ?_
      | refine draw_pl rfl rfl rfl rfl (.wr8 rfl rfl (by omega) (by omega)) rfl rfl ?_
      | refine draw_pl rfl rfl rfl rfl (.p rfl rfl) rfl rfl ?_
      | refine draw_pl rfl rfl rfl rfl (.cv64 rfl (fun _ => rfl) (by omega) (by omega)) rfl rfl ?_
      | refine draw_pl rfl rfl rfl rfl (.cv8 rfl (fun _ => rfl) (by omega) (by omega)) rfl rfl ?_
      | refine draw_pl rfl rfl rfl rfl (.l rfl (fun _ _ => rfl)) rfl rfl ?_
      | refine draw_pl rfl rfl rfl rfl (.l rfl (look_own 0 rfl rfl rfl rfl)) rfl rfl ?_
      | refine draw_pl rfl rfl rfl rfl (.l rfl (look_own 1 rfl rfl rfl rfl)) rfl rfl ?_
      | refine draw_pl rfl rfl rfl rfl (.l rfl (look_own 2 rfl rfl rfl rfl)) rfl rfl ?_
      | refine draw_pl rfl rfl rfl rfl (.l rfl (look_own 3 rfl rfl rfl rfl)) rfl rfl ?_
      | refine draw_pl rfl rfl rfl rfl (.l rfl (look_own 4 rfl rfl rfl rfl)) rfl rfl ?_
      | refine draw_pl rfl rfl rfl rfl (.l rfl (look_own 5 rfl rfl rfl rfl)) rfl rfl ?_
      | refine draw_pl rfl rfl rfl rfl (.l rfl (look_own 6 rfl rfl rfl rfl)) rfl rfl ?_
      | refine draw_pl rfl rfl rfl rfl (.l rfl (look_own 7 rfl rfl rfl rfl)) rfl rfl ?_
      | refine draw_pl rfl rfl rfl rfl (.l rfl (look_agg 0 rfl rfl rfl rfl)) rfl rfl ?_
      | refine draw_pl rfl rfl rfl rfl (.l rfl (look_agg 1 rfl rfl rfl rfl)) rfl rfl ?_
      | refine draw_pl rfl rfl rfl rfl (.l rfl (look_agg 2 rfl rfl rfl rfl)) rfl rfl ?_
      | refine draw_pl rfl rfl rfl rfl (.l rfl (look_agg 3 rfl rfl rfl rfl)) rfl rfl ?_
      | refine draw_pl rfl rfl rfl rfl (.l rfl (look_agg 4 rfl rfl rfl rfl)) rfl rfl ?_
      | refine draw_pl rfl rfl rfl rfl (.l rfl (look_agg 5 rfl rfl rfl rfl)) rfl rfl ?_
      | refine draw_pl rfl rfl rfl rfl (.l rfl (look_agg 6 rfl rfl rfl rfl)) rfl rfl ?_
      | refine draw_pl rfl rfl rfl rfl (.l rfl (look_agg 7 rfl rfl rfl rfl)) rfl rfl ?_
      | refine draw_pl rfl rfl rfl rfl (.l rfl (look_str 0 rfl rfl rfl rfl rfl rfl rfl)) rfl rfl ?_
      | refine draw_pl rfl rfl rfl rfl (.l rfl (look_str 1 rfl rfl rfl rfl rfl rfl rfl)) rfl rfl ?_
      | refine draw_pl rfl rfl rfl rfl (.l rfl (look_str 2 rfl rfl rfl rfl rfl rfl rfl)) rfl rfl ?_
      | refine draw_pl rfl rfl rfl rfl (.l rfl (look_str 3 rfl rfl rfl rfl rfl rfl rfl)) rfl rfl ?_
      | refine draw_skip rfl rfl rfl rfl ?_
      | refine draw_nil ?_)
  refine draw_w rfl rfl rfl rfl rfl rfl (step_call_pure rfl rfl rfl (fun H hs => agreesP_ok (hslx _ H (by simp) (by simp) hs) (hsly _ H (by simp) (by simp) hs) hnx hny) ⟨by repeat (first | exact True.intro | refine And.intro (.inl rfl) ?_ | refine And.intro (.inr ⟨veq_refl rfl, (fun _ _ => rfl)⟩) ?_ | refine And.intro (.inr ⟨veq_refl rfl, (look_own 0 rfl rfl rfl rfl)⟩) ?_ | refine And.intro (.inr ⟨veq_refl rfl, (look_own 1 rfl rfl rfl rfl)⟩) ?_ | refine And.intro (.inr ⟨veq_refl rfl, (look_own 2 rfl rfl rfl rfl)⟩) ?_ | refine And.intro (.inr ⟨veq_refl rfl, (look_own 3 rfl rfl rfl rfl)⟩) ?_ | refine And.intro (.inr ⟨veq_refl rfl, (look_own 4 rfl rfl rfl rfl)⟩) ?_ | refine And.intro (.inr ⟨veq_refl rfl, (look_own 5 rfl rfl rfl rfl)⟩) ?_ | refine And.intro (.inr ⟨veq_refl rfl, (look_own 6 rfl rfl rfl rfl)⟩) ?_ | refine And.intro (.inr ⟨veq_refl rfl, (look_own 7 rfl rfl rfl rfl)⟩) ?_ | refine And.intro (.inr ⟨veq_refl rfl, (look_agg 0 rfl rfl rfl rfl)⟩) ?_ | refine And.intro (.inr ⟨veq_refl rfl, (look_agg 1 rfl rfl rfl rfl)⟩) ?_ | refine And.intro (.inr ⟨veq_refl rfl, (look_agg 2 rfl rfl rfl rfl)⟩) ?_ | refine And.intro (.inr ⟨veq_refl rfl, (look_agg 3 rfl rfl rfl rfl)⟩) ?_ | refine And.intro (.inr ⟨veq_refl rfl, (look_agg 4 rfl rfl rfl rfl)⟩) ?_ | refine And.intro (.inr ⟨veq_refl rfl, (look_agg 5 rfl rfl rfl rfl)⟩) ?_ | refine And.intro (.inr ⟨veq_refl rfl, (look_agg 6 rfl rfl rfl rfl)⟩) ?_ | refine And.intro (.inr ⟨veq_refl rfl, (look_agg 7 rfl rfl rfl rfl)⟩) ?_), ?_⟩)
  repeat (first
      | refine draw_pl rfl rfl rfl rfl (.bld rfl rfl rfl rfl) rfl rfl ?_
      | refine draw_pl rfl rfl rfl rfl (.neSelf rfl rfl rfl rfl) rfl rfl ?_
      | refine draw_pl rfl rfl rfl rfl (.eqSelf rfl rfl rfl rfl) rfl rfl ?_
      | refine draw_pl rfl rfl rfl rfl (.wr64 rfl rfl (by omega) (by omega)) rfl rfl ?_
      | refine draw_pl rfl rfl rfl rfl (.wr8 rfl rfl (by omega) (by omega)) rfl rfl ?_
      | refine draw_pl rfl rfl rfl rfl (.p rfl rfl) rfl rfl ?_
      | refine draw_pl rfl rfl rfl rfl (.cv64 rfl (fun _ => rfl) (by omega) (by omega)) rfl rfl ?_
      | refine draw_pl rfl rfl rfl rfl (.cv8 rfl (fun _ => rfl) (by omega) (by omega)) rfl rfl ?_
      | refine draw_pl rfl rfl rfl rfl (.l rfl (fun _ _ => rfl)) rfl rfl ?_
      | refine draw_pl rfl rfl rfl rfl (.l rfl (look_own 0 rfl rfl rfl rfl)) rfl rfl ?_
      | refine draw_pl rfl rfl rfl rfl (.l rfl (look_own 1 rfl rfl rfl rfl)) rfl rfl ?_
      | refine draw_pl rfl rfl rfl rfl (.l rfl (look_own 2 rfl rfl rfl rfl)) rfl rfl ?_
      | refine draw_pl rfl rfl rfl rfl (.l rfl (look_own 3 rfl rfl rfl rfl)) rfl rfl ?_
      | refine draw_pl rfl rfl rfl rfl (.l rfl (look_own 4 rfl rfl rfl rfl)) rfl rfl ?_
      | refine draw_pl rfl rfl rfl rfl (.l rfl (look_own 5 rfl rfl rfl rfl)) rfl rfl ?_
      | refine draw_pl rfl rfl rfl rfl (.l rfl (look_own 6 rfl rfl rfl rfl)) rfl rfl ?_
      | refine draw_pl rfl rfl rfl rfl (.l rfl (look_own 7 rfl rfl rfl rfl)) rfl rfl ?_
      | refine draw_pl rfl rfl rfl rfl (.l rfl (look_agg 0 rfl rfl rfl rfl)) rfl rfl ?_
      | refine draw_pl rfl rfl rfl rfl (.l rfl (look_agg 1 rfl rfl rfl rfl)) rfl rfl ?_
      | refine draw_pl rfl rfl rfl rfl (.l rfl (look_agg 2 rfl rfl rfl rfl)) rfl rfl ?_
      | refine draw_pl rfl rfl rfl rfl (.l rfl (look_agg 3 rfl rfl rfl rfl)) rfl rfl ?_
      | refine draw_pl rfl rfl rfl rfl (.l rfl (look_agg 4 rfl rfl rfl rfl)) rfl rfl ?_
      | refine draw_pl rfl rfl rfl rfl (.l rfl (look_agg 5 rfl rfl rfl rfl)) rfl rfl ?_
      | refine draw_pl rfl rfl rfl rfl (.l rfl (look_agg 6 rfl rfl rfl rfl)) rfl rfl ?_
      | refine draw_pl rfl rfl rfl rfl (.l rfl (look_agg 7 rfl rfl rfl rfl)) rfl rfl ?_
      | refine draw_pl rfl rfl rfl rfl (.l rfl (look_str 0 rfl rfl rfl rfl rfl rfl rfl)) rfl rfl ?_
      | refine draw_pl rfl rfl rfl rfl (.l rfl (look_str 1 rfl rfl rfl rfl rfl rfl rfl)) rfl rfl ?_
      | refine draw_pl rfl rfl rfl rfl (.l rfl (look_str 2 rfl rfl rfl rfl rfl rfl rfl)) rfl rfl ?_
      | refine draw_pl rfl rfl rfl rfl (.l rfl (look_str 3 rfl rfl rfl rfl rfl rfl rfl)) rfl rfl ?_
      | refine draw_skip rfl rfl rfl rfl ?_
      | refine draw_nil ?_)
  refine draw_w rfl rfl rfl rfl rfl rfl (step_call_pure rfl rfl rfl (fun H hs => agreesR_ok (hslx _ H (by simp) (by simp) hs) (hsly _ H (by simp) (by simp) hs) hnx hny) ⟨by repeat (first | exact True.intro | refine And.intro (.inl rfl) ?_ | refine And.intro (.inr ⟨veq_refl rfl, (fun _ _ => rfl)⟩) ?_ | refine And.intro (.inr ⟨veq_refl rfl, (look_own 0 rfl rfl rfl rfl)⟩) ?_ | refine And.intro (.inr ⟨veq_refl rfl, (look_own 1 rfl rfl rfl rfl)⟩) ?_ | refine And.intro (.inr ⟨veq_refl rfl, (look_own 2 rfl rfl rfl rfl)⟩) ?_ | refine And.intro (.inr ⟨veq_refl rfl, (look_own 3 rfl rfl rfl rfl)⟩) ?_ | refine And.intro (.inr ⟨veq_refl rfl, (look_own 4 rfl rfl rfl rfl)⟩) ?_ | refine And.intro (.inr ⟨veq_refl rfl, (look_own 5 rfl rfl rfl rfl)⟩) ?_ | refine And.intro (.inr ⟨veq_refl rfl, (look_own 6 rfl rfl rfl rfl)⟩) ?_ | refine And.intro (.inr ⟨veq_refl rfl, (look_own 7 rfl rfl rfl rfl)⟩) ?_ | refine And.intro (.inr ⟨veq_refl rfl, (look_agg 0 rfl rfl rfl rfl)⟩) ?_ | refine And.intro (.inr ⟨veq_refl rfl, (look_agg 1 rfl rfl rfl rfl)⟩) ?_ | refine And.intro (.inr ⟨veq_refl rfl, (look_agg 2 rfl rfl rfl rfl)⟩) ?_ | refine And.intro (.inr ⟨veq_refl rfl, (look_agg 3 rfl rfl rfl rfl)⟩) ?_ | refine And.intro (.inr ⟨veq_refl rfl, (look_agg 4 rfl rfl rfl rfl)⟩) ?_ | refine And.intro (.inr ⟨veq_refl rfl, (look_agg 5 rfl rfl rfl rfl)⟩) ?_ | refine And.intro (.inr ⟨veq_refl rfl, (look_agg 6 rfl rfl rfl rfl)⟩) ?_ | refine And.intro (.inr ⟨veq_refl rfl, (look_agg 7 rfl rfl rfl rfl)⟩) ?_), ?_⟩)
  repeat (first
      | refine draw_pl rfl rfl rfl rfl (.bld rfl rfl rfl rfl) rfl rfl ?_
      | refine draw_pl rfl rfl rfl rfl (.neSelf rfl rfl rfl rfl) rfl rfl ?_
      | refine draw_pl rfl rfl rfl rfl (.eqSelf rfl rfl rfl rfl) rfl rfl ?_
      | refine draw_pl rfl rfl rfl rfl (.wr64 rfl rfl (by omega) (by omega)) rfl rfl ?_
      | refine draw_pl rfl rfl rfl rfl (.wr8 rfl rfl (by omega) (by omega)) rfl rfl ?_
      | refine draw_pl rfl rfl rfl rfl (.p rfl rfl) rfl rfl ?_
      | refine draw_pl rfl rfl rfl rfl (.cv64 rfl (fun _ => rfl) (by omega) (by omega)) rfl rfl ?_
      | refine draw_pl rfl rfl rfl rfl (.cv8 rfl (fun _ => rfl) (by omega) (by omega)) rfl rfl ?_
      | refine draw_pl rfl rfl rfl rfl (.l rfl (fun _ _ => rfl)) rfl rfl ?_
      | refine draw_pl rfl rfl rfl rfl (.l rfl (look_own 0 rfl rfl rfl rfl)) rfl rfl ?_
      | refine draw_pl rfl rfl rfl rfl (.l rfl (look_own 1 rfl rfl rfl rfl)) rfl rfl ?_
      | refine draw_pl rfl rfl rfl rfl (.l rfl (look_own 2 rfl rfl rfl rfl)) rfl rfl ?_
      | refine draw_pl rfl rfl rfl rfl (.l rfl (look_own 3 rfl rfl rfl rfl)) rfl rfl ?_
      | refine draw_pl rfl rfl rfl rfl (.l rfl (look_own 4 rfl rfl rfl rfl)) rfl rfl ?_
      | refine draw_pl rfl rfl rfl rfl (.l rfl (look_own 5 rfl rfl rfl rfl)) rfl rfl ?_
      | refine draw_pl rfl rfl rfl rfl (.l rfl (look_own 6 rfl rfl rfl rfl)) rfl rfl ?_
      | refine draw_pl rfl rfl rfl rfl (.l rfl (look_own 7 rfl rfl rfl rfl)) rfl rfl ?_
      | refine draw_pl rfl rfl rfl rfl (.l rfl (look_agg 0 rfl rfl rfl rfl)) rfl rfl ?_
      | refine draw_pl rfl rfl rfl rfl (.l rfl (look_agg 1 rfl rfl rfl rfl)) rfl rfl ?_
      | refine draw_pl rfl rfl rfl rfl (.l rfl (look_agg 2 rfl rfl rfl rfl)) rfl rfl ?_
      | refine draw_pl rfl rfl rfl rfl (.l rfl (look_agg 3 rfl rfl rfl rfl)) rfl rfl ?_
      | refine draw_pl rfl rfl rfl rfl (.l rfl (look_agg 4 rfl rfl rfl rfl)) rfl rfl ?_
      | refine draw_pl rfl rfl rfl rfl (.l rfl (look_agg 5 rfl rfl rfl rfl)) rfl rfl ?_
      | refine draw_pl rfl rfl rfl rfl (.l rfl (look_agg 6 rfl rfl rfl rfl)) rfl rfl ?_
      | refine draw_pl rfl rfl rfl rfl (.l rfl (look_agg 7 rfl rfl rfl rfl)) rfl rfl ?_
      | refine draw_pl rfl rfl rfl rfl (.l rfl (look_str 0 rfl rfl rfl rfl rfl rfl rfl)) rfl rfl ?_
      | refine draw_pl rfl rfl rfl rfl (.l rfl (look_str 1 rfl rfl rfl rfl rfl rfl rfl)) rfl rfl ?_
      | refine draw_pl rfl rfl rfl rfl (.l rfl (look_str 2 rfl rfl rfl rfl rfl rfl rfl)) rfl rfl ?_
      | refine draw_pl rfl rfl rfl rfl (.l rfl (look_str 3 rfl rfl rfl rfl rfl rfl rfl)) rfl rfl ?_
      | refine draw_skip rfl rfl rfl rfl ?_
      | refine draw_nil ?_)
  refine draw_w rfl rfl rfl rfl rfl rfl (step_call_pure rfl rfl rfl (fun H hs => callB_eq (agrees_symm _ _ _ _ _ _) (agreesP_ok (hsly _ H (by simp) (by simp) hs) (hslx _ H (by simp) (by simp) hs) hny hnx)) ⟨by repeat (first | exact True.intro | refine And.intro (.inl rfl) ?_ | refine And.intro (.inr ⟨veq_refl rfl, (fun _ _ => rfl)⟩) ?_ | refine And.intro (.inr ⟨veq_refl rfl, (look_own 0 rfl rfl rfl rfl)⟩) ?_ | refine And.intro (.inr ⟨veq_refl rfl, (look_own 1 rfl rfl rfl rfl)⟩) ?_ | refine And.intro (.inr ⟨veq_refl rfl, (look_own 2 rfl rfl rfl rfl)⟩) ?_ | refine And.intro (.inr ⟨veq_refl rfl, (look_own 3 rfl rfl rfl rfl)⟩) ?_ | refine And.intro (.inr ⟨veq_refl rfl, (look_own 4 rfl rfl rfl rfl)⟩) ?_ | refine And.intro (.inr ⟨veq_refl rfl, (look_own 5 rfl rfl rfl rfl)⟩) ?_ | refine And.intro (.inr ⟨veq_refl rfl, (look_own 6 rfl rfl rfl rfl)⟩) ?_ | refine And.intro (.inr ⟨veq_refl rfl, (look_own 7 rfl rfl rfl rfl)⟩) ?_ | refine And.intro (.inr ⟨veq_refl rfl, (look_agg 0 rfl rfl rfl rfl)⟩) ?_ | refine And.intro (.inr ⟨veq_refl rfl, (look_agg 1 rfl rfl rfl rfl)⟩) ?_ | refine And.intro (.inr ⟨veq_refl rfl, (look_agg 2 rfl rfl rfl rfl)⟩) ?_ | refine And.intro (.inr ⟨veq_refl rfl, (look_agg 3 rfl rfl rfl rfl)⟩) ?_ | refine And.intro (.inr ⟨veq_refl rfl, (look_agg 4 rfl rfl rfl rfl)⟩) ?_ | refine And.intro (.inr ⟨veq_refl rfl, (look_agg 5 rfl rfl rfl rfl)⟩) ?_ | refine And.intro (.inr ⟨veq_refl rfl, (look_agg 6 rfl rfl rfl rfl)⟩) ?_ | refine And.intro (.inr ⟨veq_refl rfl, (look_agg 7 rfl rfl rfl rfl)⟩) ?_), ?_⟩)
  repeat (first
      | refine draw_pl rfl rfl rfl rfl (.bld rfl rfl rfl rfl) rfl rfl ?_
      | refine draw_pl rfl rfl rfl rfl (.neSelf rfl rfl rfl rfl) rfl rfl ?_
      | refine draw_pl rfl rfl rfl rfl (.eqSelf rfl rfl rfl rfl) rfl rfl ?_
      | refine draw_pl rfl rfl rfl rfl (.wr64 rfl rfl (by omega) (by omega)) rfl rfl ?_
      | refine draw_pl rfl rfl rfl rfl (.wr8 rfl rfl (by omega) (by omega)) rfl rfl ?_
      | refine draw_pl rfl rfl rfl rfl (.p rfl rfl) rfl rfl ?_
      | refine draw_pl rfl rfl rfl rfl (.cv64 rfl (fun _ => rfl) (by omega) (by omega)) rfl rfl ?_
      | refine draw_pl rfl rfl rfl rfl (.cv8 rfl (fun _ => rfl) (by omega) (by omega)) rfl rfl ?_
      | refine draw_pl rfl rfl rfl rfl (.l rfl (fun _ _ => rfl)) rfl rfl ?_
      | refine draw_pl rfl rfl rfl rfl (.l rfl (look_own 0 rfl rfl rfl rfl)) rfl rfl ?_
      | refine draw_pl rfl rfl rfl rfl (.l rfl (look_own 1 rfl rfl rfl rfl)) rfl rfl ?_
      | refine draw_pl rfl rfl rfl rfl (.l rfl (look_own 2 rfl rfl rfl rfl)) rfl rfl ?_
      | refine draw_pl rfl rfl rfl rfl (.l rfl (look_own 3 rfl rfl rfl rfl)) rfl rfl ?_
      | refine draw_pl rfl rfl rfl rfl (.l rfl (look_own 4 rfl rfl rfl rfl)) rfl rfl ?_
      | refine draw_pl rfl rfl rfl rfl (.l rfl (look_own 5 rfl rfl rfl rfl)) rfl rfl ?_
      | refine draw_pl rfl rfl rfl rfl (.l rfl (look_own 6 rfl rfl rfl rfl)) rfl rfl ?_
      | refine draw_pl rfl rfl rfl rfl (.l rfl (look_own 7 rfl rfl rfl rfl)) rfl rfl ?_
      | refine draw_pl rfl rfl rfl rfl (.l rfl (look_agg 0 rfl rfl rfl rfl)) rfl rfl ?_
      | refine draw_pl rfl rfl rfl rfl (.l rfl (look_agg 1 rfl rfl rfl rfl)) rfl rfl ?_
      | refine draw_pl rfl rfl rfl rfl (.l rfl (look_agg 2 rfl rfl rfl rfl)) rfl rfl ?_
      | refine draw_pl rfl rfl rfl rfl (.l rfl (look_agg 3 rfl rfl rfl rfl)) rfl rfl ?_
      | refine draw_pl rfl rfl rfl rfl (.l rfl (look_agg 4 rfl rfl rfl rfl)) rfl rfl ?_
      | refine draw_pl rfl rfl rfl rfl (.l rfl (look_agg 5 rfl rfl rfl rfl)) rfl rfl ?_
      | refine draw_pl rfl rfl rfl rfl (.l rfl (look_agg 6 rfl rfl rfl rfl)) rfl rfl ?_
      | refine draw_pl rfl rfl rfl rfl (.l rfl (look_agg 7 rfl rfl rfl rfl)) rfl rfl ?_
      | refine draw_pl rfl rfl rfl rfl (.l rfl (look_str 0 rfl rfl rfl rfl rfl rfl rfl)) rfl rfl ?_
      | refine draw_pl rfl rfl rfl rfl (.l rfl (look_str 1 rfl rfl rfl rfl rfl rfl rfl)) rfl rfl ?_
      | refine draw_pl rfl rfl rfl rfl (.l rfl (look_str 2 rfl rfl rfl rfl rfl rfl rfl)) rfl rfl ?_
      | refine draw_pl rfl rfl rfl rfl (.l rfl (look_str 3 rfl rfl rfl rfl rfl rfl rfl)) rfl rfl ?_
      | refine draw_skip rfl rfl rfl rfl ?_
      | refine draw_nil ?_)
  refine draw_w rfl rfl rfl rfl rfl rfl (step_call_pure rfl rfl rfl (fun H hs => agreesP_ok (hslx _ H (by simp) (by simp) hs) (hsly _ H (by simp) (by simp) hs) hnx hny) ⟨by repeat (first | exact True.intro | refine And.intro (.inl rfl) ?_ | refine And.intro (.inr ⟨veq_refl rfl, (fun _ _ => rfl)⟩) ?_ | refine And.intro (.inr ⟨veq_refl rfl, (look_own 0 rfl rfl rfl rfl)⟩) ?_ | refine And.intro (.inr ⟨veq_refl rfl, (look_own 1 rfl rfl rfl rfl)⟩) ?_ | refine And.intro (.inr ⟨veq_refl rfl, (look_own 2 rfl rfl rfl rfl)⟩) ?_ | refine And.intro (.inr ⟨veq_refl rfl, (look_own 3 rfl rfl rfl rfl)⟩) ?_ | refine And.intro (.inr ⟨veq_refl rfl, (look_own 4 rfl rfl rfl rfl)⟩) ?_ | refine And.intro (.inr ⟨veq_refl rfl, (look_own 5 rfl rfl rfl rfl)⟩) ?_ | refine And.intro (.inr ⟨veq_refl rfl, (look_own 6 rfl rfl rfl rfl)⟩) ?_ | refine And.intro (.inr ⟨veq_refl rfl, (look_own 7 rfl rfl rfl rfl)⟩) ?_ | refine And.intro (.inr ⟨veq_refl rfl, (look_agg 0 rfl rfl rfl rfl)⟩) ?_ | refine And.intro (.inr ⟨veq_refl rfl, (look_agg 1 rfl rfl rfl rfl)⟩) ?_ | refine And.intro (.inr ⟨veq_refl rfl, (look_agg 2 rfl rfl rfl rfl)⟩) ?_ | refine And.intro (.inr ⟨veq_refl rfl, (look_agg 3 rfl rfl rfl rfl)⟩) ?_ | refine And.intro (.inr ⟨veq_refl rfl, (look_agg 4 rfl rfl rfl rfl)⟩) ?_ | refine And.intro (.inr ⟨veq_refl rfl, (look_agg 5 rfl rfl rfl rfl)⟩) ?_ | refine And.intro (.inr ⟨veq_refl rfl, (look_agg 6 rfl rfl rfl rfl)⟩) ?_ | refine And.intro (.inr ⟨veq_refl rfl, (look_agg 7 rfl rfl rfl rfl)⟩) ?_), ?_⟩)
  repeat (first
      | refine draw_pl rfl rfl rfl rfl (.bld rfl rfl rfl rfl) rfl rfl ?_
      | refine draw_pl rfl rfl rfl rfl (.neSelf rfl rfl rfl rfl) rfl rfl ?_
      | refine draw_pl rfl rfl rfl rfl (.eqSelf rfl rfl rfl rfl) rfl rfl ?_
      | refine draw_pl rfl rfl rfl rfl (.wr64 rfl rfl (by omega) (by omega)) rfl rfl ?_
      | refine draw_pl rfl rfl rfl rfl (.wr8 rfl rfl (by omega) (by omega)) rfl rfl ?_
      | refine draw_pl rfl rfl rfl rfl (.p rfl rfl) rfl rfl ?_
      | refine draw_pl rfl rfl rfl rfl (.cv64 rfl (fun _ => rfl) (by omega) (by omega)) rfl rfl ?_
      | refine draw_pl rfl rfl rfl rfl (.cv8 rfl (fun _ => rfl) (by omega) (by omega)) rfl rfl ?_
      | refine draw_pl rfl rfl rfl rfl (.l rfl (fun _ _ => rfl)) rfl rfl ?_
      | refine draw_pl rfl rfl rfl rfl (.l rfl (look_own 0 rfl rfl rfl rfl)) rfl rfl ?_
      | refine draw_pl rfl rfl rfl rfl (.l rfl (look_own 1 rfl rfl rfl rfl)) rfl rfl ?_
      | refine draw_pl rfl rfl rfl rfl (.l rfl (look_own 2 rfl rfl rfl rfl)) rfl rfl ?_
      | refine draw_pl rfl rfl rfl rfl (.l rfl (look_own 3 rfl rfl rfl rfl)) rfl rfl ?_
      | refine draw_pl rfl rfl rfl rfl (.l rfl (look_own 4 rfl rfl rfl rfl)) rfl rfl ?_
      | refine draw_pl rfl rfl rfl rfl (.l rfl (look_own 5 rfl rfl rfl rfl)) rfl rfl ?_
      | refine draw_pl rfl rfl rfl rfl (.l rfl (look_own 6 rfl rfl rfl rfl)) rfl rfl ?_
      | refine draw_pl rfl rfl rfl rfl (.l rfl (look_own 7 rfl rfl rfl rfl)) rfl rfl ?_
      | refine draw_pl rfl rfl rfl rfl (.l rfl (look_agg 0 rfl rfl rfl rfl)) rfl rfl ?_
      | refine draw_pl rfl rfl rfl rfl (.l rfl (look_agg 1 rfl rfl rfl rfl)) rfl rfl ?_
      | refine draw_pl rfl rfl rfl rfl (.l rfl (look_agg 2 rfl rfl rfl rfl)) rfl rfl ?_
      | refine draw_pl rfl rfl rfl rfl (.l rfl (look_agg 3 rfl rfl rfl rfl)) rfl rfl ?_
      | refine draw_pl rfl rfl rfl rfl (.l rfl (look_agg 4 rfl rfl rfl rfl)) rfl rfl ?_
      | refine draw_pl rfl rfl rfl rfl (.l rfl (look_agg 5 rfl rfl rfl rfl)) rfl rfl ?_
      | refine draw_pl rfl rfl rfl rfl (.l rfl (look_agg 6 rfl rfl rfl rfl)) rfl rfl ?_
      | refine draw_pl rfl rfl rfl rfl (.l rfl (look_agg 7 rfl rfl rfl rfl)) rfl rfl ?_
      | refine draw_pl rfl rfl rfl rfl (.l rfl (look_str 0 rfl rfl rfl rfl rfl rfl rfl)) rfl rfl ?_
      | refine draw_pl rfl rfl rfl rfl (.l rfl (look_str 1 rfl rfl rfl rfl rfl rfl rfl)) rfl rfl ?_
      | refine draw_pl rfl rfl rfl rfl (.l rfl (look_str 2 rfl rfl rfl rfl rfl rfl rfl)) rfl rfl ?_
      | refine draw_pl rfl rfl rfl rfl (.l rfl (look_str 3 rfl rfl rfl rfl rfl rfl rfl)) rfl rfl ?_
      | refine draw_skip rfl rfl rfl rfl ?_
      | refine draw_nil ?_)
  refine draw_w rfl rfl rfl rfl rfl rfl (step_call_pure rfl rfl rfl (fun H hs => wholeP_ok) ⟨by repeat (first | exact True.intro | refine And.intro (.inl rfl) ?_ | refine And.intro (.inr ⟨veq_refl rfl, (fun _ _ => rfl)⟩) ?_ | refine And.intro (.inr ⟨veq_refl rfl, (look_own 0 rfl rfl rfl rfl)⟩) ?_ | refine And.intro (.inr ⟨veq_refl rfl, (look_own 1 rfl rfl rfl rfl)⟩) ?_ | refine And.intro (.inr ⟨veq_refl rfl, (look_own 2 rfl rfl rfl rfl)⟩) ?_ | refine And.intro (.inr ⟨veq_refl rfl, (look_own 3 rfl rfl rfl rfl)⟩) ?_ | refine And.intro (.inr ⟨veq_refl rfl, (look_own 4 rfl rfl rfl rfl)⟩) ?_ | refine And.intro (.inr ⟨veq_refl rfl, (look_own 5 rfl rfl rfl rfl)⟩) ?_ | refine And.intro (.inr ⟨veq_refl rfl, (look_own 6 rfl rfl rfl rfl)⟩) ?_ | refine And.intro (.inr ⟨veq_refl rfl, (look_own 7 rfl rfl rfl rfl)⟩) ?_ | refine And.intro (.inr ⟨veq_refl rfl, (look_agg 0 rfl rfl rfl rfl)⟩) ?_ | refine And.intro (.inr ⟨veq_refl rfl, (look_agg 1 rfl rfl rfl rfl)⟩) ?_ | refine And.intro (.inr ⟨veq_refl rfl, (look_agg 2 rfl rfl rfl rfl)⟩) ?_ | refine And.intro (.inr ⟨veq_refl rfl, (look_agg 3 rfl rfl rfl rfl)⟩) ?_ | refine And.intro (.inr ⟨veq_refl rfl, (look_agg 4 rfl rfl rfl rfl)⟩) ?_ | refine And.intro (.inr ⟨veq_refl rfl, (look_agg 5 rfl rfl rfl rfl)⟩) ?_ | refine And.intro (.inr ⟨veq_refl rfl, (look_agg 6 rfl rfl rfl rfl)⟩) ?_ | refine And.intro (.inr ⟨veq_refl rfl, (look_agg 7 rfl rfl rfl rfl)⟩) ?_), ?_⟩)
  repeat (first
      | refine draw_pl rfl rfl rfl rfl (.bld rfl rfl rfl rfl) rfl rfl ?_
      | refine draw_pl rfl rfl rfl rfl (.neSelf rfl rfl rfl rfl) rfl rfl ?_
      | refine draw_pl rfl rfl rfl rfl (.eqSelf rfl rfl rfl rfl) rfl rfl ?_
      | refine draw_pl rfl rfl rfl rfl (.wr64 rfl rfl (by omega) (by omega)) rfl rfl ?_
      | refine draw_pl rfl rfl rfl rfl (.wr8 rfl rfl (by omega) (by omega)) rfl rfl ?_
      | refine draw_pl rfl rfl rfl rfl (.p rfl rfl) rfl rfl ?_
      | refine draw_pl rfl rfl rfl rfl (.cv64 rfl (fun _ => rfl) (by omega) (by omega)) rfl rfl ?_
      | refine draw_pl rfl rfl rfl rfl (.cv8 rfl (fun _ => rfl) (by omega) (by omega)) rfl rfl ?_
      | refine draw_pl rfl rfl rfl rfl (.l rfl (fun _ _ => rfl)) rfl rfl ?_
      | refine draw_pl rfl rfl rfl rfl (.l rfl (look_own 0 rfl rfl rfl rfl)) rfl rfl ?_
      | refine draw_pl rfl rfl rfl rfl (.l rfl (look_own 1 rfl rfl rfl rfl)) rfl rfl ?_
      | refine draw_pl rfl rfl rfl rfl (.l rfl (look_own 2 rfl rfl rfl rfl)) rfl rfl ?_
      | refine draw_pl rfl rfl rfl rfl (.l rfl (look_own 3 rfl rfl rfl rfl)) rfl rfl ?_
      | refine draw_pl rfl rfl rfl rfl (.l rfl (look_own 4 rfl rfl rfl rfl)) rfl rfl ?_
      | refine draw_pl rfl rfl rfl rfl (.l rfl (look_own 5 rfl rfl rfl rfl)) rfl rfl ?_
      | refine draw_pl rfl rfl rfl rfl (.l rfl (look_own 6 rfl rfl rfl rfl)) rfl rfl ?_
      | refine draw_pl rfl rfl rfl rfl (.l rfl (look_own 7 rfl rfl rfl rfl)) rfl rfl ?_
      | refine draw_pl rfl rfl rfl rfl (.l rfl (look_agg 0 rfl rfl rfl rfl)) rfl rfl ?_
      | refine draw_pl rfl rfl rfl rfl (.l rfl (look_agg 1 rfl rfl rfl rfl)) rfl rfl ?_
      | refine draw_pl rfl rfl rfl rfl (.l rfl (look_agg 2 rfl rfl rfl rfl)) rfl rfl ?_
      | refine draw_pl rfl rfl rfl rfl (.l rfl (look_agg 3 rfl rfl rfl rfl)) rfl rfl ?_
      | refine draw_pl rfl rfl rfl rfl (.l rfl (look_agg 4 rfl rfl rfl rfl)) rfl rfl ?_
      | refine draw_pl rfl rfl rfl rfl (.l rfl (look_agg 5 rfl rfl rfl rfl)) rfl rfl ?_
      | refine draw_pl rfl rfl rfl rfl (.l rfl (look_agg 6 rfl rfl rfl rfl)) rfl rfl ?_
      | refine draw_pl rfl rfl rfl rfl (.l rfl (look_agg 7 rfl rfl rfl rfl)) rfl rfl ?_
      | refine draw_pl rfl rfl rfl rfl (.l rfl (look_str 0 rfl rfl rfl rfl rfl rfl rfl)) rfl rfl ?_
      | refine draw_pl rfl rfl rfl rfl (.l rfl (look_str 1 rfl rfl rfl rfl rfl rfl rfl)) rfl rfl ?_
      | refine draw_pl rfl rfl rfl rfl (.l rfl (look_str 2 rfl rfl rfl rfl rfl rfl rfl)) rfl rfl ?_
      | refine draw_pl rfl rfl rfl rfl (.l rfl (look_str 3 rfl rfl rfl rfl rfl rfl rfl)) rfl rfl ?_
      | refine draw_skip rfl rfl rfl rfl ?_
      | refine draw_nil ?_)
  refine draw_w rfl rfl rfl rfl rfl rfl (step_call_pure rfl rfl rfl (fun H hs => wholeR_ok) ⟨by repeat (first | exact True.intro | refine And.intro (.inl rfl) ?_ | refine And.intro (.inr ⟨veq_refl rfl, (fun _ _ => rfl)⟩) ?_ | refine And.intro (.inr ⟨veq_refl rfl, (look_own 0 rfl rfl rfl rfl)⟩) ?_ | refine And.intro (.inr ⟨veq_refl rfl, (look_own 1 rfl rfl rfl rfl)⟩) ?_ | refine And.intro (.inr ⟨veq_refl rfl, (look_own 2 rfl rfl rfl rfl)⟩) ?_ | refine And.intro (.inr ⟨veq_refl rfl, (look_own 3 rfl rfl rfl rfl)⟩) ?_ | refine And.intro (.inr ⟨veq_refl rfl, (look_own 4 rfl rfl rfl rfl)⟩) ?_ | refine And.intro (.inr ⟨veq_refl rfl, (look_own 5 rfl rfl rfl rfl)⟩) ?_ | refine And.intro (.inr ⟨veq_refl rfl, (look_own 6 rfl rfl rfl rfl)⟩) ?_ | refine And.intro (.inr ⟨veq_refl rfl, (look_own 7 rfl rfl rfl rfl)⟩) ?_ | refine And.intro (.inr ⟨veq_refl rfl, (look_agg 0 rfl rfl rfl rfl)⟩) ?_ | refine And.intro (.inr ⟨veq_refl rfl, (look_agg 1 rfl rfl rfl rfl)⟩) ?_ | refine And.intro (.inr ⟨veq_refl rfl, (look_agg 2 rfl rfl rfl rfl)⟩) ?_ | refine And.intro (.inr ⟨veq_refl rfl, (look_agg 3 rfl rfl rfl rfl)⟩) ?_ | refine And.intro (.inr ⟨veq_refl rfl, (look_agg 4 rfl rfl rfl rfl)⟩) ?_ | refine And.intro (.inr ⟨veq_refl rfl, (look_agg 5 rfl rfl rfl rfl)⟩) ?_ | refine And.intro (.inr ⟨veq_refl rfl, (look_agg 6 rfl rfl rfl rfl)⟩) ?_ | refine And.intro (.inr ⟨veq_refl rfl, (look_agg 7 rfl rfl rfl rfl)⟩) ?_), ?_⟩)
  repeat (first
      | refine draw_pl rfl rfl rfl rfl (.bld rfl rfl rfl rfl) rfl rfl ?_
      | refine draw_pl rfl rfl rfl rfl (.neSelf rfl rfl rfl rfl) rfl rfl ?_
      | refine draw_pl rfl rfl rfl rfl (.eqSelf rfl rfl rfl rfl) rfl rfl ?_
      | refine draw_pl rfl rfl rfl rfl (.wr64 rfl rfl (by omega) (by omega)) rfl rfl ?_
      | refine draw_pl rfl rfl rfl rfl (.wr8 rfl rfl (by omega) (by omega)) rfl rfl ?_
      | refine draw_pl rfl rfl rfl rfl (.p rfl rfl) rfl rfl ?_
      | refine draw_pl rfl rfl rfl rfl (.cv64 rfl (fun _ => rfl) (by omega) (by omega)) rfl rfl ?_
      | refine draw_pl rfl rfl rfl rfl (.cv8 rfl (fun _ => rfl) (by omega) (by omega)) rfl rfl ?_
      | refine draw_pl rfl rfl rfl rfl (.l rfl (fun _ _ => rfl)) rfl rfl ?_
      | refine draw_pl rfl rfl rfl rfl (.l rfl (look_own 0 rfl rfl rfl rfl)) rfl rfl ?_
      | refine draw_pl rfl rfl rfl rfl (.l rfl (look_own 1 rfl rfl rfl rfl)) rfl rfl ?_
      | refine draw_pl rfl rfl rfl rfl (.l rfl (look_own 2 rfl rfl rfl rfl)) rfl rfl ?_
      | refine draw_pl rfl rfl rfl rfl (.l rfl (look_own 3 rfl rfl rfl rfl)) rfl rfl ?_
      | refine draw_pl rfl rfl rfl rfl (.l rfl (look_own 4 rfl rfl rfl rfl)) rfl rfl ?_
      | refine draw_pl rfl rfl rfl rfl (.l rfl (look_own 5 rfl rfl rfl rfl)) rfl rfl ?_
      | refine draw_pl rfl rfl rfl rfl (.l rfl (look_own 6 rfl rfl rfl rfl)) rfl rfl ?_
      | refine draw_pl rfl rfl rfl rfl (.l rfl (look_own 7 rfl rfl rfl rfl)) rfl rfl ?_
      | refine draw_pl rfl rfl rfl rfl (.l rfl (look_agg 0 rfl rfl rfl rfl)) rfl rfl ?_
      | refine draw_pl rfl rfl rfl rfl (.l rfl (look_agg 1 rfl rfl rfl rfl)) rfl rfl ?_
      | refine draw_pl rfl rfl rfl rfl (.l rfl (look_agg 2 rfl rfl rfl rfl)) rfl rfl ?_
      | refine draw_pl rfl rfl rfl rfl (.l rfl (look_agg 3 rfl rfl rfl rfl)) rfl rfl ?_
      | refine draw_pl rfl rfl rfl rfl (.l rfl (look_agg 4 rfl rfl rfl rfl)) rfl rfl ?_
      | refine draw_pl rfl rfl rfl rfl (.l rfl (look_agg 5 rfl rfl rfl rfl)) rfl rfl ?_
      | refine draw_pl rfl rfl rfl rfl (.l rfl (look_agg 6 rfl rfl rfl rfl)) rfl rfl ?_
      | refine draw_pl rfl rfl rfl rfl (.l rfl (look_agg 7 rfl rfl rfl rfl)) rfl rfl ?_
      | refine draw_pl rfl rfl rfl rfl (.l rfl (look_str 0 rfl rfl rfl rfl rfl rfl rfl)) rfl rfl ?_
      | refine draw_pl rfl rfl rfl rfl (.l rfl (look_str 1 rfl rfl rfl rfl rfl rfl rfl)) rfl rfl ?_
      | refine draw_pl rfl rfl rfl rfl (.l rfl (look_str 2 rfl rfl rfl rfl rfl rfl rfl)) rfl rfl ?_
      | refine draw_pl rfl rfl rfl rfl (.l rfl (look_str 3 rfl rfl rfl rfl rfl rfl rfl)) rfl rfl ?_
      | refine draw_skip rfl rfl rfl rfl ?_
      | refine draw_nil ?_)
  repeat (first
      | refine exec_seq ?_
      | refine exec_region ?_
      | refine exec_block ?_
      | refine exec_skip ?_
      | refine exec_exit ?_
      | refine exec_ret ?_
      | refine exec_true rfl ?_
      | refine exec_false rfl ?_
      | refine ops_nil ?_
      | refine ops_pl rfl rfl rfl (.bld rfl rfl rfl rfl) rfl ?_
      | refine ops_pl rfl rfl rfl (.neSelf rfl rfl rfl rfl) rfl ?_
      | refine ops_pl rfl rfl rfl (.eqSelf rfl rfl rfl rfl) rfl ?_
      | refine ops_pl rfl rfl rfl (.wr64 rfl rfl (by omega) (by omega)) rfl ?_
      | refine ops_pl rfl rfl rfl (.wr8 rfl rfl (by omega) (by omega)) rfl ?_
      | refine ops_pl rfl rfl rfl (.p rfl rfl) rfl ?_
      | refine ops_pl rfl rfl rfl (.cv64 rfl (fun _ => rfl) (by omega) (by omega)) rfl ?_
      | refine ops_pl rfl rfl rfl (.cv8 rfl (fun _ => rfl) (by omega) (by omega)) rfl ?_
      | refine ops_pl rfl rfl rfl (.l rfl (fun _ _ => rfl)) rfl ?_
      | refine ops_pl rfl rfl rfl (.l rfl (look_own 0 rfl rfl rfl rfl)) rfl ?_
      | refine ops_pl rfl rfl rfl (.l rfl (look_own 1 rfl rfl rfl rfl)) rfl ?_
      | refine ops_pl rfl rfl rfl (.l rfl (look_own 2 rfl rfl rfl rfl)) rfl ?_
      | refine ops_pl rfl rfl rfl (.l rfl (look_own 3 rfl rfl rfl rfl)) rfl ?_
      | refine ops_pl rfl rfl rfl (.l rfl (look_own 4 rfl rfl rfl rfl)) rfl ?_
      | refine ops_pl rfl rfl rfl (.l rfl (look_own 5 rfl rfl rfl rfl)) rfl ?_
      | refine ops_pl rfl rfl rfl (.l rfl (look_own 6 rfl rfl rfl rfl)) rfl ?_
      | refine ops_pl rfl rfl rfl (.l rfl (look_own 7 rfl rfl rfl rfl)) rfl ?_
      | refine ops_pl rfl rfl rfl (.l rfl (look_agg 0 rfl rfl rfl rfl)) rfl ?_
      | refine ops_pl rfl rfl rfl (.l rfl (look_agg 1 rfl rfl rfl rfl)) rfl ?_
      | refine ops_pl rfl rfl rfl (.l rfl (look_agg 2 rfl rfl rfl rfl)) rfl ?_
      | refine ops_pl rfl rfl rfl (.l rfl (look_agg 3 rfl rfl rfl rfl)) rfl ?_
      | refine ops_pl rfl rfl rfl (.l rfl (look_agg 4 rfl rfl rfl rfl)) rfl ?_
      | refine ops_pl rfl rfl rfl (.l rfl (look_agg 5 rfl rfl rfl rfl)) rfl ?_
      | refine ops_pl rfl rfl rfl (.l rfl (look_agg 6 rfl rfl rfl rfl)) rfl ?_
      | refine ops_pl rfl rfl rfl (.l rfl (look_agg 7 rfl rfl rfl rfl)) rfl ?_
      | refine ops_pl rfl rfl rfl (.l rfl (look_str 0 rfl rfl rfl rfl rfl rfl rfl)) rfl ?_
      | refine ops_pl rfl rfl rfl (.l rfl (look_str 1 rfl rfl rfl rfl rfl rfl rfl)) rfl ?_
      | refine ops_pl rfl rfl rfl (.l rfl (look_str 2 rfl rfl rfl rfl rfl rfl rfl)) rfl ?_
      | refine ops_pl rfl rfl rfl (.l rfl (look_str 3 rfl rfl rfl rfl rfl rfl rfl)) rfl ?_
      | refine ops_skip rfl rfl rfl ?_
      | (refine ops_step rfl rfl rfl ?_; first | (refine step_box rfl rfl rfl (fun _ => ?_)) | (refine step_alloc rfl rfl rfl rfl (fun _ => ?_)) | (refine step_buildSlice rfl rfl rfl rfl rfl (fun _ => ?_)) | (refine step_store 0 rfl rfl rfl rfl rfl rfl rfl rfl rfl ?_) | (refine step_store 1 rfl rfl rfl rfl rfl rfl rfl rfl rfl ?_) | (refine step_store 2 rfl rfl rfl rfl rfl rfl rfl rfl rfl ?_) | (refine step_store 3 rfl rfl rfl rfl rfl rfl rfl rfl rfl ?_) | (refine step_store 4 rfl rfl rfl rfl rfl rfl rfl rfl rfl ?_) | (refine step_store 5 rfl rfl rfl rfl rfl rfl rfl rfl rfl ?_) | (refine step_store 6 rfl rfl rfl rfl rfl rfl rfl rfl rfl ?_) | (refine step_store 7 rfl rfl rfl rfl rfl rfl rfl rfl rfl ?_)))
  refine ⟨q' - 1, by omega, _, _, ?_, ?_, i' + 1, by omega, rfl, rfl⟩
  · exact ⟨rfl, rfl, rfl, rfl, rfl, rfl, rfl, rfl, rfl, rfl, trivial⟩
  · exact .cons _ (.refl _)
end Go.Proofs.Ytafbconajhpijaa

