/-
  Walks of the functions that say whether one list of texts begins another one, and whether two results agree.
-/
import Derived.Test.YtafbconajhpijaaWTrace
namespace Go.Proofs.Ytafbconajhpijaa
open Go.Ev Go.Ev.Wk
set_option linter.unusedVariables false
set_option linter.unusedSimpArgs false
variable {O : Old}
def pre (la lb : List (List UInt8)) : Bool := decide (la = lb.take la.length)
def alike (la lb : List (List UInt8)) (e k e' k' : Int) : Bool := decide (la = lb) && (e == e') && (k == k')
def agrees (la lb : List (List UInt8)) (e k e' k' : Int) : Bool :=
  bif whole e then (bif whole e' then alike la lb e k e' k' else pre lb la) else (bif whole e' then pre la lb else pre la lb || pre lb la)


set_option maxRecDepth 100000 in
theorem prefixP_ok {H : Heap} {aa ab : Option Addr} {n m ca cb : Nat} {la lb : List (List UInt8)} (ha : Sl O H (.slice aa n ca) 1 n (la.map str)) (hb : Sl O H (.slice ab m cb) 1 m (lb.map str)) (hn : n ≤ 1073741824) :
    CallC TT O 14 [.slice aa n ca, .slice ab m cb] H fun v H' => v = .bool (pre la lb) ∧ Ext H H' := by
  have hla : la.length = n := by have := ha.1; simpa using this
  have hlb : lb.length = m := by have := hb.1; simpa using this
  refine call_pure rfl rfl rfl rfl rfl ?_
  repeat (first
      | refine exec_seq ?_
      | refine exec_region ?_
      | refine exec_block ?_
      | refine exec_skip ?_
      | refine exec_exit ?_
      | refine exec_ret ?_
      | refine exec_true rfl ?_
      | refine exec_false rfl ?_
      | refine ops_nil ?_
      | refine ops_pl rfl rfl rfl (.bld rfl rfl rfl rfl) rfl ?_
      | refine ops_pl rfl rfl rfl (.neSelf rfl rfl rfl rfl) rfl ?_
      | refine ops_pl rfl rfl rfl (.eqSelf rfl rfl rfl rfl) rfl ?_
      | refine ops_pl rfl rfl rfl (.wr64 rfl rfl (by omega) (by omega)) rfl ?_
      | refine ops_pl rfl rfl rfl (.wr8 rfl rfl (by omega) (by omega)) rfl ?_
      | refine ops_pl rfl rfl rfl (.p rfl rfl) rfl ?_
      | refine ops_pl rfl rfl rfl (.cv64 rfl (fun _ => rfl) (by omega) (by omega)) rfl ?_
      | refine ops_pl rfl rfl rfl (.cv8 rfl (fun _ => rfl) (by omega) (by omega)) rfl ?_
      | refine ops_pl rfl rfl rfl (.l rfl (fun _ _ => rfl)) rfl ?_
      | refine ops_pl rfl rfl rfl (.l rfl (look_own 0 rfl rfl rfl rfl)) rfl ?_
      | refine ops_pl rfl rfl rfl (.l rfl (look_own 1 rfl rfl rfl rfl)) rfl ?_
      | refine ops_pl rfl rfl rfl (.l rfl (look_own 2 rfl rfl rfl rfl)) rfl ?_
      | refine ops_pl rfl rfl rfl (.l rfl (look_own 3 rfl rfl rfl rfl)) rfl ?_
      | refine ops_pl rfl rfl rfl (.l rfl (look_own 4 rfl rfl rfl rfl)) rfl ?_
      | refine ops_pl rfl rfl rfl (.l rfl (look_own 5 rfl rfl rfl rfl)) rfl ?_
      | refine ops_pl rfl rfl rfl (.l rfl (look_own 6 rfl rfl rfl rfl)) rfl ?_
      | refine ops_pl rfl rfl rfl (.l rfl (look_own 7 rfl rfl rfl rfl)) rfl ?_
      | refine ops_pl rfl rfl rfl (.l rfl (look_agg 0 rfl rfl rfl rfl)) rfl ?_
      | refine ops_pl rfl rfl rfl (.l rfl (look_agg 1 rfl rfl rfl rfl)) rfl ?_
      | refine ops_pl rfl rfl rfl (.l rfl (look_agg 2 rfl rfl rfl rfl)) rfl ?_
      | refine ops_pl rfl rfl rfl (.l rfl (look_agg 3 rfl rfl rfl rfl)) rfl ?_
      | refine ops_pl rfl rfl rfl (.l rfl (look_agg 4 rfl rfl rfl rfl)) rfl ?_
      | refine ops_pl rfl rfl rfl (.l rfl (look_agg 5 rfl rfl rfl rfl)) rfl ?_
      | refine ops_pl rfl rfl rfl (.l rfl (look_agg 6 rfl rfl rfl rfl)) rfl ?_
      | refine ops_pl rfl rfl rfl (.l rfl (look_agg 7 rfl rfl rfl rfl)) rfl ?_
      | refine ops_pl rfl rfl rfl (.l rfl (look_str 0 rfl rfl rfl rfl rfl rfl rfl)) rfl ?_
      | refine ops_pl rfl rfl rfl (.l rfl (look_str 1 rfl rfl rfl rfl rfl rfl rfl)) rfl ?_
      | refine ops_pl rfl rfl rfl (.l rfl (look_str 2 rfl rfl rfl rfl rfl rfl rfl)) rfl ?_
      | refine ops_pl rfl rfl rfl (.l rfl (look_str 3 rfl rfl rfl rfl rfl rfl rfl)) rfl ?_
      | refine ops_skip rfl rfl rfl ?_
      | (refine ops_step rfl rfl rfl ?_; first | (refine step_box rfl rfl rfl (fun _ => ?_)) | (refine step_alloc rfl rfl rfl rfl (fun _ => ?_)) | (refine step_buildSlice rfl rfl rfl rfl rfl (fun _ => ?_)) | (refine step_store 0 rfl rfl rfl rfl rfl rfl rfl rfl rfl ?_) | (refine step_store 1 rfl rfl rfl rfl rfl rfl rfl rfl rfl ?_) | (refine step_store 2 rfl rfl rfl rfl rfl rfl rfl rfl rfl ?_) | (refine step_store 3 rfl rfl rfl rfl rfl rfl rfl rfl rfl ?_) | (refine step_store 4 rfl rfl rfl rfl rfl rfl rfl rfl rfl ?_) | (refine step_store 5 rfl rfl rfl rfl rfl rfl rfl rfl rfl ?_) | (refine step_store 6 rfl rfl rfl rfl rfl rfl rfl rfl rfl ?_) | (refine step_store 7 rfl rfl rfl rfl rfl rfl rfl rfl rfl ?_)))
  cases hle : decide ((n : Int) ≤ (m : Int))
  · repeat (first
        | refine exec_seq ?_
        | refine exec_region ?_
        | refine exec_block ?_
        | refine exec_skip ?_
        | refine exec_exit ?_
        | refine exec_ret ?_
        | refine exec_true rfl ?_
        | refine exec_false rfl ?_
        | refine ops_nil ?_
        | refine ops_pl rfl rfl rfl (.bld rfl rfl rfl rfl) rfl ?_
        | refine ops_pl rfl rfl rfl (.neSelf rfl rfl rfl rfl) rfl ?_
        | refine ops_pl rfl rfl rfl (.eqSelf rfl rfl rfl rfl) rfl ?_
        | refine ops_pl rfl rfl rfl (.wr64 rfl rfl (by omega) (by omega)) rfl ?_
        | refine ops_pl rfl rfl rfl (.wr8 rfl rfl (by omega) (by omega)) rfl ?_
        | refine ops_pl rfl rfl rfl (.p rfl rfl) rfl ?_
        | refine ops_pl rfl rfl rfl (.cv64 rfl (fun _ => rfl) (by omega) (by omega)) rfl ?_
        | refine ops_pl rfl rfl rfl (.cv8 rfl (fun _ => rfl) (by omega) (by omega)) rfl ?_
        | refine ops_pl rfl rfl rfl (.l rfl (fun _ _ => rfl)) rfl ?_
        | refine ops_pl rfl rfl rfl (.l rfl (look_own 0 rfl rfl rfl rfl)) rfl ?_
        | refine ops_pl rfl rfl rfl (.l rfl (look_own 1 rfl rfl rfl rfl)) rfl ?_
        | refine ops_pl rfl rfl rfl (.l rfl (look_own 2 rfl rfl rfl rfl)) rfl ?_
        | refine ops_pl rfl rfl rfl (.l rfl (look_own 3 rfl rfl rfl rfl)) rfl ?_
        | refine ops_pl rfl rfl rfl (.l rfl (look_own 4 rfl rfl rfl rfl)) rfl ?_
        | refine ops_pl rfl rfl rfl (.l rfl (look_own 5 rfl rfl rfl rfl)) rfl ?_
        | refine ops_pl rfl rfl rfl (.l rfl (look_own 6 rfl rfl rfl rfl)) rfl ?_
        | refine ops_pl rfl rfl rfl (.l rfl (look_own 7 rfl rfl rfl rfl)) rfl ?_
        | refine ops_pl rfl rfl rfl (.l rfl (look_agg 0 rfl rfl rfl rfl)) rfl ?_
        | refine ops_pl rfl rfl rfl (.l rfl (look_agg 1 rfl rfl rfl rfl)) rfl ?_
        | refine ops_pl rfl rfl rfl (.l rfl (look_agg 2 rfl rfl rfl rfl)) rfl ?_
        | refine ops_pl rfl rfl rfl (.l rfl (look_agg 3 rfl rfl rfl rfl)) rfl ?_
        | refine ops_pl rfl rfl rfl (.l rfl (look_agg 4 rfl rfl rfl rfl)) rfl ?_
        | refine ops_pl rfl rfl rfl (.l rfl (look_agg 5 rfl rfl rfl rfl)) rfl ?_
        | refine ops_pl rfl rfl rfl (.l rfl (look_agg 6 rfl rfl rfl rfl)) rfl ?_
        | refine ops_pl rfl rfl rfl (.l rfl (look_agg 7 rfl rfl rfl rfl)) rfl ?_
        | refine ops_pl rfl rfl rfl (.l rfl (look_str 0 rfl rfl rfl rfl rfl rfl rfl)) rfl ?_
        | refine ops_pl rfl rfl rfl (.l rfl (look_str 1 rfl rfl rfl rfl rfl rfl rfl)) rfl ?_
        | refine ops_pl rfl rfl rfl (.l rfl (look_str 2 rfl rfl rfl rfl rfl rfl rfl)) rfl ?_
        | refine ops_pl rfl rfl rfl (.l rfl (look_str 3 rfl rfl rfl rfl rfl rfl rfl)) rfl ?_
        | refine ops_skip rfl rfl rfl ?_
        | (refine ops_step rfl rfl rfl ?_; first | (refine step_box rfl rfl rfl (fun _ => ?_)) | (refine step_alloc rfl rfl rfl rfl (fun _ => ?_)) | (refine step_buildSlice rfl rfl rfl rfl rfl (fun _ => ?_)) | (refine step_store 0 rfl rfl rfl rfl rfl rfl rfl rfl rfl ?_) | (refine step_store 1 rfl rfl rfl rfl rfl rfl rfl rfl rfl ?_) | (refine step_store 2 rfl rfl rfl rfl rfl rfl rfl rfl rfl ?_) | (refine step_store 3 rfl rfl rfl rfl rfl rfl rfl rfl rfl ?_) | (refine step_store 4 rfl rfl rfl rfl rfl rfl rfl rfl rfl ?_) | (refine step_store 5 rfl rfl rfl rfl rfl rfl rfl rfl rfl ?_) | (refine step_store 6 rfl rfl rfl rfl rfl rfl rfl rfl rfl ?_) | (refine step_store 7 rfl rfl rfl rfl rfl rfl rfl rfl rfl ?_)))
    refine ⟨trivial, _, rfl, ?_⟩
    have : la ≠ lb.take la.length := fun e => by
      have := congrArg List.length e
      simp at this hle
      omega
    simp [oneOf, pre, this]
  · have hle' : n ≤ m := by simp at hle; omega
    repeat (first
        | refine exec_seq ?_
        | refine exec_region ?_
        | refine exec_block ?_
        | refine exec_skip ?_
        | refine exec_exit ?_
        | refine exec_ret ?_
        | refine exec_true rfl ?_
        | refine exec_false rfl ?_
        | refine ops_nil ?_
        | refine ops_pl rfl rfl rfl (.bld rfl rfl rfl rfl) rfl ?_
        | refine ops_pl rfl rfl rfl (.neSelf rfl rfl rfl rfl) rfl ?_
        | refine ops_pl rfl rfl rfl (.eqSelf rfl rfl rfl rfl) rfl ?_
        | refine ops_pl rfl rfl rfl (.wr64 rfl rfl (by omega) (by omega)) rfl ?_
        | refine ops_pl rfl rfl rfl (.wr8 rfl rfl (by omega) (by omega)) rfl ?_
        | refine ops_pl rfl rfl rfl (.p rfl rfl) rfl ?_
        | refine ops_pl rfl rfl rfl (.cv64 rfl (fun _ => rfl) (by omega) (by omega)) rfl ?_
        | refine ops_pl rfl rfl rfl (.cv8 rfl (fun _ => rfl) (by omega) (by omega)) rfl ?_
        | refine ops_pl rfl rfl rfl (.l rfl (fun _ _ => rfl)) rfl ?_
        | refine ops_pl rfl rfl rfl (.l rfl (look_own 0 rfl rfl rfl rfl)) rfl ?_
        | refine ops_pl rfl rfl rfl (.l rfl (look_own 1 rfl rfl rfl rfl)) rfl ?_
        | refine ops_pl rfl rfl rfl (.l rfl (look_own 2 rfl rfl rfl rfl)) rfl ?_
        | refine ops_pl rfl rfl rfl (.l rfl (look_own 3 rfl rfl rfl rfl)) rfl ?_
        | refine ops_pl rfl rfl rfl (.l rfl (look_own 4 rfl rfl rfl rfl)) rfl ?_
        | refine ops_pl rfl rfl rfl (.l rfl (look_own 5 rfl rfl rfl rfl)) rfl ?_
        | refine ops_pl rfl rfl rfl (.l rfl (look_own 6 rfl rfl rfl rfl)) rfl ?_
        | refine ops_pl rfl rfl rfl (.l rfl (look_own 7 rfl rfl rfl rfl)) rfl ?_
        | refine ops_pl rfl rfl rfl (.l rfl (look_agg 0 rfl rfl rfl rfl)) rfl ?_
        | refine ops_pl rfl rfl rfl (.l rfl (look_agg 1 rfl rfl rfl rfl)) rfl ?_
        | refine ops_pl rfl rfl rfl (.l rfl (look_agg 2 rfl rfl rfl rfl)) rfl ?_
        | refine ops_pl rfl rfl rfl (.l rfl (look_agg 3 rfl rfl rfl rfl)) rfl ?_
        | refine ops_pl rfl rfl rfl (.l rfl (look_agg 4 rfl rfl rfl rfl)) rfl ?_
        | refine ops_pl rfl rfl rfl (.l rfl (look_agg 5 rfl rfl rfl rfl)) rfl ?_
        | refine ops_pl rfl rfl rfl (.l rfl (look_agg 6 rfl rfl rfl rfl)) rfl ?_
        | refine ops_pl rfl rfl rfl (.l rfl (look_agg 7 rfl rfl rfl rfl)) rfl ?_
        | refine ops_pl rfl rfl rfl (.l rfl (look_str 0 rfl rfl rfl rfl rfl rfl rfl)) rfl ?_
        | refine ops_pl rfl rfl rfl (.l rfl (look_str 1 rfl rfl rfl rfl rfl rfl rfl)) rfl ?_
        | refine ops_pl rfl rfl rfl (.l rfl (look_str 2 rfl rfl rfl rfl rfl rfl rfl)) rfl ?_
        | refine ops_pl rfl rfl rfl (.l rfl (look_str 3 rfl rfl rfl rfl rfl rfl rfl)) rfl ?_
        | refine ops_skip rfl rfl rfl ?_
        | (refine ops_step rfl rfl rfl ?_; first | (refine step_box rfl rfl rfl (fun _ => ?_)) | (refine step_alloc rfl rfl rfl rfl (fun _ => ?_)) | (refine step_buildSlice rfl rfl rfl rfl rfl (fun _ => ?_)) | (refine step_store 0 rfl rfl rfl rfl rfl rfl rfl rfl rfl ?_) | (refine step_store 1 rfl rfl rfl rfl rfl rfl rfl rfl rfl ?_) | (refine step_store 2 rfl rfl rfl rfl rfl rfl rfl rfl rfl ?_) | (refine step_store 3 rfl rfl rfl rfl rfl rfl rfl rfl rfl ?_) | (refine step_store 4 rfl rfl rfl rfl rfl rfl rfl rfl rfl ?_) | (refine step_store 5 rfl rfl rfl rfl rfl rfl rfl rfl rfl ?_) | (refine step_store 6 rfl rfl rfl rfl rfl rfl rfl rfl rfl ?_) | (refine step_store 7 rfl rfl rfl rfl rfl rfl rfl rfl rfl ?_)))
    first | refine ops_pl rfl rfl rfl (.l rfl (look_cut (l := 0) (h := n) rfl rfl rfl rfl (by omega) rfl (by omega) (fun H hs => hb.at hs) rfl rfl (by omega) (by omega))) rfl ?_ | refine draw_pl rfl rfl rfl rfl (.l rfl (look_cut (l := 0) (h := n) rfl rfl rfl rfl (by omega) rfl (by omega) (fun H hs => hb.at hs) rfl rfl (by omega) (by omega))) rfl rfl ?_
    repeat (first
        | refine exec_seq ?_
        | refine exec_region ?_
        | refine exec_block ?_
        | refine exec_skip ?_
        | refine exec_exit ?_
        | refine exec_ret ?_
        | refine exec_true rfl ?_
        | refine exec_false rfl ?_
        | refine ops_nil ?_
        | refine ops_pl rfl rfl rfl (.bld rfl rfl rfl rfl) rfl ?_
        | refine ops_pl rfl rfl rfl (.neSelf rfl rfl rfl rfl) rfl ?_
        | refine ops_pl rfl rfl rfl (.eqSelf rfl rfl rfl rfl) rfl ?_
        | refine ops_pl rfl rfl rfl (.wr64 rfl rfl (by omega) (by omega)) rfl ?_
        | refine ops_pl rfl rfl rfl (.wr8 rfl rfl (by omega) (by omega)) rfl ?_
        | refine ops_pl rfl rfl rfl (.p rfl rfl) rfl ?_
        | refine ops_pl rfl rfl rfl (.cv64 rfl (fun _ => rfl) (by omega) (by omega)) rfl ?_
        | refine ops_pl rfl rfl rfl (.cv8 rfl (fun _ => rfl) (by omega) (by omega)) rfl ?_
        | refine ops_pl rfl rfl rfl (.l rfl (fun _ _ => rfl)) rfl ?_
        | refine ops_pl rfl rfl rfl (.l rfl (look_own 0 rfl rfl rfl rfl)) rfl ?_
        | refine ops_pl rfl rfl rfl (.l rfl (look_own 1 rfl rfl rfl rfl)) rfl ?_
        | refine ops_pl rfl rfl rfl (.l rfl (look_own 2 rfl rfl rfl rfl)) rfl ?_
        | refine ops_pl rfl rfl rfl (.l rfl (look_own 3 rfl rfl rfl rfl)) rfl ?_
        | refine ops_pl rfl rfl rfl (.l rfl (look_own 4 rfl rfl rfl rfl)) rfl ?_
        | refine ops_pl rfl rfl rfl (.l rfl (look_own 5 rfl rfl rfl rfl)) rfl ?_
        | refine ops_pl rfl rfl rfl (.l rfl (look_own 6 rfl rfl rfl rfl)) rfl ?_
        | refine ops_pl rfl rfl rfl (.l rfl (look_own 7 rfl rfl rfl rfl)) rfl ?_
        | refine ops_pl rfl rfl rfl (.l rfl (look_agg 0 rfl rfl rfl rfl)) rfl ?_
        | refine ops_pl rfl rfl rfl (.l rfl (look_agg 1 rfl rfl rfl rfl)) rfl ?_
        | refine ops_pl rfl rfl rfl (.l rfl (look_agg 2 rfl rfl rfl rfl)) rfl ?_
        | refine ops_pl rfl rfl rfl (.l rfl (look_agg 3 rfl rfl rfl rfl)) rfl ?_
        | refine ops_pl rfl rfl rfl (.l rfl (look_agg 4 rfl rfl rfl rfl)) rfl ?_
        | refine ops_pl rfl rfl rfl (.l rfl (look_agg 5 rfl rfl rfl rfl)) rfl ?_
        | refine ops_pl rfl rfl rfl (.l rfl (look_agg 6 rfl rfl rfl rfl)) rfl ?_
        | refine ops_pl rfl rfl rfl (.l rfl (look_agg 7 rfl rfl rfl rfl)) rfl ?_
        | refine ops_pl rfl rfl rfl (.l rfl (look_str 0 rfl rfl rfl rfl rfl rfl rfl)) rfl ?_
        | refine ops_pl rfl rfl rfl (.l rfl (look_str 1 rfl rfl rfl rfl rfl rfl rfl)) rfl ?_
        | refine ops_pl rfl rfl rfl (.l rfl (look_str 2 rfl rfl rfl rfl rfl rfl rfl)) rfl ?_
        | refine ops_pl rfl rfl rfl (.l rfl (look_str 3 rfl rfl rfl rfl rfl rfl rfl)) rfl ?_
        | refine ops_skip rfl rfl rfl ?_
        | (refine ops_step rfl rfl rfl ?_; first | (refine step_box rfl rfl rfl (fun _ => ?_)) | (refine step_alloc rfl rfl rfl rfl (fun _ => ?_)) | (refine step_buildSlice rfl rfl rfl rfl rfl (fun _ => ?_)) | (refine step_store 0 rfl rfl rfl rfl rfl rfl rfl rfl rfl ?_) | (refine step_store 1 rfl rfl rfl rfl rfl rfl rfl rfl rfl ?_) | (refine step_store 2 rfl rfl rfl rfl rfl rfl rfl rfl rfl ?_) | (refine step_store 3 rfl rfl rfl rfl rfl rfl rfl rfl rfl ?_) | (refine step_store 4 rfl rfl rfl rfl rfl rfl rfl rfl rfl ?_) | (refine step_store 5 rfl rfl rfl rfl rfl rfl rfl rfl rfl ?_) | (refine step_store 6 rfl rfl rfl rfl rfl rfl rfl rfl rfl ?_) | (refine step_store 7 rfl rfl rfl rfl rfl rfl rfl rfl rfl ?_)))
    refine ops_step rfl rfl rfl (step_call_pure rfl rfl rfl (fun H hs => equalP_ok (ha.at hs) ((hb.at hs).cutM (Nat.zero_le n) hle') hn) ?_)
    repeat (first
        | refine exec_seq ?_
        | refine exec_region ?_
        | refine exec_block ?_
        | refine exec_skip ?_
        | refine exec_exit ?_
        | refine exec_ret ?_
        | refine exec_true rfl ?_
        | refine exec_false rfl ?_
        | refine ops_nil ?_
        | refine ops_pl rfl rfl rfl (.bld rfl rfl rfl rfl) rfl ?_
        | refine ops_pl rfl rfl rfl (.neSelf rfl rfl rfl rfl) rfl ?_
        | refine ops_pl rfl rfl rfl (.eqSelf rfl rfl rfl rfl) rfl ?_
        | refine ops_pl rfl rfl rfl (.wr64 rfl rfl (by omega) (by omega)) rfl ?_
        | refine ops_pl rfl rfl rfl (.wr8 rfl rfl (by omega) (by omega)) rfl ?_
        | refine ops_pl rfl rfl rfl (.p rfl rfl) rfl ?_
        | refine ops_pl rfl rfl rfl (.cv64 rfl (fun _ => rfl) (by omega) (by omega)) rfl ?_
        | refine ops_pl rfl rfl rfl (.cv8 rfl (fun _ => rfl) (by omega) (by omega)) rfl ?_
        | refine ops_pl rfl rfl rfl (.l rfl (fun _ _ => rfl)) rfl ?_
        | refine ops_pl rfl rfl rfl (.l rfl (look_own 0 rfl rfl rfl rfl)) rfl ?_
        | refine ops_pl rfl rfl rfl (.l rfl (look_own 1 rfl rfl rfl rfl)) rfl ?_
        | refine ops_pl rfl rfl rfl (.l rfl (look_own 2 rfl rfl rfl rfl)) rfl ?_
        | refine ops_pl rfl rfl rfl (.l rfl (look_own 3 rfl rfl rfl rfl)) rfl ?_
        | refine ops_pl rfl rfl rfl (.l rfl (look_own 4 rfl rfl rfl rfl)) rfl ?_
        | refine ops_pl rfl rfl rfl (.l rfl (look_own 5 rfl rfl rfl rfl)) rfl ?_
        | refine ops_pl rfl rfl rfl (.l rfl (look_own 6 rfl rfl rfl rfl)) rfl ?_
        | refine ops_pl rfl rfl rfl (.l rfl (look_own 7 rfl rfl rfl rfl)) rfl ?_
        | refine ops_pl rfl rfl rfl (.l rfl (look_agg 0 rfl rfl rfl rfl)) rfl ?_
        | refine ops_pl rfl rfl rfl (.l rfl (look_agg 1 rfl rfl rfl rfl)) rfl ?_
        | refine ops_pl rfl rfl rfl (.l rfl (look_agg 2 rfl rfl rfl rfl)) rfl ?_
        | refine ops_pl rfl rfl rfl (.l rfl (look_agg 3 rfl rfl rfl rfl)) rfl ?_
        | refine ops_pl rfl rfl rfl (.l rfl (look_agg 4 rfl rfl rfl rfl)) rfl ?_
        | refine ops_pl rfl rfl rfl (.l rfl (look_agg 5 rfl rfl rfl rfl)) rfl ?_
        | refine ops_pl rfl rfl rfl (.l rfl (look_agg 6 rfl rfl rfl rfl)) rfl ?_
        | refine ops_pl rfl rfl rfl (.l rfl (look_agg 7 rfl rfl rfl rfl)) rfl ?_
        | refine ops_pl rfl rfl rfl (.l rfl (look_str 0 rfl rfl rfl rfl rfl rfl rfl)) rfl ?_
        | refine ops_pl rfl rfl rfl (.l rfl (look_str 1 rfl rfl rfl rfl rfl rfl rfl)) rfl ?_
        | refine ops_pl rfl rfl rfl (.l rfl (look_str 2 rfl rfl rfl rfl rfl rfl rfl)) rfl ?_
        | refine ops_pl rfl rfl rfl (.l rfl (look_str 3 rfl rfl rfl rfl rfl rfl rfl)) rfl ?_
        | refine ops_skip rfl rfl rfl ?_
        | (refine ops_step rfl rfl rfl ?_; first | (refine step_box rfl rfl rfl (fun _ => ?_)) | (refine step_alloc rfl rfl rfl rfl (fun _ => ?_)) | (refine step_buildSlice rfl rfl rfl rfl rfl (fun _ => ?_)) | (refine step_store 0 rfl rfl rfl rfl rfl rfl rfl rfl rfl ?_) | (refine step_store 1 rfl rfl rfl rfl rfl rfl rfl rfl rfl ?_) | (refine step_store 2 rfl rfl rfl rfl rfl rfl rfl rfl rfl ?_) | (refine step_store 3 rfl rfl rfl rfl rfl rfl rfl rfl rfl ?_) | (refine step_store 4 rfl rfl rfl rfl rfl rfl rfl rfl rfl ?_) | (refine step_store 5 rfl rfl rfl rfl rfl rfl rfl rfl rfl ?_) | (refine step_store 6 rfl rfl rfl rfl rfl rfl rfl rfl rfl ?_) | (refine step_store 7 rfl rfl rfl rfl rfl rfl rfl rfl rfl ?_)))
    exact ⟨trivial, _, rfl, by simp [oneOf, pre, hla]⟩

set_option maxRecDepth 100000 in
theorem agreesP_ok {H : Heap} {aa ab : Option Addr} {n m ca cb : Nat} {la lb : List (List UInt8)} {e k s h d e' k' s' h' d' : Int} (ha : Sl O H (.slice aa n ca) 1 n (la.map str)) (hb : Sl O H (.slice ab m cb) 1 m (lb.map str)) (hn : n ≤ 1073741824) (hm : m ≤ 1073741824) :
    CallC TT O 16 [res aa n ca e k s h d, res ab m cb e' k' s' h' d'] H fun v H' => v = .bool (agrees la lb e k e' k') ∧ Ext H H' := by
  refine call_pure rfl rfl rfl rfl rfl ?_
  repeat (first
      | refine exec_seq ?_
      | refine exec_region ?_
      | refine exec_block ?_
      | refine exec_skip ?_
      | refine exec_exit ?_
      | refine exec_ret ?_
      | refine exec_true rfl ?_
      | refine exec_false rfl ?_
      | refine ops_nil ?_
      | refine ops_pl rfl rfl rfl (.bld rfl rfl rfl rfl) rfl ?_
      | refine ops_pl rfl rfl rfl (.neSelf rfl rfl rfl rfl) rfl ?_
      | refine ops_pl rfl rfl rfl (.eqSelf rfl rfl rfl rfl) rfl ?_
      | refine ops_pl rfl rfl rfl (.wr64 rfl rfl (by omega) (by omega)) rfl ?_
      | refine ops_pl rfl rfl rfl (.wr8 rfl rfl (by omega) (by omega)) rfl ?_
      | refine ops_pl rfl rfl rfl (.p rfl rfl) rfl ?_
      | refine ops_pl rfl rfl rfl (.cv64 rfl (fun _ => rfl) (by omega) (by omega)) rfl ?_
      | refine ops_pl rfl rfl rfl (.cv8 rfl (fun _ => rfl) (by omega) (by omega)) rfl ?_
      | refine ops_pl rfl rfl rfl (.l rfl (fun _ _ => rfl)) rfl ?_
      | refine ops_pl rfl rfl rfl (.l rfl (look_own 0 rfl rfl rfl rfl)) rfl ?_
      | refine ops_pl rfl rfl rfl (.l rfl (look_own 1 rfl rfl rfl rfl)) rfl ?_
      | refine ops_pl rfl rfl rfl (.l rfl (look_own 2 rfl rfl rfl rfl)) rfl ?_
      | refine ops_pl rfl rfl rfl (.l rfl (look_own 3 rfl rfl rfl rfl)) rfl ?_
      | refine ops_pl rfl rfl rfl (.l rfl (look_own 4 rfl rfl rfl rfl)) rfl ?_
      | refine ops_pl rfl rfl rfl (.l rfl (look_own 5 rfl rfl rfl rfl)) rfl ?_
      | refine ops_pl rfl rfl rfl (.l rfl (look_own 6 rfl rfl rfl rfl)) rfl ?_
      | refine ops_pl rfl rfl rfl (.l rfl (look_own 7 rfl rfl rfl rfl)) rfl ?_
      | refine ops_pl rfl rfl rfl (.l rfl (look_agg 0 rfl rfl rfl rfl)) rfl ?_
      | refine ops_pl rfl rfl rfl (.l rfl (look_agg 1 rfl rfl rfl rfl)) rfl ?_
      | refine ops_pl rfl rfl rfl (.l rfl (look_agg 2 rfl rfl rfl rfl)) rfl ?_
      | refine ops_pl rfl rfl rfl (.l rfl (look_agg 3 rfl rfl rfl rfl)) rfl ?_
      | refine ops_pl rfl rfl rfl (.l rfl (look_agg 4 rfl rfl rfl rfl)) rfl ?_
      | refine ops_pl rfl rfl rfl (.l rfl (look_agg 5 rfl rfl rfl rfl)) rfl ?_
      | refine ops_pl rfl rfl rfl (.l rfl (look_agg 6 rfl rfl rfl rfl)) rfl ?_
      | refine ops_pl rfl rfl rfl (.l rfl (look_agg 7 rfl rfl rfl rfl)) rfl ?_
      | refine ops_pl rfl rfl rfl (.l rfl (look_str 0 rfl rfl rfl rfl rfl rfl rfl)) rfl ?_
      | refine ops_pl rfl rfl rfl (.l rfl (look_str 1 rfl rfl rfl rfl rfl rfl rfl)) rfl ?_
      | refine ops_pl rfl rfl rfl (.l rfl (look_str 2 rfl rfl rfl rfl rfl rfl rfl)) rfl ?_
      | refine ops_pl rfl rfl rfl (.l rfl (look_str 3 rfl rfl rfl rfl rfl rfl rfl)) rfl ?_
      | refine ops_skip rfl rfl rfl ?_
      | (refine ops_step rfl rfl rfl ?_; first | (refine step_box rfl rfl rfl (fun _ => ?_)) | (refine step_alloc rfl rfl rfl rfl (fun _ => ?_)) | (refine step_buildSlice rfl rfl rfl rfl rfl (fun _ => ?_)) | (refine step_store 0 rfl rfl rfl rfl rfl rfl rfl rfl rfl ?_) | (refine step_store 1 rfl rfl rfl rfl rfl rfl rfl rfl rfl ?_) | (refine step_store 2 rfl rfl rfl rfl rfl rfl rfl rfl rfl ?_) | (refine step_store 3 rfl rfl rfl rfl rfl rfl rfl rfl rfl ?_) | (refine step_store 4 rfl rfl rfl rfl rfl rfl rfl rfl rfl ?_) | (refine step_store 5 rfl rfl rfl rfl rfl rfl rfl rfl rfl ?_) | (refine step_store 6 rfl rfl rfl rfl rfl rfl rfl rfl rfl ?_) | (refine step_store 7 rfl rfl rfl rfl rfl rfl rfl rfl rfl ?_)))
  refine ops_step rfl rfl rfl (step_call_bool rfl rfl rfl (fun H hs => wholeP_ok) (fun h1 => ?_) (fun h1 => ?_))
  · repeat (first
        | refine exec_seq ?_
        | refine exec_region ?_
        | refine exec_block ?_
        | refine exec_skip ?_
        | refine exec_exit ?_
        | refine exec_ret ?_
        | refine exec_true rfl ?_
        | refine exec_false rfl ?_
        | refine ops_nil ?_
        | refine ops_pl rfl rfl rfl (.bld rfl rfl rfl rfl) rfl ?_
        | refine ops_pl rfl rfl rfl (.neSelf rfl rfl rfl rfl) rfl ?_
        | refine ops_pl rfl rfl rfl (.eqSelf rfl rfl rfl rfl) rfl ?_
        | refine ops_pl rfl rfl rfl (.wr64 rfl rfl (by omega) (by omega)) rfl ?_
        | refine ops_pl rfl rfl rfl (.wr8 rfl rfl (by omega) (by omega)) rfl ?_
        | refine ops_pl rfl rfl rfl (.p rfl rfl) rfl ?_
        | refine ops_pl rfl rfl rfl (.cv64 rfl (fun _ => rfl) (by omega) (by omega)) rfl ?_
        | refine ops_pl rfl rfl rfl (.cv8 rfl (fun _ => rfl) (by omega) (by omega)) rfl ?_
        | refine ops_pl rfl rfl rfl (.l rfl (fun _ _ => rfl)) rfl ?_
        | refine ops_pl rfl rfl rfl (.l rfl (look_own 0 rfl rfl rfl rfl)) rfl ?_
        | refine ops_pl rfl rfl rfl (.l rfl (look_own 1 rfl rfl rfl rfl)) rfl ?_
        | refine ops_pl rfl rfl rfl (.l rfl (look_own 2 rfl rfl rfl rfl)) rfl ?_
        | refine ops_pl rfl rfl rfl (.l rfl (look_own 3 rfl rfl rfl rfl)) rfl ?_
        | refine ops_pl rfl rfl rfl (.l rfl (look_own 4 rfl rfl rfl rfl)) rfl ?_
        | refine ops_pl rfl rfl rfl (.l rfl (look_own 5 rfl rfl rfl rfl)) rfl ?_
        | refine ops_pl rfl rfl rfl (.l rfl (look_own 6 rfl rfl rfl rfl)) rfl ?_
        | refine ops_pl rfl rfl rfl (.l rfl (look_own 7 rfl rfl rfl rfl)) rfl ?_
        | refine ops_pl rfl rfl rfl (.l rfl (look_agg 0 rfl rfl rfl rfl)) rfl ?_
        | refine ops_pl rfl rfl rfl (.l rfl (look_agg 1 rfl rfl rfl rfl)) rfl ?_
        | refine ops_pl rfl rfl rfl (.l rfl (look_agg 2 rfl rfl rfl rfl)) rfl ?_
        | refine ops_pl rfl rfl rfl (.l rfl (look_agg 3 rfl rfl rfl rfl)) rfl ?_
        | refine ops_pl rfl rfl rfl (.l rfl (look_agg 4 rfl rfl rfl rfl)) rfl ?_
        | refine ops_pl rfl rfl rfl (.l rfl (look_agg 5 rfl rfl rfl rfl)) rfl ?_
        | refine ops_pl rfl rfl rfl (.l rfl (look_agg 6 rfl rfl rfl rfl)) rfl ?_
        | refine ops_pl rfl rfl rfl (.l rfl (look_agg 7 rfl rfl rfl rfl)) rfl ?_
        | refine ops_pl rfl rfl rfl (.l rfl (look_str 0 rfl rfl rfl rfl rfl rfl rfl)) rfl ?_
        | refine ops_pl rfl rfl rfl (.l rfl (look_str 1 rfl rfl rfl rfl rfl rfl rfl)) rfl ?_
        | refine ops_pl rfl rfl rfl (.l rfl (look_str 2 rfl rfl rfl rfl rfl rfl rfl)) rfl ?_
        | refine ops_pl rfl rfl rfl (.l rfl (look_str 3 rfl rfl rfl rfl rfl rfl rfl)) rfl ?_
        | refine ops_skip rfl rfl rfl ?_
        | (refine ops_step rfl rfl rfl ?_; first | (refine step_box rfl rfl rfl (fun _ => ?_)) | (refine step_alloc rfl rfl rfl rfl (fun _ => ?_)) | (refine step_buildSlice rfl rfl rfl rfl rfl (fun _ => ?_)) | (refine step_store 0 rfl rfl rfl rfl rfl rfl rfl rfl rfl ?_) | (refine step_store 1 rfl rfl rfl rfl rfl rfl rfl rfl rfl ?_) | (refine step_store 2 rfl rfl rfl rfl rfl rfl rfl rfl rfl ?_) | (refine step_store 3 rfl rfl rfl rfl rfl rfl rfl rfl rfl ?_) | (refine step_store 4 rfl rfl rfl rfl rfl rfl rfl rfl rfl ?_) | (refine step_store 5 rfl rfl rfl rfl rfl rfl rfl rfl rfl ?_) | (refine step_store 6 rfl rfl rfl rfl rfl rfl rfl rfl rfl ?_) | (refine step_store 7 rfl rfl rfl rfl rfl rfl rfl rfl rfl ?_)))
    refine ops_step rfl rfl rfl (step_call_bool rfl rfl rfl (fun H hs => wholeP_ok) (fun h2 => ?_) (fun h2 => ?_))
    · repeat (first
          | refine exec_seq ?_
          | refine exec_region ?_
          | refine exec_block ?_
          | refine exec_skip ?_
          | refine exec_exit ?_
          | refine exec_ret ?_
          | refine exec_true rfl ?_
          | refine exec_false rfl ?_
          | refine ops_nil ?_
          | refine ops_pl rfl rfl rfl (.bld rfl rfl rfl rfl) rfl ?_
          | refine ops_pl rfl rfl rfl (.neSelf rfl rfl rfl rfl) rfl ?_
          | refine ops_pl rfl rfl rfl (.eqSelf rfl rfl rfl rfl) rfl ?_
          | refine ops_pl rfl rfl rfl (.wr64 rfl rfl (by omega) (by omega)) rfl ?_
          | refine ops_pl rfl rfl rfl (.wr8 rfl rfl (by omega) (by omega)) rfl ?_
          | refine ops_pl rfl rfl rfl (.p rfl rfl) rfl ?_
          | refine ops_pl rfl rfl rfl (.cv64 rfl (fun _ => rfl) (by omega) (by omega)) rfl ?_
          | refine ops_pl rfl rfl rfl (.cv8 rfl (fun _ => rfl) (by omega) (by omega)) rfl ?_
          | refine ops_pl rfl rfl rfl (.l rfl (fun _ _ => rfl)) rfl ?_
          | refine ops_pl rfl rfl rfl (.l rfl (look_own 0 rfl rfl rfl rfl)) rfl ?_
          | refine ops_pl rfl rfl rfl (.l rfl (look_own 1 rfl rfl rfl rfl)) rfl ?_
          | refine ops_pl rfl rfl rfl (.l rfl (look_own 2 rfl rfl rfl rfl)) rfl ?_
          | refine ops_pl rfl rfl rfl (.l rfl (look_own 3 rfl rfl rfl rfl)) rfl ?_
          | refine ops_pl rfl rfl rfl (.l rfl (look_own 4 rfl rfl rfl rfl)) rfl ?_
          | refine ops_pl rfl rfl rfl (.l rfl (look_own 5 rfl rfl rfl rfl)) rfl ?_
          | refine ops_pl rfl rfl rfl (.l rfl (look_own 6 rfl rfl rfl rfl)) rfl ?_
          | refine ops_pl rfl rfl rfl (.l rfl (look_own 7 rfl rfl rfl rfl)) rfl ?_
          | refine ops_pl rfl rfl rfl (.l rfl (look_agg 0 rfl rfl rfl rfl)) rfl ?_
          | refine ops_pl rfl rfl rfl (.l rfl (look_agg 1 rfl rfl rfl rfl)) rfl ?_
          | refine ops_pl rfl rfl rfl (.l rfl (look_agg 2 rfl rfl rfl rfl)) rfl ?_
          | refine ops_pl rfl rfl rfl (.l rfl (look_agg 3 rfl rfl rfl rfl)) rfl ?_
          | refine ops_pl rfl rfl rfl (.l rfl (look_agg 4 rfl rfl rfl rfl)) rfl ?_
          | refine ops_pl rfl rfl rfl (.l rfl (look_agg 5 rfl rfl rfl rfl)) rfl ?_
          | refine ops_pl rfl rfl rfl (.l rfl (look_agg 6 rfl rfl rfl rfl)) rfl ?_
          | refine ops_pl rfl rfl rfl (.l rfl (look_agg 7 rfl rfl rfl rfl)) rfl ?_
          | refine ops_pl rfl rfl rfl (.l rfl (look_str 0 rfl rfl rfl rfl rfl rfl rfl)) rfl ?_
          | refine ops_pl rfl rfl rfl (.l rfl (look_str 1 rfl rfl rfl rfl rfl rfl rfl)) rfl ?_
          | refine ops_pl rfl rfl rfl (.l rfl (look_str 2 rfl rfl rfl rfl rfl rfl rfl)) rfl ?_
          | refine ops_pl rfl rfl rfl (.l rfl (look_str 3 rfl rfl rfl rfl rfl rfl rfl)) rfl ?_
          | refine ops_skip rfl rfl rfl ?_
          | (refine ops_step rfl rfl rfl ?_; first | (refine step_box rfl rfl rfl (fun _ => ?_)) | (refine step_alloc rfl rfl rfl rfl (fun _ => ?_)) | (refine step_buildSlice rfl rfl rfl rfl rfl (fun _ => ?_)) | (refine step_store 0 rfl rfl rfl rfl rfl rfl rfl rfl rfl ?_) | (refine step_store 1 rfl rfl rfl rfl rfl rfl rfl rfl rfl ?_) | (refine step_store 2 rfl rfl rfl rfl rfl rfl rfl rfl rfl ?_) | (refine step_store 3 rfl rfl rfl rfl rfl rfl rfl rfl rfl ?_) | (refine step_store 4 rfl rfl rfl rfl rfl rfl rfl rfl rfl ?_) | (refine step_store 5 rfl rfl rfl rfl rfl rfl rfl rfl rfl ?_) | (refine step_store 6 rfl rfl rfl rfl rfl rfl rfl rfl rfl ?_) | (refine step_store 7 rfl rfl rfl rfl rfl rfl rfl rfl rfl ?_)))
      refine ops_step rfl rfl rfl (step_call_pure rfl rfl rfl (fun H hs => sameP_ok (ha.at hs) (hb.at hs) hn) ?_)
      repeat (first
          | refine exec_seq ?_
          | refine exec_region ?_
          | refine exec_block ?_
          | refine exec_skip ?_
          | refine exec_exit ?_
          | refine exec_ret ?_
          | refine exec_true rfl ?_
          | refine exec_false rfl ?_
          | refine ops_nil ?_
          | refine ops_pl rfl rfl rfl (.bld rfl rfl rfl rfl) rfl ?_
          | refine ops_pl rfl rfl rfl (.neSelf rfl rfl rfl rfl) rfl ?_
          | refine ops_pl rfl rfl rfl (.eqSelf rfl rfl rfl rfl) rfl ?_
          | refine ops_pl rfl rfl rfl (.wr64 rfl rfl (by omega) (by omega)) rfl ?_
          | refine ops_pl rfl rfl rfl (.wr8 rfl rfl (by omega) (by omega)) rfl ?_
          | refine ops_pl rfl rfl rfl (.p rfl rfl) rfl ?_
          | refine ops_pl rfl rfl rfl (.cv64 rfl (fun _ => rfl) (by omega) (by omega)) rfl ?_
          | refine ops_pl rfl rfl rfl (.cv8 rfl (fun _ => rfl) (by omega) (by omega)) rfl ?_
          | refine ops_pl rfl rfl rfl (.l rfl (fun _ _ => rfl)) rfl ?_
          | refine ops_pl rfl rfl rfl (.l rfl (look_own 0 rfl rfl rfl rfl)) rfl ?_
          | refine ops_pl rfl rfl rfl (.l rfl (look_own 1 rfl rfl rfl rfl)) rfl ?_
          | refine ops_pl rfl rfl rfl (.l rfl (look_own 2 rfl rfl rfl rfl)) rfl ?_
          | refine ops_pl rfl rfl rfl (.l rfl (look_own 3 rfl rfl rfl rfl)) rfl ?_
          | refine ops_pl rfl rfl rfl (.l rfl (look_own 4 rfl rfl rfl rfl)) rfl ?_
          | refine ops_pl rfl rfl rfl (.l rfl (look_own 5 rfl rfl rfl rfl)) rfl ?_
          | refine ops_pl rfl rfl rfl (.l rfl (look_own 6 rfl rfl rfl rfl)) rfl ?_
          | refine ops_pl rfl rfl rfl (.l rfl (look_own 7 rfl rfl rfl rfl)) rfl ?_
          | refine ops_pl rfl rfl rfl (.l rfl (look_agg 0 rfl rfl rfl rfl)) rfl ?_
          | refine ops_pl rfl rfl rfl (.l rfl (look_agg 1 rfl rfl rfl rfl)) rfl ?_
          | refine ops_pl rfl rfl rfl (.l rfl (look_agg 2 rfl rfl rfl rfl)) rfl ?_
          | refine ops_pl rfl rfl rfl (.l rfl (look_agg 3 rfl rfl rfl rfl)) rfl ?_
          | refine ops_pl rfl rfl rfl (.l rfl (look_agg 4 rfl rfl rfl rfl)) rfl ?_
          | refine ops_pl rfl rfl rfl (.l rfl (look_agg 5 rfl rfl rfl rfl)) rfl ?_
          | refine ops_pl rfl rfl rfl (.l rfl (look_agg 6 rfl rfl rfl rfl)) rfl ?_
          | refine ops_pl rfl rfl rfl (.l rfl (look_agg 7 rfl rfl rfl rfl)) rfl ?_
          | refine ops_pl rfl rfl rfl (.l rfl (look_str 0 rfl rfl rfl rfl rfl rfl rfl)) rfl ?_
          | refine ops_pl rfl rfl rfl (.l rfl (look_str 1 rfl rfl rfl rfl rfl rfl rfl)) rfl ?_
          | refine ops_pl rfl rfl rfl (.l rfl (look_str 2 rfl rfl rfl rfl rfl rfl rfl)) rfl ?_
          | refine ops_pl rfl rfl rfl (.l rfl (look_str 3 rfl rfl rfl rfl rfl rfl rfl)) rfl ?_
          | refine ops_skip rfl rfl rfl ?_
          | (refine ops_step rfl rfl rfl ?_; first | (refine step_box rfl rfl rfl (fun _ => ?_)) | (refine step_alloc rfl rfl rfl rfl (fun _ => ?_)) | (refine step_buildSlice rfl rfl rfl rfl rfl (fun _ => ?_)) | (refine step_store 0 rfl rfl rfl rfl rfl rfl rfl rfl rfl ?_) | (refine step_store 1 rfl rfl rfl rfl rfl rfl rfl rfl rfl ?_) | (refine step_store 2 rfl rfl rfl rfl rfl rfl rfl rfl rfl ?_) | (refine step_store 3 rfl rfl rfl rfl rfl rfl rfl rfl rfl ?_) | (refine step_store 4 rfl rfl rfl rfl rfl rfl rfl rfl rfl ?_) | (refine step_store 5 rfl rfl rfl rfl rfl rfl rfl rfl rfl ?_) | (refine step_store 6 rfl rfl rfl rfl rfl rfl rfl rfl rfl ?_) | (refine step_store 7 rfl rfl rfl rfl rfl rfl rfl rfl rfl ?_)))
      exact ⟨trivial, _, rfl, by simp [oneOf, agrees, alike, h1, h2]⟩
    · repeat (first
          | refine exec_seq ?_
          | refine exec_region ?_
          | refine exec_block ?_
          | refine exec_skip ?_
          | refine exec_exit ?_
          | refine exec_ret ?_
          | refine exec_true rfl ?_
          | refine exec_false rfl ?_
          | refine ops_nil ?_
          | refine ops_pl rfl rfl rfl (.bld rfl rfl rfl rfl) rfl ?_
          | refine ops_pl rfl rfl rfl (.neSelf rfl rfl rfl rfl) rfl ?_
          | refine ops_pl rfl rfl rfl (.eqSelf rfl rfl rfl rfl) rfl ?_
          | refine ops_pl rfl rfl rfl (.wr64 rfl rfl (by omega) (by omega)) rfl ?_
          | refine ops_pl rfl rfl rfl (.wr8 rfl rfl (by omega) (by omega)) rfl ?_
          | refine ops_pl rfl rfl rfl (.p rfl rfl) rfl ?_
          | refine ops_pl rfl rfl rfl (.cv64 rfl (fun _ => rfl) (by omega) (by omega)) rfl ?_
          | refine ops_pl rfl rfl rfl (.cv8 rfl (fun _ => rfl) (by omega) (by omega)) rfl ?_
          | refine ops_pl rfl rfl rfl (.l rfl (fun _ _ => rfl)) rfl ?_
          | refine ops_pl rfl rfl rfl (.l rfl (look_own 0 rfl rfl rfl rfl)) rfl ?_
          | refine ops_pl rfl rfl rfl (.l rfl (look_own 1 rfl rfl rfl rfl)) rfl ?_
          | refine ops_pl rfl rfl rfl (.l rfl (look_own 2 rfl rfl rfl rfl)) rfl ?_
          | refine ops_pl rfl rfl rfl (.l rfl (look_own 3 rfl rfl rfl rfl)) rfl ?_
          | refine ops_pl rfl rfl rfl (.l rfl (look_own 4 rfl rfl rfl rfl)) rfl ?_
          | refine ops_pl rfl rfl rfl (.l rfl (look_own 5 rfl rfl rfl rfl)) rfl ?_
          | refine ops_pl rfl rfl rfl (.l rfl (look_own 6 rfl rfl rfl rfl)) rfl ?_
          | refine ops_pl rfl rfl rfl (.l rfl (look_own 7 rfl rfl rfl rfl)) rfl ?_
          | refine ops_pl rfl rfl rfl (.l rfl (look_agg 0 rfl rfl rfl rfl)) rfl ?_
          | refine ops_pl rfl rfl rfl (.l rfl (look_agg 1 rfl rfl rfl rfl)) rfl ?_
          | refine ops_pl rfl rfl rfl (.l rfl (look_agg 2 rfl rfl rfl rfl)) rfl ?_
          | refine ops_pl rfl rfl rfl (.l rfl (look_agg 3 rfl rfl rfl rfl)) rfl ?_
          | refine ops_pl rfl rfl rfl (.l rfl (look_agg 4 rfl rfl rfl rfl)) rfl ?_
          | refine ops_pl rfl rfl rfl (.l rfl (look_agg 5 rfl rfl rfl rfl)) rfl ?_
          | refine ops_pl rfl rfl rfl (.l rfl (look_agg 6 rfl rfl rfl rfl)) rfl ?_
          | refine ops_pl rfl rfl rfl (.l rfl (look_agg 7 rfl rfl rfl rfl)) rfl ?_
          | refine ops_pl rfl rfl rfl (.l rfl (look_str 0 rfl rfl rfl rfl rfl rfl rfl)) rfl ?_
          | refine ops_pl rfl rfl rfl (.l rfl (look_str 1 rfl rfl rfl rfl rfl rfl rfl)) rfl ?_
          | refine ops_pl rfl rfl rfl (.l rfl (look_str 2 rfl rfl rfl rfl rfl rfl rfl)) rfl ?_
          | refine ops_pl rfl rfl rfl (.l rfl (look_str 3 rfl rfl rfl rfl rfl rfl rfl)) rfl ?_
          | refine ops_skip rfl rfl rfl ?_
          | (refine ops_step rfl rfl rfl ?_; first | (refine step_box rfl rfl rfl (fun _ => ?_)) | (refine step_alloc rfl rfl rfl rfl (fun _ => ?_)) | (refine step_buildSlice rfl rfl rfl rfl rfl (fun _ => ?_)) | (refine step_store 0 rfl rfl rfl rfl rfl rfl rfl rfl rfl ?_) | (refine step_store 1 rfl rfl rfl rfl rfl rfl rfl rfl rfl ?_) | (refine step_store 2 rfl rfl rfl rfl rfl rfl rfl rfl rfl ?_) | (refine step_store 3 rfl rfl rfl rfl rfl rfl rfl rfl rfl ?_) | (refine step_store 4 rfl rfl rfl rfl rfl rfl rfl rfl rfl ?_) | (refine step_store 5 rfl rfl rfl rfl rfl rfl rfl rfl rfl ?_) | (refine step_store 6 rfl rfl rfl rfl rfl rfl rfl rfl rfl ?_) | (refine step_store 7 rfl rfl rfl rfl rfl rfl rfl rfl rfl ?_)))
      refine ops_step rfl rfl rfl (step_call_pure rfl rfl rfl (fun H hs => callB_eq h1 wholeP_ok) ?_)
      repeat (first
          | refine exec_seq ?_
          | refine exec_region ?_
          | refine exec_block ?_
          | refine exec_skip ?_
          | refine exec_exit ?_
          | refine exec_ret ?_
          | refine exec_true rfl ?_
          | refine exec_false rfl ?_
          | refine ops_nil ?_
          | refine ops_pl rfl rfl rfl (.bld rfl rfl rfl rfl) rfl ?_
          | refine ops_pl rfl rfl rfl (.neSelf rfl rfl rfl rfl) rfl ?_
          | refine ops_pl rfl rfl rfl (.eqSelf rfl rfl rfl rfl) rfl ?_
          | refine ops_pl rfl rfl rfl (.wr64 rfl rfl (by omega) (by omega)) rfl ?_
          | refine ops_pl rfl rfl rfl (.wr8 rfl rfl (by omega) (by omega)) rfl ?_
          | refine ops_pl rfl rfl rfl (.p rfl rfl) rfl ?_
          | refine ops_pl rfl rfl rfl (.cv64 rfl (fun _ => rfl) (by omega) (by omega)) rfl ?_
          | refine ops_pl rfl rfl rfl (.cv8 rfl (fun _ => rfl) (by omega) (by omega)) rfl ?_
          | refine ops_pl rfl rfl rfl (.l rfl (fun _ _ => rfl)) rfl ?_
          | refine ops_pl rfl rfl rfl (.l rfl (look_own 0 rfl rfl rfl rfl)) rfl ?_
          | refine ops_pl rfl rfl rfl (.l rfl (look_own 1 rfl rfl rfl rfl)) rfl ?_
          | refine ops_pl rfl rfl rfl (.l rfl (look_own 2 rfl rfl rfl rfl)) rfl ?_
          | refine ops_pl rfl rfl rfl (.l rfl (look_own 3 rfl rfl rfl rfl)) rfl ?_
          | refine ops_pl rfl rfl rfl (.l rfl (look_own 4 rfl rfl rfl rfl)) rfl ?_
          | refine ops_pl rfl rfl rfl (.l rfl (look_own 5 rfl rfl rfl rfl)) rfl ?_
          | refine ops_pl rfl rfl rfl (.l rfl (look_own 6 rfl rfl rfl rfl)) rfl ?_
          | refine ops_pl rfl rfl rfl (.l rfl (look_own 7 rfl rfl rfl rfl)) rfl ?_
          | refine ops_pl rfl rfl rfl (.l rfl (look_agg 0 rfl rfl rfl rfl)) rfl ?_
          | refine ops_pl rfl rfl rfl (.l rfl (look_agg 1 rfl rfl rfl rfl)) rfl ?_
          | refine ops_pl rfl rfl rfl (.l rfl (look_agg 2 rfl rfl rfl rfl)) rfl ?_
          | refine ops_pl rfl rfl rfl (.l rfl (look_agg 3 rfl rfl rfl rfl)) rfl ?_
          | refine ops_pl rfl rfl rfl (.l rfl (look_agg 4 rfl rfl rfl rfl)) rfl ?_
          | refine ops_pl rfl rfl rfl (.l rfl (look_agg 5 rfl rfl rfl rfl)) rfl ?_
          | refine ops_pl rfl rfl rfl (.l rfl (look_agg 6 rfl rfl rfl rfl)) rfl ?_
          | refine ops_pl rfl rfl rfl (.l rfl (look_agg 7 rfl rfl rfl rfl)) rfl ?_
          | refine ops_pl rfl rfl rfl (.l rfl (look_str 0 rfl rfl rfl rfl rfl rfl rfl)) rfl ?_
          | refine ops_pl rfl rfl rfl (.l rfl (look_str 1 rfl rfl rfl rfl rfl rfl rfl)) rfl ?_
          | refine ops_pl rfl rfl rfl (.l rfl (look_str 2 rfl rfl rfl rfl rfl rfl rfl)) rfl ?_
          | refine ops_pl rfl rfl rfl (.l rfl (look_str 3 rfl rfl rfl rfl rfl rfl rfl)) rfl ?_
          | refine ops_skip rfl rfl rfl ?_
          | (refine ops_step rfl rfl rfl ?_; first | (refine step_box rfl rfl rfl (fun _ => ?_)) | (refine step_alloc rfl rfl rfl rfl (fun _ => ?_)) | (refine step_buildSlice rfl rfl rfl rfl rfl (fun _ => ?_)) | (refine step_store 0 rfl rfl rfl rfl rfl rfl rfl rfl rfl ?_) | (refine step_store 1 rfl rfl rfl rfl rfl rfl rfl rfl rfl ?_) | (refine step_store 2 rfl rfl rfl rfl rfl rfl rfl rfl rfl ?_) | (refine step_store 3 rfl rfl rfl rfl rfl rfl rfl rfl rfl ?_) | (refine step_store 4 rfl rfl rfl rfl rfl rfl rfl rfl rfl ?_) | (refine step_store 5 rfl rfl rfl rfl rfl rfl rfl rfl rfl ?_) | (refine step_store 6 rfl rfl rfl rfl rfl rfl rfl rfl rfl ?_) | (refine step_store 7 rfl rfl rfl rfl rfl rfl rfl rfl rfl ?_)))
      refine ops_step rfl rfl rfl (step_call_pure rfl rfl rfl (fun H hs => prefixP_ok (hb.at hs) (ha.at hs) hm) ?_)
      repeat (first
          | refine exec_seq ?_
          | refine exec_region ?_
          | refine exec_block ?_
          | refine exec_skip ?_
          | refine exec_exit ?_
          | refine exec_ret ?_
          | refine exec_true rfl ?_
          | refine exec_false rfl ?_
          | refine ops_nil ?_
          | refine ops_pl rfl rfl rfl (.bld rfl rfl rfl rfl) rfl ?_
          | refine ops_pl rfl rfl rfl (.neSelf rfl rfl rfl rfl) rfl ?_
          | refine ops_pl rfl rfl rfl (.eqSelf rfl rfl rfl rfl) rfl ?_
          | refine ops_pl rfl rfl rfl (.wr64 rfl rfl (by omega) (by omega)) rfl ?_
          | refine ops_pl rfl rfl rfl (.wr8 rfl rfl (by omega) (by omega)) rfl ?_
          | refine ops_pl rfl rfl rfl (.p rfl rfl) rfl ?_
          | refine ops_pl rfl rfl rfl (.cv64 rfl (fun _ => rfl) (by omega) (by omega)) rfl ?_
          | refine ops_pl rfl rfl rfl (.cv8 rfl (fun _ => rfl) (by omega) (by omega)) rfl ?_
          | refine ops_pl rfl rfl rfl (.l rfl (fun _ _ => rfl)) rfl ?_
          | refine ops_pl rfl rfl rfl (.l rfl (look_own 0 rfl rfl rfl rfl)) rfl ?_
          | refine ops_pl rfl rfl rfl (.l rfl (look_own 1 rfl rfl rfl rfl)) rfl ?_
          | refine ops_pl rfl rfl rfl (.l rfl (look_own 2 rfl rfl rfl rfl)) rfl ?_
          | refine ops_pl rfl rfl rfl (.l rfl (look_own 3 rfl rfl rfl rfl)) rfl ?_
          | refine ops_pl rfl rfl rfl (.l rfl (look_own 4 rfl rfl rfl rfl)) rfl ?_
          | refine ops_pl rfl rfl rfl (.l rfl (look_own 5 rfl rfl rfl rfl)) rfl ?_
          | refine ops_pl rfl rfl rfl (.l rfl (look_own 6 rfl rfl rfl rfl)) rfl ?_
          | refine ops_pl rfl rfl rfl (.l rfl (look_own 7 rfl rfl rfl rfl)) rfl ?_
          | refine ops_pl rfl rfl rfl (.l rfl (look_agg 0 rfl rfl rfl rfl)) rfl ?_
          | refine ops_pl rfl rfl rfl (.l rfl (look_agg 1 rfl rfl rfl rfl)) rfl ?_
          | refine ops_pl rfl rfl rfl (.l rfl (look_agg 2 rfl rfl rfl rfl)) rfl ?_
          | refine ops_pl rfl rfl rfl (.l rfl (look_agg 3 rfl rfl rfl rfl)) rfl ?_
          | refine ops_pl rfl rfl rfl (.l rfl (look_agg 4 rfl rfl rfl rfl)) rfl ?_
          | refine ops_pl rfl rfl rfl (.l rfl (look_agg 5 rfl rfl rfl rfl)) rfl ?_
          | refine ops_pl rfl rfl rfl (.l rfl (look_agg 6 rfl rfl rfl rfl)) rfl ?_
          | refine ops_pl rfl rfl rfl (.l rfl (look_agg 7 rfl rfl rfl rfl)) rfl ?_
          | refine ops_pl rfl rfl rfl (.l rfl (look_str 0 rfl rfl rfl rfl rfl rfl rfl)) rfl ?_
          | refine ops_pl rfl rfl rfl (.l rfl (look_str 1 rfl rfl rfl rfl rfl rfl rfl)) rfl ?_
          | refine ops_pl rfl rfl rfl (.l rfl (look_str 2 rfl rfl rfl rfl rfl rfl rfl)) rfl ?_
          | refine ops_pl rfl rfl rfl (.l rfl (look_str 3 rfl rfl rfl rfl rfl rfl rfl)) rfl ?_
          | refine ops_skip rfl rfl rfl ?_
          | (refine ops_step rfl rfl rfl ?_; first | (refine step_box rfl rfl rfl (fun _ => ?_)) | (refine step_alloc rfl rfl rfl rfl (fun _ => ?_)) | (refine step_buildSlice rfl rfl rfl rfl rfl (fun _ => ?_)) | (refine step_store 0 rfl rfl rfl rfl rfl rfl rfl rfl rfl ?_) | (refine step_store 1 rfl rfl rfl rfl rfl rfl rfl rfl rfl ?_) | (refine step_store 2 rfl rfl rfl rfl rfl rfl rfl rfl rfl ?_) | (refine step_store 3 rfl rfl rfl rfl rfl rfl rfl rfl rfl ?_) | (refine step_store 4 rfl rfl rfl rfl rfl rfl rfl rfl rfl ?_) | (refine step_store 5 rfl rfl rfl rfl rfl rfl rfl rfl rfl ?_) | (refine step_store 6 rfl rfl rfl rfl rfl rfl rfl rfl rfl ?_) | (refine step_store 7 rfl rfl rfl rfl rfl rfl rfl rfl rfl ?_)))
      exact ⟨trivial, _, rfl, by simp [oneOf, agrees, alike, h1, h2]⟩
  · repeat (first
        | refine exec_seq ?_
        | refine exec_region ?_
        | refine exec_block ?_
        | refine exec_skip ?_
        | refine exec_exit ?_
        | refine exec_ret ?_
        | refine exec_true rfl ?_
        | refine exec_false rfl ?_
        | refine ops_nil ?_
        | refine ops_pl rfl rfl rfl (.bld rfl rfl rfl rfl) rfl ?_
        | refine ops_pl rfl rfl rfl (.neSelf rfl rfl rfl rfl) rfl ?_
        | refine ops_pl rfl rfl rfl (.eqSelf rfl rfl rfl rfl) rfl ?_
        | refine ops_pl rfl rfl rfl (.wr64 rfl rfl (by omega) (by omega)) rfl ?_
        | refine ops_pl rfl rfl rfl (.wr8 rfl rfl (by omega) (by omega)) rfl ?_
        | refine ops_pl rfl rfl rfl (.p rfl rfl) rfl ?_
        | refine ops_pl rfl rfl rfl (.cv64 rfl (fun _ => rfl) (by omega) (by omega)) rfl ?_
        | refine ops_pl rfl rfl rfl (.cv8 rfl (fun _ => rfl) (by omega) (by omega)) rfl ?_
        | refine ops_pl rfl rfl rfl (.l rfl (fun _ _ => rfl)) rfl ?_
        | refine ops_pl rfl rfl rfl (.l rfl (look_own 0 rfl rfl rfl rfl)) rfl ?_
        | refine ops_pl rfl rfl rfl (.l rfl (look_own 1 rfl rfl rfl rfl)) rfl ?_
        | refine ops_pl rfl rfl rfl (.l rfl (look_own 2 rfl rfl rfl rfl)) rfl ?_
        | refine ops_pl rfl rfl rfl (.l rfl (look_own 3 rfl rfl rfl rfl)) rfl ?_
        | refine ops_pl rfl rfl rfl (.l rfl (look_own 4 rfl rfl rfl rfl)) rfl ?_
        | refine ops_pl rfl rfl rfl (.l rfl (look_own 5 rfl rfl rfl rfl)) rfl ?_
        | refine ops_pl rfl rfl rfl (.l rfl (look_own 6 rfl rfl rfl rfl)) rfl ?_
        | refine ops_pl rfl rfl rfl (.l rfl (look_own 7 rfl rfl rfl rfl)) rfl ?_
        | refine ops_pl rfl rfl rfl (.l rfl (look_agg 0 rfl rfl rfl rfl)) rfl ?_
        | refine ops_pl rfl rfl rfl (.l rfl (look_agg 1 rfl rfl rfl rfl)) rfl ?_
        | refine ops_pl rfl rfl rfl (.l rfl (look_agg 2 rfl rfl rfl rfl)) rfl ?_
        | refine ops_pl rfl rfl rfl (.l rfl (look_agg 3 rfl rfl rfl rfl)) rfl ?_
        | refine ops_pl rfl rfl rfl (.l rfl (look_agg 4 rfl rfl rfl rfl)) rfl ?_
        | refine ops_pl rfl rfl rfl (.l rfl (look_agg 5 rfl rfl rfl rfl)) rfl ?_
        | refine ops_pl rfl rfl rfl (.l rfl (look_agg 6 rfl rfl rfl rfl)) rfl ?_
        | refine ops_pl rfl rfl rfl (.l rfl (look_agg 7 rfl rfl rfl rfl)) rfl ?_
        | refine ops_pl rfl rfl rfl (.l rfl (look_str 0 rfl rfl rfl rfl rfl rfl rfl)) rfl ?_
        | refine ops_pl rfl rfl rfl (.l rfl (look_str 1 rfl rfl rfl rfl rfl rfl rfl)) rfl ?_
        | refine ops_pl rfl rfl rfl (.l rfl (look_str 2 rfl rfl rfl rfl rfl rfl rfl)) rfl ?_
        | refine ops_pl rfl rfl rfl (.l rfl (look_str 3 rfl rfl rfl rfl rfl rfl rfl)) rfl ?_
        | refine ops_skip rfl rfl rfl ?_
        | (refine ops_step rfl rfl rfl ?_; first | (refine step_box rfl rfl rfl (fun _ => ?_)) | (refine step_alloc rfl rfl rfl rfl (fun _ => ?_)) | (refine step_buildSlice rfl rfl rfl rfl rfl (fun _ => ?_)) | (refine step_store 0 rfl rfl rfl rfl rfl rfl rfl rfl rfl ?_) | (refine step_store 1 rfl rfl rfl rfl rfl rfl rfl rfl rfl ?_) | (refine step_store 2 rfl rfl rfl rfl rfl rfl rfl rfl rfl ?_) | (refine step_store 3 rfl rfl rfl rfl rfl rfl rfl rfl rfl ?_) | (refine step_store 4 rfl rfl rfl rfl rfl rfl rfl rfl rfl ?_) | (refine step_store 5 rfl rfl rfl rfl rfl rfl rfl rfl rfl ?_) | (refine step_store 6 rfl rfl rfl rfl rfl rfl rfl rfl rfl ?_) | (refine step_store 7 rfl rfl rfl rfl rfl rfl rfl rfl rfl ?_)))
    refine ops_step rfl rfl rfl (step_call_pure rfl rfl rfl (fun H hs => callB_eq h1 wholeP_ok) ?_)
    repeat (first
        | refine exec_seq ?_
        | refine exec_region ?_
        | refine exec_block ?_
        | refine exec_skip ?_
        | refine exec_exit ?_
        | refine exec_ret ?_
        | refine exec_true rfl ?_
        | refine exec_false rfl ?_
        | refine ops_nil ?_
        | refine ops_pl rfl rfl rfl (.bld rfl rfl rfl rfl) rfl ?_
        | refine ops_pl rfl rfl rfl (.neSelf rfl rfl rfl rfl) rfl ?_
        | refine ops_pl rfl rfl rfl (.eqSelf rfl rfl rfl rfl) rfl ?_
        | refine ops_pl rfl rfl rfl (.wr64 rfl rfl (by omega) (by omega)) rfl ?_
        | refine ops_pl rfl rfl rfl (.wr8 rfl rfl (by omega) (by omega)) rfl ?_
        | refine ops_pl rfl rfl rfl (.p rfl rfl) rfl ?_
        | refine ops_pl rfl rfl rfl (.cv64 rfl (fun _ => rfl) (by omega) (by omega)) rfl ?_
        | refine ops_pl rfl rfl rfl (.cv8 rfl (fun _ => rfl) (by omega) (by omega)) rfl ?_
        | refine ops_pl rfl rfl rfl (.l rfl (fun _ _ => rfl)) rfl ?_
        | refine ops_pl rfl rfl rfl (.l rfl (look_own 0 rfl rfl rfl rfl)) rfl ?_
        | refine ops_pl rfl rfl rfl (.l rfl (look_own 1 rfl rfl rfl rfl)) rfl ?_
        | refine ops_pl rfl rfl rfl (.l rfl (look_own 2 rfl rfl rfl rfl)) rfl ?_
        | refine ops_pl rfl rfl rfl (.l rfl (look_own 3 rfl rfl rfl rfl)) rfl ?_
        | refine ops_pl rfl rfl rfl (.l rfl (look_own 4 rfl rfl rfl rfl)) rfl ?_
        | refine ops_pl rfl rfl rfl (.l rfl (look_own 5 rfl rfl rfl rfl)) rfl ?_
        | refine ops_pl rfl rfl rfl (.l rfl (look_own 6 rfl rfl rfl rfl)) rfl ?_
        | refine ops_pl rfl rfl rfl (.l rfl (look_own 7 rfl rfl rfl rfl)) rfl ?_
        | refine ops_pl rfl rfl rfl (.l rfl (look_agg 0 rfl rfl rfl rfl)) rfl ?_
        | refine ops_pl rfl rfl rfl (.l rfl (look_agg 1 rfl rfl rfl rfl)) rfl ?_
        | refine ops_pl rfl rfl rfl (.l rfl (look_agg 2 rfl rfl rfl rfl)) rfl ?_
        | refine ops_pl rfl rfl rfl (.l rfl (look_agg 3 rfl rfl rfl rfl)) rfl ?_
        | refine ops_pl rfl rfl rfl (.l rfl (look_agg 4 rfl rfl rfl rfl)) rfl ?_
        | refine ops_pl rfl rfl rfl (.l rfl (look_agg 5 rfl rfl rfl rfl)) rfl ?_
        | refine ops_pl rfl rfl rfl (.l rfl (look_agg 6 rfl rfl rfl rfl)) rfl ?_
        | refine ops_pl rfl rfl rfl (.l rfl (look_agg 7 rfl rfl rfl rfl)) rfl ?_
        | refine ops_pl rfl rfl rfl (.l rfl (look_str 0 rfl rfl rfl rfl rfl rfl rfl)) rfl ?_
        | refine ops_pl rfl rfl rfl (.l rfl (look_str 1 rfl rfl rfl rfl rfl rfl rfl)) rfl ?_
        | refine ops_pl rfl rfl rfl (.l rfl (look_str 2 rfl rfl rfl rfl rfl rfl rfl)) rfl ?_
        | refine ops_pl rfl rfl rfl (.l rfl (look_str 3 rfl rfl rfl rfl rfl rfl rfl)) rfl ?_
        | refine ops_skip rfl rfl rfl ?_
        | (refine ops_step rfl rfl rfl ?_; first | (refine step_box rfl rfl rfl (fun _ => ?_)) | (refine step_alloc rfl rfl rfl rfl (fun _ => ?_)) | (refine step_buildSlice rfl rfl rfl rfl rfl (fun _ => ?_)) | (refine step_store 0 rfl rfl rfl rfl rfl rfl rfl rfl rfl ?_) | (refine step_store 1 rfl rfl rfl rfl rfl rfl rfl rfl rfl ?_) | (refine step_store 2 rfl rfl rfl rfl rfl rfl rfl rfl rfl ?_) | (refine step_store 3 rfl rfl rfl rfl rfl rfl rfl rfl rfl ?_) | (refine step_store 4 rfl rfl rfl rfl rfl rfl rfl rfl rfl ?_) | (refine step_store 5 rfl rfl rfl rfl rfl rfl rfl rfl rfl ?_) | (refine step_store 6 rfl rfl rfl rfl rfl rfl rfl rfl rfl ?_) | (refine step_store 7 rfl rfl rfl rfl rfl rfl rfl rfl rfl ?_)))
    refine ops_step rfl rfl rfl (step_call_bool rfl rfl rfl (fun H hs => wholeP_ok) (fun h2 => ?_) (fun h2 => ?_))
    · repeat (first
          | refine exec_seq ?_
          | refine exec_region ?_
          | refine exec_block ?_
          | refine exec_skip ?_
          | refine exec_exit ?_
          | refine exec_ret ?_
          | refine exec_true rfl ?_
          | refine exec_false rfl ?_
          | refine ops_nil ?_
          | refine ops_pl rfl rfl rfl (.bld rfl rfl rfl rfl) rfl ?_
          | refine ops_pl rfl rfl rfl (.neSelf rfl rfl rfl rfl) rfl ?_
          | refine ops_pl rfl rfl rfl (.eqSelf rfl rfl rfl rfl) rfl ?_
          | refine ops_pl rfl rfl rfl (.wr64 rfl rfl (by omega) (by omega)) rfl ?_
          | refine ops_pl rfl rfl rfl (.wr8 rfl rfl (by omega) (by omega)) rfl ?_
          | refine ops_pl rfl rfl rfl (.p rfl rfl) rfl ?_
          | refine ops_pl rfl rfl rfl (.cv64 rfl (fun _ => rfl) (by omega) (by omega)) rfl ?_
          | refine ops_pl rfl rfl rfl (.cv8 rfl (fun _ => rfl) (by omega) (by omega)) rfl ?_
          | refine ops_pl rfl rfl rfl (.l rfl (fun _ _ => rfl)) rfl ?_
          | refine ops_pl rfl rfl rfl (.l rfl (look_own 0 rfl rfl rfl rfl)) rfl ?_
          | refine ops_pl rfl rfl rfl (.l rfl (look_own 1 rfl rfl rfl rfl)) rfl ?_
          | refine ops_pl rfl rfl rfl (.l rfl (look_own 2 rfl rfl rfl rfl)) rfl ?_
          | refine ops_pl rfl rfl rfl (.l rfl (look_own 3 rfl rfl rfl rfl)) rfl ?_
          | refine ops_pl rfl rfl rfl (.l rfl (look_own 4 rfl rfl rfl rfl)) rfl ?_
          | refine ops_pl rfl rfl rfl (.l rfl (look_own 5 rfl rfl rfl rfl)) rfl ?_
          | refine ops_pl rfl rfl rfl (.l rfl (look_own 6 rfl rfl rfl rfl)) rfl ?_
          | refine ops_pl rfl rfl rfl (.l rfl (look_own 7 rfl rfl rfl rfl)) rfl ?_
          | refine ops_pl rfl rfl rfl (.l rfl (look_agg 0 rfl rfl rfl rfl)) rfl ?_
          | refine ops_pl rfl rfl rfl (.l rfl (look_agg 1 rfl rfl rfl rfl)) rfl ?_
          | refine ops_pl rfl rfl rfl (.l rfl (look_agg 2 rfl rfl rfl rfl)) rfl ?_
          | refine ops_pl rfl rfl rfl (.l rfl (look_agg 3 rfl rfl rfl rfl)) rfl ?_
          | refine ops_pl rfl rfl rfl (.l rfl (look_agg 4 rfl rfl rfl rfl)) rfl ?_
          | refine ops_pl rfl rfl rfl (.l rfl (look_agg 5 rfl rfl rfl rfl)) rfl ?_
          | refine ops_pl rfl rfl rfl (.l rfl (look_agg 6 rfl rfl rfl rfl)) rfl ?_
          | refine ops_pl rfl rfl rfl (.l rfl (look_agg 7 rfl rfl rfl rfl)) rfl ?_
          | refine ops_pl rfl rfl rfl (.l rfl (look_str 0 rfl rfl rfl rfl rfl rfl rfl)) rfl ?_
          | refine ops_pl rfl rfl rfl (.l rfl (look_str 1 rfl rfl rfl rfl rfl rfl rfl)) rfl ?_
          | refine ops_pl rfl rfl rfl (.l rfl (look_str 2 rfl rfl rfl rfl rfl rfl rfl)) rfl ?_
          | refine ops_pl rfl rfl rfl (.l rfl (look_str 3 rfl rfl rfl rfl rfl rfl rfl)) rfl ?_
          | refine ops_skip rfl rfl rfl ?_
          | (refine ops_step rfl rfl rfl ?_; first | (refine step_box rfl rfl rfl (fun _ => ?_)) | (refine step_alloc rfl rfl rfl rfl (fun _ => ?_)) | (refine step_buildSlice rfl rfl rfl rfl rfl (fun _ => ?_)) | (refine step_store 0 rfl rfl rfl rfl rfl rfl rfl rfl rfl ?_) | (refine step_store 1 rfl rfl rfl rfl rfl rfl rfl rfl rfl ?_) | (refine step_store 2 rfl rfl rfl rfl rfl rfl rfl rfl rfl ?_) | (refine step_store 3 rfl rfl rfl rfl rfl rfl rfl rfl rfl ?_) | (refine step_store 4 rfl rfl rfl rfl rfl rfl rfl rfl rfl ?_) | (refine step_store 5 rfl rfl rfl rfl rfl rfl rfl rfl rfl ?_) | (refine step_store 6 rfl rfl rfl rfl rfl rfl rfl rfl rfl ?_) | (refine step_store 7 rfl rfl rfl rfl rfl rfl rfl rfl rfl ?_)))
      refine ops_step rfl rfl rfl (step_call_pure rfl rfl rfl (fun H hs => prefixP_ok (ha.at hs) (hb.at hs) hn) ?_)
      repeat (first
          | refine exec_seq ?_
          | refine exec_region ?_
          | refine exec_block ?_
          | refine exec_skip ?_
          | refine exec_exit ?_
          | refine exec_ret ?_
          | refine exec_true rfl ?_
          | refine exec_false rfl ?_
          | refine ops_nil ?_
          | refine ops_pl rfl rfl rfl (.bld rfl rfl rfl rfl) rfl ?_
          | refine ops_pl rfl rfl rfl (.neSelf rfl rfl rfl rfl) rfl ?_
          | refine ops_pl rfl rfl rfl (.eqSelf rfl rfl rfl rfl) rfl ?_
          | refine ops_pl rfl rfl rfl (.wr64 rfl rfl (by omega) (by omega)) rfl ?_
          | refine ops_pl rfl rfl rfl (.wr8 rfl rfl (by omega) (by omega)) rfl ?_
          | refine ops_pl rfl rfl rfl (.p rfl rfl) rfl ?_
          | refine ops_pl rfl rfl rfl (.cv64 rfl (fun _ => rfl) (by omega) (by omega)) rfl ?_
          | refine ops_pl rfl rfl rfl (.cv8 rfl (fun _ => rfl) (by omega) (by omega)) rfl ?_
          | refine ops_pl rfl rfl rfl (.l rfl (fun _ _ => rfl)) rfl ?_
          | refine ops_pl rfl rfl rfl (.l rfl (look_own 0 rfl rfl rfl rfl)) rfl ?_
          | refine ops_pl rfl rfl rfl (.l rfl (look_own 1 rfl rfl rfl rfl)) rfl ?_
          | refine ops_pl rfl rfl rfl (.l rfl (look_own 2 rfl rfl rfl rfl)) rfl ?_
          | refine ops_pl rfl rfl rfl (.l rfl (look_own 3 rfl rfl rfl rfl)) rfl ?_
          | refine ops_pl rfl rfl rfl (.l rfl (look_own 4 rfl rfl rfl rfl)) rfl ?_
          | refine ops_pl rfl rfl rfl (.l rfl (look_own 5 rfl rfl rfl rfl)) rfl ?_
          | refine ops_pl rfl rfl rfl (.l rfl (look_own 6 rfl rfl rfl rfl)) rfl ?_
          | refine ops_pl rfl rfl rfl (.l rfl (look_own 7 rfl rfl rfl rfl)) rfl ?_
          | refine ops_pl rfl rfl rfl (.l rfl (look_agg 0 rfl rfl rfl rfl)) rfl ?_
          | refine ops_pl rfl rfl rfl (.l rfl (look_agg 1 rfl rfl rfl rfl)) rfl ?_
          | refine ops_pl rfl rfl rfl (.l rfl (look_agg 2 rfl rfl rfl rfl)) rfl ?_
          | refine ops_pl rfl rfl rfl (.l rfl (look_agg 3 rfl rfl rfl rfl)) rfl ?_
          | refine ops_pl rfl rfl rfl (.l rfl (look_agg 4 rfl rfl rfl rfl)) rfl ?_
          | refine ops_pl rfl rfl rfl (.l rfl (look_agg 5 rfl rfl rfl rfl)) rfl ?_
          | refine ops_pl rfl rfl rfl (.l rfl (look_agg 6 rfl rfl rfl rfl)) rfl ?_
          | refine ops_pl rfl rfl rfl (.l rfl (look_agg 7 rfl rfl rfl rfl)) rfl ?_
          | refine ops_pl rfl rfl rfl (.l rfl (look_str 0 rfl rfl rfl rfl rfl rfl rfl)) rfl ?_
          | refine ops_pl rfl rfl rfl (.l rfl (look_str 1 rfl rfl rfl rfl rfl rfl rfl)) rfl ?_
          | refine ops_pl rfl rfl rfl (.l rfl (look_str 2 rfl rfl rfl rfl rfl rfl rfl)) rfl ?_
          | refine ops_pl rfl rfl rfl (.l rfl (look_str 3 rfl rfl rfl rfl rfl rfl rfl)) rfl ?_
          | refine ops_skip rfl rfl rfl ?_
          | (refine ops_step rfl rfl rfl ?_; first | (refine step_box rfl rfl rfl (fun _ => ?_)) | (refine step_alloc rfl rfl rfl rfl (fun _ => ?_)) | (refine step_buildSlice rfl rfl rfl rfl rfl (fun _ => ?_)) | (refine step_store 0 rfl rfl rfl rfl rfl rfl rfl rfl rfl ?_) | (refine step_store 1 rfl rfl rfl rfl rfl rfl rfl rfl rfl ?_) | (refine step_store 2 rfl rfl rfl rfl rfl rfl rfl rfl rfl ?_) | (refine step_store 3 rfl rfl rfl rfl rfl rfl rfl rfl rfl ?_) | (refine step_store 4 rfl rfl rfl rfl rfl rfl rfl rfl rfl ?_) | (refine step_store 5 rfl rfl rfl rfl rfl rfl rfl rfl rfl ?_) | (refine step_store 6 rfl rfl rfl rfl rfl rfl rfl rfl rfl ?_) | (refine step_store 7 rfl rfl rfl rfl rfl rfl rfl rfl rfl ?_)))
      exact ⟨trivial, _, rfl, by simp [oneOf, agrees, alike, h1, h2]⟩
    · repeat (first
          | refine exec_seq ?_
          | refine exec_region ?_
          | refine exec_block ?_
          | refine exec_skip ?_
          | refine exec_exit ?_
          | refine exec_ret ?_
          | refine exec_true rfl ?_
          | refine exec_false rfl ?_
          | refine ops_nil ?_
          | refine ops_pl rfl rfl rfl (.bld rfl rfl rfl rfl) rfl ?_
          | refine ops_pl rfl rfl rfl (.neSelf rfl rfl rfl rfl) rfl ?_
          | refine ops_pl rfl rfl rfl (.eqSelf rfl rfl rfl rfl) rfl ?_
          | refine ops_pl rfl rfl rfl (.wr64 rfl rfl (by omega) (by omega)) rfl ?_
          | refine ops_pl rfl rfl rfl (.wr8 rfl rfl (by omega) (by omega)) rfl ?_
          | refine ops_pl rfl rfl rfl (.p rfl rfl) rfl ?_
          | refine ops_pl rfl rfl rfl (.cv64 rfl (fun _ => rfl) (by omega) (by omega)) rfl ?_
          | refine ops_pl rfl rfl rfl (.cv8 rfl (fun _ => rfl) (by omega) (by omega)) rfl ?_
          | refine ops_pl rfl rfl rfl (.l rfl (fun _ _ => rfl)) rfl ?_
          | refine ops_pl rfl rfl rfl (.l rfl (look_own 0 rfl rfl rfl rfl)) rfl ?_
          | refine ops_pl rfl rfl rfl (.l rfl (look_own 1 rfl rfl rfl rfl)) rfl ?_
          | refine ops_pl rfl rfl rfl (.l rfl (look_own 2 rfl rfl rfl rfl)) rfl ?_
          | refine ops_pl rfl rfl rfl (.l rfl (look_own 3 rfl rfl rfl rfl)) rfl ?_
          | refine ops_pl rfl rfl rfl (.l rfl (look_own 4 rfl rfl rfl rfl)) rfl ?_
          | refine ops_pl rfl rfl rfl (.l rfl (look_own 5 rfl rfl rfl rfl)) rfl ?_
          | refine ops_pl rfl rfl rfl (.l rfl (look_own 6 rfl rfl rfl rfl)) rfl ?_
          | refine ops_pl rfl rfl rfl (.l rfl (look_own 7 rfl rfl rfl rfl)) rfl ?_
          | refine ops_pl rfl rfl rfl (.l rfl (look_agg 0 rfl rfl rfl rfl)) rfl ?_
          | refine ops_pl rfl rfl rfl (.l rfl (look_agg 1 rfl rfl rfl rfl)) rfl ?_
          | refine ops_pl rfl rfl rfl (.l rfl (look_agg 2 rfl rfl rfl rfl)) rfl ?_
          | refine ops_pl rfl rfl rfl (.l rfl (look_agg 3 rfl rfl rfl rfl)) rfl ?_
          | refine ops_pl rfl rfl rfl (.l rfl (look_agg 4 rfl rfl rfl rfl)) rfl ?_
          | refine ops_pl rfl rfl rfl (.l rfl (look_agg 5 rfl rfl rfl rfl)) rfl ?_
          | refine ops_pl rfl rfl rfl (.l rfl (look_agg 6 rfl rfl rfl rfl)) rfl ?_
          | refine ops_pl rfl rfl rfl (.l rfl (look_agg 7 rfl rfl rfl rfl)) rfl ?_
          | refine ops_pl rfl rfl rfl (.l rfl (look_str 0 rfl rfl rfl rfl rfl rfl rfl)) rfl ?_
          | refine ops_pl rfl rfl rfl (.l rfl (look_str 1 rfl rfl rfl rfl rfl rfl rfl)) rfl ?_
          | refine ops_pl rfl rfl rfl (.l rfl (look_str 2 rfl rfl rfl rfl rfl rfl rfl)) rfl ?_
          | refine ops_pl rfl rfl rfl (.l rfl (look_str 3 rfl rfl rfl rfl rfl rfl rfl)) rfl ?_
          | refine ops_skip rfl rfl rfl ?_
          | (refine ops_step rfl rfl rfl ?_; first | (refine step_box rfl rfl rfl (fun _ => ?_)) | (refine step_alloc rfl rfl rfl rfl (fun _ => ?_)) | (refine step_buildSlice rfl rfl rfl rfl rfl (fun _ => ?_)) | (refine step_store 0 rfl rfl rfl rfl rfl rfl rfl rfl rfl ?_) | (refine step_store 1 rfl rfl rfl rfl rfl rfl rfl rfl rfl ?_) | (refine step_store 2 rfl rfl rfl rfl rfl rfl rfl rfl rfl ?_) | (refine step_store 3 rfl rfl rfl rfl rfl rfl rfl rfl rfl ?_) | (refine step_store 4 rfl rfl rfl rfl rfl rfl rfl rfl rfl ?_) | (refine step_store 5 rfl rfl rfl rfl rfl rfl rfl rfl rfl ?_) | (refine step_store 6 rfl rfl rfl rfl rfl rfl rfl rfl rfl ?_) | (refine step_store 7 rfl rfl rfl rfl rfl rfl rfl rfl rfl ?_)))
      refine ops_step rfl rfl rfl (step_call_bool rfl rfl rfl (fun H hs => prefixP_ok (ha.at hs) (hb.at hs) hn) (fun h3 => ?_) (fun h3 => ?_))
      · repeat (first
            | refine exec_seq ?_
            | refine exec_region ?_
            | refine exec_block ?_
            | refine exec_skip ?_
            | refine exec_exit ?_
            | refine exec_ret ?_
            | refine exec_true rfl ?_
            | refine exec_false rfl ?_
            | refine ops_nil ?_
            | refine ops_pl rfl rfl rfl (.bld rfl rfl rfl rfl) rfl ?_
            | refine ops_pl rfl rfl rfl (.neSelf rfl rfl rfl rfl) rfl ?_
            | refine ops_pl rfl rfl rfl (.eqSelf rfl rfl rfl rfl) rfl ?_
            | refine ops_pl rfl rfl rfl (.wr64 rfl rfl (by omega) (by omega)) rfl ?_
            | refine ops_pl rfl rfl rfl (.wr8 rfl rfl (by omega) (by omega)) rfl ?_
            | refine ops_pl rfl rfl rfl (.p rfl rfl) rfl ?_
            | refine ops_pl rfl rfl rfl (.cv64 rfl (fun _ => rfl) (by omega) (by omega)) rfl ?_
            | refine ops_pl rfl rfl rfl (.cv8 rfl (fun _ => rfl) (by omega) (by omega)) rfl ?_
            | refine ops_pl rfl rfl rfl (.l rfl (fun _ _ => rfl)) rfl ?_
            | refine ops_pl rfl rfl rfl (.l rfl (look_own 0 rfl rfl rfl rfl)) rfl ?_
            | refine ops_pl rfl rfl rfl (.l rfl (look_own 1 rfl rfl rfl rfl)) rfl ?_
            | refine ops_pl rfl rfl rfl (.l rfl (look_own 2 rfl rfl rfl rfl)) rfl ?_
            | refine ops_pl rfl rfl rfl (.l rfl (look_own 3 rfl rfl rfl rfl)) rfl ?_
            | refine ops_pl rfl rfl rfl (.l rfl (look_own 4 rfl rfl rfl rfl)) rfl ?_
            | refine ops_pl rfl rfl rfl (.l rfl (look_own 5 rfl rfl rfl rfl)) rfl ?_
            | refine ops_pl rfl rfl rfl (.l rfl (look_own 6 rfl rfl rfl rfl)) rfl ?_
            | refine ops_pl rfl rfl rfl (.l rfl (look_own 7 rfl rfl rfl rfl)) rfl ?_
            | refine ops_pl rfl rfl rfl (.l rfl (look_agg 0 rfl rfl rfl rfl)) rfl ?_
            | refine ops_pl rfl rfl rfl (.l rfl (look_agg 1 rfl rfl rfl rfl)) rfl ?_
            | refine ops_pl rfl rfl rfl (.l rfl (look_agg 2 rfl rfl rfl rfl)) rfl ?_
            | refine ops_pl rfl rfl rfl (.l rfl (look_agg 3 rfl rfl rfl rfl)) rfl ?_
            | refine ops_pl rfl rfl rfl (.l rfl (look_agg 4 rfl rfl rfl rfl)) rfl ?_
            | refine ops_pl rfl rfl rfl (.l rfl (look_agg 5 rfl rfl rfl rfl)) rfl ?_
            | refine ops_pl rfl rfl rfl (.l rfl (look_agg 6 rfl rfl rfl rfl)) rfl ?_
            | refine ops_pl rfl rfl rfl (.l rfl (look_agg 7 rfl rfl rfl rfl)) rfl ?_
            | refine ops_pl rfl rfl rfl (.l rfl (look_str 0 rfl rfl rfl rfl rfl rfl rfl)) rfl ?_
            | refine ops_pl rfl rfl rfl (.l rfl (look_str 1 rfl rfl rfl rfl rfl rfl rfl)) rfl ?_
            | refine ops_pl rfl rfl rfl (.l rfl (look_str 2 rfl rfl rfl rfl rfl rfl rfl)) rfl ?_
            | refine ops_pl rfl rfl rfl (.l rfl (look_str 3 rfl rfl rfl rfl rfl rfl rfl)) rfl ?_
            | refine ops_skip rfl rfl rfl ?_
            | (refine ops_step rfl rfl rfl ?_; first | (refine step_box rfl rfl rfl (fun _ => ?_)) | (refine step_alloc rfl rfl rfl rfl (fun _ => ?_)) | (refine step_buildSlice rfl rfl rfl rfl rfl (fun _ => ?_)) | (refine step_store 0 rfl rfl rfl rfl rfl rfl rfl rfl rfl ?_) | (refine step_store 1 rfl rfl rfl rfl rfl rfl rfl rfl rfl ?_) | (refine step_store 2 rfl rfl rfl rfl rfl rfl rfl rfl rfl ?_) | (refine step_store 3 rfl rfl rfl rfl rfl rfl rfl rfl rfl ?_) | (refine step_store 4 rfl rfl rfl rfl rfl rfl rfl rfl rfl ?_) | (refine step_store 5 rfl rfl rfl rfl rfl rfl rfl rfl rfl ?_) | (refine step_store 6 rfl rfl rfl rfl rfl rfl rfl rfl rfl ?_) | (refine step_store 7 rfl rfl rfl rfl rfl rfl rfl rfl rfl ?_)))
        exact ⟨trivial, _, rfl, by simp [oneOf, agrees, alike, h1, h2, h3]⟩
      · repeat (first
            | refine exec_seq ?_
            | refine exec_region ?_
            | refine exec_block ?_
            | refine exec_skip ?_
            | refine exec_exit ?_
            | refine exec_ret ?_
            | refine exec_true rfl ?_
            | refine exec_false rfl ?_
            | refine ops_nil ?_
            | refine ops_pl rfl rfl rfl (.bld rfl rfl rfl rfl) rfl ?_
            | refine ops_pl rfl rfl rfl (.neSelf rfl rfl rfl rfl) rfl ?_
            | refine ops_pl rfl rfl rfl (.eqSelf rfl rfl rfl rfl) rfl ?_
            | refine ops_pl rfl rfl rfl (.wr64 rfl rfl (by omega) (by omega)) rfl ?_
            | refine ops_pl rfl rfl rfl (.wr8 rfl rfl (by omega) (by omega)) rfl ?_
            | refine ops_pl rfl rfl rfl (.p rfl rfl) rfl ?_
            | refine ops_pl rfl rfl rfl (.cv64 rfl (fun _ => rfl) (by omega) (by omega)) rfl ?_
            | refine ops_pl rfl rfl rfl (.cv8 rfl (fun _ => rfl) (by omega) (by omega)) rfl ?_
            | refine ops_pl rfl rfl rfl (.l rfl (fun _ _ => rfl)) rfl ?_
            | refine ops_pl rfl rfl rfl (.l rfl (look_own 0 rfl rfl rfl rfl)) rfl ?_
            | refine ops_pl rfl rfl rfl (.l rfl (look_own 1 rfl rfl rfl rfl)) rfl ?_
            | refine ops_pl rfl rfl rfl (.l rfl (look_own 2 rfl rfl rfl rfl)) rfl ?_
            | refine ops_pl rfl rfl rfl (.l rfl (look_own 3 rfl rfl rfl rfl)) rfl ?_
            | refine ops_pl rfl rfl rfl (.l rfl (look_own 4 rfl rfl rfl rfl)) rfl ?_
            | refine ops_pl rfl rfl rfl (.l rfl (look_own 5 rfl rfl rfl rfl)) rfl ?_
            | refine ops_pl rfl rfl rfl (.l rfl (look_own 6 rfl rfl rfl rfl)) rfl ?_
            | refine ops_pl rfl rfl rfl (.l rfl (look_own 7 rfl rfl rfl rfl)) rfl ?_
            | refine ops_pl rfl rfl rfl (.l rfl (look_agg 0 rfl rfl rfl rfl)) rfl ?_
            | refine ops_pl rfl rfl rfl (.l rfl (look_agg 1 rfl rfl rfl rfl)) rfl ?_
            | refine ops_pl rfl rfl rfl (.l rfl (look_agg 2 rfl rfl rfl rfl)) rfl ?_
            | refine ops_pl rfl rfl rfl (.l rfl (look_agg 3 rfl rfl rfl rfl)) rfl ?_
            | refine ops_pl rfl rfl rfl (.l rfl (look_agg 4 rfl rfl rfl rfl)) rfl ?_
            | refine ops_pl rfl rfl rfl (.l rfl (look_agg 5 rfl rfl rfl rfl)) rfl ?_
            | refine ops_pl rfl rfl rfl (.l rfl (look_agg 6 rfl rfl rfl rfl)) rfl ?_
            | refine ops_pl rfl rfl rfl (.l rfl (look_agg 7 rfl rfl rfl rfl)) rfl ?_
            | refine ops_pl rfl rfl rfl (.l rfl (look_str 0 rfl rfl rfl rfl rfl rfl rfl)) rfl ?_
            | refine ops_pl rfl rfl rfl (.l rfl (look_str 1 rfl rfl rfl rfl rfl rfl rfl)) rfl ?_
            | refine ops_pl rfl rfl rfl (.l rfl (look_str 2 rfl rfl rfl rfl rfl rfl rfl)) rfl ?_
            | refine ops_pl rfl rfl rfl (.l rfl (look_str 3 rfl rfl rfl rfl rfl rfl rfl)) rfl ?_
            | refine ops_skip rfl rfl rfl ?_
            | (refine ops_step rfl rfl rfl ?_; first | (refine step_box rfl rfl rfl (fun _ => ?_)) | (refine step_alloc rfl rfl rfl rfl (fun _ => ?_)) | (refine step_buildSlice rfl rfl rfl rfl rfl (fun _ => ?_)) | (refine step_store 0 rfl rfl rfl rfl rfl rfl rfl rfl rfl ?_) | (refine step_store 1 rfl rfl rfl rfl rfl rfl rfl rfl rfl ?_) | (refine step_store 2 rfl rfl rfl rfl rfl rfl rfl rfl rfl ?_) | (refine step_store 3 rfl rfl rfl rfl rfl rfl rfl rfl rfl ?_) | (refine step_store 4 rfl rfl rfl rfl rfl rfl rfl rfl rfl ?_) | (refine step_store 5 rfl rfl rfl rfl rfl rfl rfl rfl rfl ?_) | (refine step_store 6 rfl rfl rfl rfl rfl rfl rfl rfl rfl ?_) | (refine step_store 7 rfl rfl rfl rfl rfl rfl rfl rfl rfl ?_)))
        refine ops_step rfl rfl rfl (step_call_pure rfl rfl rfl (fun H hs => prefixP_ok (hb.at hs) (ha.at hs) hm) ?_)
        repeat (first
            | refine exec_seq ?_
            | refine exec_region ?_
            | refine exec_block ?_
            | refine exec_skip ?_
            | refine exec_exit ?_
            | refine exec_ret ?_
            | refine exec_true rfl ?_
            | refine exec_false rfl ?_
            | refine ops_nil ?_
            | refine ops_pl rfl rfl rfl (.bld rfl rfl rfl rfl) rfl ?_
            | refine ops_pl rfl rfl rfl (.neSelf rfl rfl rfl rfl) rfl ?_
            | refine ops_pl rfl rfl rfl (.eqSelf rfl rfl rfl rfl) rfl ?_
            | refine ops_pl rfl rfl rfl (.wr64 rfl rfl (by omega) (by omega)) rfl ?_
            | refine ops_pl rfl rfl rfl (.wr8 rfl rfl (by omega) (by omega)) rfl ?_
            | refine ops_pl rfl rfl rfl (.p rfl rfl) rfl ?_
            | refine ops_pl rfl rfl rfl (.cv64 rfl (fun _ => rfl) (by omega) (by omega)) rfl ?_
            | refine ops_pl rfl rfl rfl (.cv8 rfl (fun _ => rfl) (by omega) (by omega)) rfl ?_
            | refine ops_pl rfl rfl rfl (.l rfl (fun _ _ => rfl)) rfl ?_
            | refine ops_pl rfl rfl rfl (.l rfl (look_own 0 rfl rfl rfl rfl)) rfl ?_
            | refine ops_pl rfl rfl rfl (.l rfl (look_own 1 rfl rfl rfl rfl)) rfl ?_
            | refine ops_pl rfl rfl rfl (.l rfl (look_own 2 rfl rfl rfl rfl)) rfl ?_
            | refine ops_pl rfl rfl rfl (.l rfl (look_own 3 rfl rfl rfl rfl)) rfl ?_
            | refine ops_pl rfl rfl rfl (.l rfl (look_own 4 rfl rfl rfl rfl)) rfl ?_
            | refine ops_pl rfl rfl rfl (.l rfl (look_own 5 rfl rfl rfl rfl)) rfl ?_
            | refine ops_pl rfl rfl rfl (.l rfl (look_own 6 rfl rfl rfl rfl)) rfl ?_
            | refine ops_pl rfl rfl rfl (.l rfl (look_own 7 rfl rfl rfl rfl)) rfl ?_
            | refine ops_pl rfl rfl rfl (.l rfl (look_agg 0 rfl rfl rfl rfl)) rfl ?_
            | refine ops_pl rfl rfl rfl (.l rfl (look_agg 1 rfl rfl rfl rfl)) rfl ?_
            | refine ops_pl rfl rfl rfl (.l rfl (look_agg 2 rfl rfl rfl rfl)) rfl ?_
            | refine ops_pl rfl rfl rfl (.l rfl (look_agg 3 rfl rfl rfl rfl)) rfl ?_
            | refine ops_pl rfl rfl rfl (.l rfl (look_agg 4 rfl rfl rfl rfl)) rfl ?_
            | refine ops_pl rfl rfl rfl (.l rfl (look_agg 5 rfl rfl rfl rfl)) rfl ?_
            | refine ops_pl rfl rfl rfl (.l rfl (look_agg 6 rfl rfl rfl rfl)) rfl ?_
            | refine ops_pl rfl rfl rfl (.l rfl (look_agg 7 rfl rfl rfl rfl)) rfl ?_
            | refine ops_pl rfl rfl rfl (.l rfl (look_str 0 rfl rfl rfl rfl rfl rfl rfl)) rfl ?_
            | refine ops_pl rfl rfl rfl (.l rfl (look_str 1 rfl rfl rfl rfl rfl rfl rfl)) rfl ?_
            | refine ops_pl rfl rfl rfl (.l rfl (look_str 2 rfl rfl rfl rfl rfl rfl rfl)) rfl ?_
            | refine ops_pl rfl rfl rfl (.l rfl (look_str 3 rfl rfl rfl rfl rfl rfl rfl)) rfl ?_
            | refine ops_skip rfl rfl rfl ?_
            | (refine ops_step rfl rfl rfl ?_; first | (refine step_box rfl rfl rfl (fun _ => ?_)) | (refine step_alloc rfl rfl rfl rfl (fun _ => ?_)) | (refine step_buildSlice rfl rfl rfl rfl rfl (fun _ => ?_)) | (refine step_store 0 rfl rfl rfl rfl rfl rfl rfl rfl rfl ?_) | (refine step_store 1 rfl rfl rfl rfl rfl rfl rfl rfl rfl ?_) | (refine step_store 2 rfl rfl rfl rfl rfl rfl rfl rfl rfl ?_) | (refine step_store 3 rfl rfl rfl rfl rfl rfl rfl rfl rfl ?_) | (refine step_store 4 rfl rfl rfl rfl rfl rfl rfl rfl rfl ?_) | (refine step_store 5 rfl rfl rfl rfl rfl rfl rfl rfl rfl ?_) | (refine step_store 6 rfl rfl rfl rfl rfl rfl rfl rfl rfl ?_) | (refine step_store 7 rfl rfl rfl rfl rfl rfl rfl rfl rfl ?_)))
        exact ⟨trivial, _, rfl, by simp [oneOf, agrees, alike, h1, h2, h3]⟩


set_option maxRecDepth 100000 in
theorem prefixR_ok {H : Heap} {aa ab : Option Addr} {n m ca cb : Nat} {la lb : List (List UInt8)} (ha : Sl O H (.slice aa n ca) 1 n (la.map str)) (hb : Sl O H (.slice ab m cb) 1 m (lb.map str)) (hn : n ≤ 1073741824) :
    CallC TT O 15 [.slice aa n ca, .slice ab m cb] H fun v H' => v = .bool (pre la lb) ∧ Ext H H' := by
  have hla : la.length = n := by have := ha.1; simpa using this
  have hlb : lb.length = m := by have := hb.1; simpa using this
  refine call_pure rfl rfl rfl rfl rfl ?_
  repeat (first
      | refine exec_seq ?_
      | refine exec_region ?_
      | refine exec_block ?_
      | refine exec_skip ?_
      | refine exec_exit ?_
      | refine exec_ret ?_
      | refine exec_true rfl ?_
      | refine exec_false rfl ?_
      | refine ops_nil ?_
      | refine ops_pl rfl rfl rfl (.bld rfl rfl rfl rfl) rfl ?_
      | refine ops_pl rfl rfl rfl (.neSelf rfl rfl rfl rfl) rfl ?_
      | refine ops_pl rfl rfl rfl (.eqSelf rfl rfl rfl rfl) rfl ?_
      | refine ops_pl rfl rfl rfl (.wr64 rfl rfl (by omega) (by omega)) rfl ?_
      | refine ops_pl rfl rfl rfl (.wr8 rfl rfl (by omega) (by omega)) rfl ?_
      | refine ops_pl rfl rfl rfl (.p rfl rfl) rfl ?_
      | refine ops_pl rfl rfl rfl (.cv64 rfl (fun _ => rfl) (by omega) (by omega)) rfl ?_
      | refine ops_pl rfl rfl rfl (.cv8 rfl (fun _ => rfl) (by omega) (by omega)) rfl ?_
      | refine ops_pl rfl rfl rfl (.l rfl (fun _ _ => rfl)) rfl ?_
      | refine ops_pl rfl rfl rfl (.l rfl (look_own 0 rfl rfl rfl rfl)) rfl ?_
      | refine ops_pl rfl rfl rfl (.l rfl (look_own 1 rfl rfl rfl rfl)) rfl ?_
      | refine ops_pl rfl rfl rfl (.l rfl (look_own 2 rfl rfl rfl rfl)) rfl ?_
      | refine ops_pl rfl rfl rfl (.l rfl (look_own 3 rfl rfl rfl rfl)) rfl ?_
      | refine ops_pl rfl rfl rfl (.l rfl (look_own 4 rfl rfl rfl rfl)) rfl ?_
      | refine ops_pl rfl rfl rfl (.l rfl (look_own 5 rfl rfl rfl rfl)) rfl ?_
      | refine ops_pl rfl rfl rfl (.l rfl (look_own 6 rfl rfl rfl rfl)) rfl ?_
      | refine ops_pl rfl rfl rfl (.l rfl (look_own 7 rfl rfl rfl rfl)) rfl ?_
      | refine ops_pl rfl rfl rfl (.l rfl (look_agg 0 rfl rfl rfl rfl)) rfl ?_
      | refine ops_pl rfl rfl rfl (.l rfl (look_agg 1 rfl rfl rfl rfl)) rfl ?_
      | refine ops_pl rfl rfl rfl (.l rfl (look_agg 2 rfl rfl rfl rfl)) rfl ?_
      | refine ops_pl rfl rfl rfl (.l rfl (look_agg 3 rfl rfl rfl rfl)) rfl ?_
      | refine ops_pl rfl rfl rfl (.l rfl (look_agg 4 rfl rfl rfl rfl)) rfl ?_
      | refine ops_pl rfl rfl rfl (.l rfl (look_agg 5 rfl rfl rfl rfl)) rfl ?_
      | refine ops_pl rfl rfl rfl (.l rfl (look_agg 6 rfl rfl rfl rfl)) rfl ?_
      | refine ops_pl rfl rfl rfl (.l rfl (look_agg 7 rfl rfl rfl rfl)) rfl ?_
      | refine ops_pl rfl rfl rfl (.l rfl (look_str 0 rfl rfl rfl rfl rfl rfl rfl)) rfl ?_
      | refine ops_pl rfl rfl rfl (.l rfl (look_str 1 rfl rfl rfl rfl rfl rfl rfl)) rfl ?_
      | refine ops_pl rfl rfl rfl (.l rfl (look_str 2 rfl rfl rfl rfl rfl rfl rfl)) rfl ?_
      | refine ops_pl rfl rfl rfl (.l rfl (look_str 3 rfl rfl rfl rfl rfl rfl rfl)) rfl ?_
      | refine ops_skip rfl rfl rfl ?_
      | (refine ops_step rfl rfl rfl ?_; first | (refine step_box rfl rfl rfl (fun _ => ?_)) | (refine step_alloc rfl rfl rfl rfl (fun _ => ?_)) | (refine step_buildSlice rfl rfl rfl rfl rfl (fun _ => ?_)) | (refine step_store 0 rfl rfl rfl rfl rfl rfl rfl rfl rfl ?_) | (refine step_store 1 rfl rfl rfl rfl rfl rfl rfl rfl rfl ?_) | (refine step_store 2 rfl rfl rfl rfl rfl rfl rfl rfl rfl ?_) | (refine step_store 3 rfl rfl rfl rfl rfl rfl rfl rfl rfl ?_) | (refine step_store 4 rfl rfl rfl rfl rfl rfl rfl rfl rfl ?_) | (refine step_store 5 rfl rfl rfl rfl rfl rfl rfl rfl rfl ?_) | (refine step_store 6 rfl rfl rfl rfl rfl rfl rfl rfl rfl ?_) | (refine step_store 7 rfl rfl rfl rfl rfl rfl rfl rfl rfl ?_)))
  cases hle : decide ((n : Int) ≤ (m : Int))
  · repeat (first
        | refine exec_seq ?_
        | refine exec_region ?_
        | refine exec_block ?_
        | refine exec_skip ?_
        | refine exec_exit ?_
        | refine exec_ret ?_
        | refine exec_true rfl ?_
        | refine exec_false rfl ?_
        | refine ops_nil ?_
        | refine ops_pl rfl rfl rfl (.bld rfl rfl rfl rfl) rfl ?_
        | refine ops_pl rfl rfl rfl (.neSelf rfl rfl rfl rfl) rfl ?_
        | refine ops_pl rfl rfl rfl (.eqSelf rfl rfl rfl rfl) rfl ?_
        | refine ops_pl rfl rfl rfl (.wr64 rfl rfl (by omega) (by omega)) rfl ?_
        | refine ops_pl rfl rfl rfl (.wr8 rfl rfl (by omega) (by omega)) rfl ?_
        | refine ops_pl rfl rfl rfl (.p rfl rfl) rfl ?_
        | refine ops_pl rfl rfl rfl (.cv64 rfl (fun _ => rfl) (by omega) (by omega)) rfl ?_
        | refine ops_pl rfl rfl rfl (.cv8 rfl (fun _ => rfl) (by omega) (by omega)) rfl ?_
        | refine ops_pl rfl rfl rfl (.l rfl (fun _ _ => rfl)) rfl ?_
        | refine ops_pl rfl rfl rfl (.l rfl (look_own 0 rfl rfl rfl rfl)) rfl ?_
        | refine ops_pl rfl rfl rfl (.l rfl (look_own 1 rfl rfl rfl rfl)) rfl ?_
        | refine ops_pl rfl rfl rfl (.l rfl (look_own 2 rfl rfl rfl rfl)) rfl ?_
        | refine ops_pl rfl rfl rfl (.l rfl (look_own 3 rfl rfl rfl rfl)) rfl ?_
        | refine ops_pl rfl rfl rfl (.l rfl (look_own 4 rfl rfl rfl rfl)) rfl ?_
        | refine ops_pl rfl rfl rfl (.l rfl (look_own 5 rfl rfl rfl rfl)) rfl ?_
        | refine ops_pl rfl rfl rfl (.l rfl (look_own 6 rfl rfl rfl rfl)) rfl ?_
        | refine ops_pl rfl rfl rfl (.l rfl (look_own 7 rfl rfl rfl rfl)) rfl ?_
        | refine ops_pl rfl rfl rfl (.l rfl (look_agg 0 rfl rfl rfl rfl)) rfl ?_
        | refine ops_pl rfl rfl rfl (.l rfl (look_agg 1 rfl rfl rfl rfl)) rfl ?_
        | refine ops_pl rfl rfl rfl (.l rfl (look_agg 2 rfl rfl rfl rfl)) rfl ?_
        | refine ops_pl rfl rfl rfl (.l rfl (look_agg 3 rfl rfl rfl rfl)) rfl ?_
        | refine ops_pl rfl rfl rfl (.l rfl (look_agg 4 rfl rfl rfl rfl)) rfl ?_
        | refine ops_pl rfl rfl rfl (.l rfl (look_agg 5 rfl rfl rfl rfl)) rfl ?_
        | refine ops_pl rfl rfl rfl (.l rfl (look_agg 6 rfl rfl rfl rfl)) rfl ?_
        | refine ops_pl rfl rfl rfl (.l rfl (look_agg 7 rfl rfl rfl rfl)) rfl ?_
        | refine ops_pl rfl rfl rfl (.l rfl (look_str 0 rfl rfl rfl rfl rfl rfl rfl)) rfl ?_
        | refine ops_pl rfl rfl rfl (.l rfl (look_str 1 rfl rfl rfl rfl rfl rfl rfl)) rfl ?_
        | refine ops_pl rfl rfl rfl (.l rfl (look_str 2 rfl rfl rfl rfl rfl rfl rfl)) rfl ?_
        | refine ops_pl rfl rfl rfl (.l rfl (look_str 3 rfl rfl rfl rfl rfl rfl rfl)) rfl ?_
        | refine ops_skip rfl rfl rfl ?_
        | (refine ops_step rfl rfl rfl ?_; first | (refine step_box rfl rfl rfl (fun _ => ?_)) | (refine step_alloc rfl rfl rfl rfl (fun _ => ?_)) | (refine step_buildSlice rfl rfl rfl rfl rfl (fun _ => ?_)) | (refine step_store 0 rfl rfl rfl rfl rfl rfl rfl rfl rfl ?_) | (refine step_store 1 rfl rfl rfl rfl rfl rfl rfl rfl rfl ?_) | (refine step_store 2 rfl rfl rfl rfl rfl rfl rfl rfl rfl ?_) | (refine step_store 3 rfl rfl rfl rfl rfl rfl rfl rfl rfl ?_) | (refine step_store 4 rfl rfl rfl rfl rfl rfl rfl rfl rfl ?_) | (refine step_store 5 rfl rfl rfl rfl rfl rfl rfl rfl rfl ?_) | (refine step_store 6 rfl rfl rfl rfl rfl rfl rfl rfl rfl ?_) | (refine step_store 7 rfl rfl rfl rfl rfl rfl rfl rfl rfl ?_)))
    refine ⟨trivial, _, rfl, ?_⟩
    have : la ≠ lb.take la.length := fun e => by
      have := congrArg List.length e
      simp at this hle
      omega
    simp [oneOf, pre, this]
  · have hle' : n ≤ m := by simp at hle; omega
    repeat (first
        | refine exec_seq ?_
        | refine exec_region ?_
        | refine exec_block ?_
        | refine exec_skip ?_
        | refine exec_exit ?_
        | refine exec_ret ?_
        | refine exec_true rfl ?_
        | refine exec_false rfl ?_
        | refine ops_nil ?_
        | refine ops_pl rfl rfl rfl (.bld rfl rfl rfl rfl) rfl ?_
        | refine ops_pl rfl rfl rfl (.neSelf rfl rfl rfl rfl) rfl ?_
        | refine ops_pl rfl rfl rfl (.eqSelf rfl rfl rfl rfl) rfl ?_
        | refine ops_pl rfl rfl rfl (.wr64 rfl rfl (by omega) (by omega)) rfl ?_
        | refine ops_pl rfl rfl rfl (.wr8 rfl rfl (by omega) (by omega)) rfl ?_
        | refine ops_pl rfl rfl rfl (.p rfl rfl) rfl ?_
        | refine ops_pl rfl rfl rfl (.cv64 rfl (fun _ => rfl) (by omega) (by omega)) rfl ?_
        | refine ops_pl rfl rfl rfl (.cv8 rfl (fun _ => rfl) (by omega) (by omega)) rfl ?_
        | refine ops_pl rfl rfl rfl (.l rfl (fun _ _ => rfl)) rfl ?_
        | refine ops_pl rfl rfl rfl (.l rfl (look_own 0 rfl rfl rfl rfl)) rfl ?_
        | refine ops_pl rfl rfl rfl (.l rfl (look_own 1 rfl rfl rfl rfl)) rfl ?_
        | refine ops_pl rfl rfl rfl (.l rfl (look_own 2 rfl rfl rfl rfl)) rfl ?_
        | refine ops_pl rfl rfl rfl (.l rfl (look_own 3 rfl rfl rfl rfl)) rfl ?_
        | refine ops_pl rfl rfl rfl (.l rfl (look_own 4 rfl rfl rfl rfl)) rfl ?_
        | refine ops_pl rfl rfl rfl (.l rfl (look_own 5 rfl rfl rfl rfl)) rfl ?_
        | refine ops_pl rfl rfl rfl (.l rfl (look_own 6 rfl rfl rfl rfl)) rfl ?_
        | refine ops_pl rfl rfl rfl (.l rfl (look_own 7 rfl rfl rfl rfl)) rfl ?_
        | refine ops_pl rfl rfl rfl (.l rfl (look_agg 0 rfl rfl rfl rfl)) rfl ?_
        | refine ops_pl rfl rfl rfl (.l rfl (look_agg 1 rfl rfl rfl rfl)) rfl ?_
        | refine ops_pl rfl rfl rfl (.l rfl (look_agg 2 rfl rfl rfl rfl)) rfl ?_
        | refine ops_pl rfl rfl rfl (.l rfl (look_agg 3 rfl rfl rfl rfl)) rfl ?_
        | refine ops_pl rfl rfl rfl (.l rfl (look_agg 4 rfl rfl rfl rfl)) rfl ?_
        | refine ops_pl rfl rfl rfl (.l rfl (look_agg 5 rfl rfl rfl rfl)) rfl ?_
        | refine ops_pl rfl rfl rfl (.l rfl (look_agg 6 rfl rfl rfl rfl)) rfl ?_
        | refine ops_pl rfl rfl rfl (.l rfl (look_agg 7 rfl rfl rfl rfl)) rfl ?_
        | refine ops_pl rfl rfl rfl (.l rfl (look_str 0 rfl rfl rfl rfl rfl rfl rfl)) rfl ?_
        | refine ops_pl rfl rfl rfl (.l rfl (look_str 1 rfl rfl rfl rfl rfl rfl rfl)) rfl ?_
        | refine ops_pl rfl rfl rfl (.l rfl (look_str 2 rfl rfl rfl rfl rfl rfl rfl)) rfl ?_
        | refine ops_pl rfl rfl rfl (.l rfl (look_str 3 rfl rfl rfl rfl rfl rfl rfl)) rfl ?_
        | refine ops_skip rfl rfl rfl ?_
        | (refine ops_step rfl rfl rfl ?_; first | (refine step_box rfl rfl rfl (fun _ => ?_)) | (refine step_alloc rfl rfl rfl rfl (fun _ => ?_)) | (refine step_buildSlice rfl rfl rfl rfl rfl (fun _ => ?_)) | (refine step_store 0 rfl rfl rfl rfl rfl rfl rfl rfl rfl ?_) | (refine step_store 1 rfl rfl rfl rfl rfl rfl rfl rfl rfl ?_) | (refine step_store 2 rfl rfl rfl rfl rfl rfl rfl rfl rfl ?_) | (refine step_store 3 rfl rfl rfl rfl rfl rfl rfl rfl rfl ?_) | (refine step_store 4 rfl rfl rfl rfl rfl rfl rfl rfl rfl ?_) | (refine step_store 5 rfl rfl rfl rfl rfl rfl rfl rfl rfl ?_) | (refine step_store 6 rfl rfl rfl rfl rfl rfl rfl rfl rfl ?_) | (refine step_store 7 rfl rfl rfl rfl rfl rfl rfl rfl rfl ?_)))
    first | refine ops_pl rfl rfl rfl (.l rfl (look_cut (l := 0) (h := n) rfl rfl rfl rfl (by omega) rfl (by omega) (fun H hs => hb.at hs) rfl rfl (by omega) (by omega))) rfl ?_ | refine draw_pl rfl rfl rfl rfl (.l rfl (look_cut (l := 0) (h := n) rfl rfl rfl rfl (by omega) rfl (by omega) (fun H hs => hb.at hs) rfl rfl (by omega) (by omega))) rfl rfl ?_
    repeat (first
        | refine exec_seq ?_
        | refine exec_region ?_
        | refine exec_block ?_
        | refine exec_skip ?_
        | refine exec_exit ?_
        | refine exec_ret ?_
        | refine exec_true rfl ?_
        | refine exec_false rfl ?_
        | refine ops_nil ?_
        | refine ops_pl rfl rfl rfl (.bld rfl rfl rfl rfl) rfl ?_
        | refine ops_pl rfl rfl rfl (.neSelf rfl rfl rfl rfl) rfl ?_
        | refine ops_pl rfl rfl rfl (.eqSelf rfl rfl rfl rfl) rfl ?_
        | refine ops_pl rfl rfl rfl (.wr64 rfl rfl (by omega) (by omega)) rfl ?_
        | refine ops_pl rfl rfl rfl (.wr8 rfl rfl (by omega) (by omega)) rfl ?_
        | refine ops_pl rfl rfl rfl (.p rfl rfl) rfl ?_
        | refine ops_pl rfl rfl rfl (.cv64 rfl (fun _ => rfl) (by omega) (by omega)) rfl ?_
        | refine ops_pl rfl rfl rfl (.cv8 rfl (fun _ => rfl) (by omega) (by omega)) rfl ?_
        | refine ops_pl rfl rfl rfl (.l rfl (fun _ _ => rfl)) rfl ?_
        | refine ops_pl rfl rfl rfl (.l rfl (look_own 0 rfl rfl rfl rfl)) rfl ?_
        | refine ops_pl rfl rfl rfl (.l rfl (look_own 1 rfl rfl rfl rfl)) rfl ?_
        | refine ops_pl rfl rfl rfl (.l rfl (look_own 2 rfl rfl rfl rfl)) rfl ?_
        | refine ops_pl rfl rfl rfl (.l rfl (look_own 3 rfl rfl rfl rfl)) rfl ?_
        | refine ops_pl rfl rfl rfl (.l rfl (look_own 4 rfl rfl rfl rfl)) rfl ?_
        | refine ops_pl rfl rfl rfl (.l rfl (look_own 5 rfl rfl rfl rfl)) rfl ?_
        | refine ops_pl rfl rfl rfl (.l rfl (look_own 6 rfl rfl rfl rfl)) rfl ?_
        | refine ops_pl rfl rfl rfl (.l rfl (look_own 7 rfl rfl rfl rfl)) rfl ?_
        | refine ops_pl rfl rfl rfl (.l rfl (look_agg 0 rfl rfl rfl rfl)) rfl ?_
        | refine ops_pl rfl rfl rfl (.l rfl (look_agg 1 rfl rfl rfl rfl)) rfl ?_
        | refine ops_pl rfl rfl rfl (.l rfl (look_agg 2 rfl rfl rfl rfl)) rfl ?_
        | refine ops_pl rfl rfl rfl (.l rfl (look_agg 3 rfl rfl rfl rfl)) rfl ?_
        | refine ops_pl rfl rfl rfl (.l rfl (look_agg 4 rfl rfl rfl rfl)) rfl ?_
        | refine ops_pl rfl rfl rfl (.l rfl (look_agg 5 rfl rfl rfl rfl)) rfl ?_
        | refine ops_pl rfl rfl rfl (.l rfl (look_agg 6 rfl rfl rfl rfl)) rfl ?_
        | refine ops_pl rfl rfl rfl (.l rfl (look_agg 7 rfl rfl rfl rfl)) rfl ?_
        | refine ops_pl rfl rfl rfl (.l rfl (look_str 0 rfl rfl rfl rfl rfl rfl rfl)) rfl ?_
        | refine ops_pl rfl rfl rfl (.l rfl (look_str 1 rfl rfl rfl rfl rfl rfl rfl)) rfl ?_
        | refine ops_pl rfl rfl rfl (.l rfl (look_str 2 rfl rfl rfl rfl rfl rfl rfl)) rfl ?_
        | refine ops_pl rfl rfl rfl (.l rfl (look_str 3 rfl rfl rfl rfl rfl rfl rfl)) rfl ?_
        | refine ops_skip rfl rfl rfl ?_
        | (refine ops_step rfl rfl rfl ?_; first | (refine step_box rfl rfl rfl (fun _ => ?_)) | (refine step_alloc rfl rfl rfl rfl (fun _ => ?_)) | (refine step_buildSlice rfl rfl rfl rfl rfl (fun _ => ?_)) | (refine step_store 0 rfl rfl rfl rfl rfl rfl rfl rfl rfl ?_) | (refine step_store 1 rfl rfl rfl rfl rfl rfl rfl rfl rfl ?_) | (refine step_store 2 rfl rfl rfl rfl rfl rfl rfl rfl rfl ?_) | (refine step_store 3 rfl rfl rfl rfl rfl rfl rfl rfl rfl ?_) | (refine step_store 4 rfl rfl rfl rfl rfl rfl rfl rfl rfl ?_) | (refine step_store 5 rfl rfl rfl rfl rfl rfl rfl rfl rfl ?_) | (refine step_store 6 rfl rfl rfl rfl rfl rfl rfl rfl rfl ?_) | (refine step_store 7 rfl rfl rfl rfl rfl rfl rfl rfl rfl ?_)))
    refine ops_step rfl rfl rfl (step_call_pure rfl rfl rfl (fun H hs => equalR_ok (ha.at hs) ((hb.at hs).cutM (Nat.zero_le n) hle') hn) ?_)
    repeat (first
        | refine exec_seq ?_
        | refine exec_region ?_
        | refine exec_block ?_
        | refine exec_skip ?_
        | refine exec_exit ?_
        | refine exec_ret ?_
        | refine exec_true rfl ?_
        | refine exec_false rfl ?_
        | refine ops_nil ?_
        | refine ops_pl rfl rfl rfl (.bld rfl rfl rfl rfl) rfl ?_
        | refine ops_pl rfl rfl rfl (.neSelf rfl rfl rfl rfl) rfl ?_
        | refine ops_pl rfl rfl rfl (.eqSelf rfl rfl rfl rfl) rfl ?_
        | refine ops_pl rfl rfl rfl (.wr64 rfl rfl (by omega) (by omega)) rfl ?_
        | refine ops_pl rfl rfl rfl (.wr8 rfl rfl (by omega) (by omega)) rfl ?_
        | refine ops_pl rfl rfl rfl (.p rfl rfl) rfl ?_
        | refine ops_pl rfl rfl rfl (.cv64 rfl (fun _ => rfl) (by omega) (by omega)) rfl ?_
        | refine ops_pl rfl rfl rfl (.cv8 rfl (fun _ => rfl) (by omega) (by omega)) rfl ?_
        | refine ops_pl rfl rfl rfl (.l rfl (fun _ _ => rfl)) rfl ?_
        | refine ops_pl rfl rfl rfl (.l rfl (look_own 0 rfl rfl rfl rfl)) rfl ?_
        | refine ops_pl rfl rfl rfl (.l rfl (look_own 1 rfl rfl rfl rfl)) rfl ?_
        | refine ops_pl rfl rfl rfl (.l rfl (look_own 2 rfl rfl rfl rfl)) rfl ?_
        | refine ops_pl rfl rfl rfl (.l rfl (look_own 3 rfl rfl rfl rfl)) rfl ?_
        | refine ops_pl rfl rfl rfl (.l rfl (look_own 4 rfl rfl rfl rfl)) rfl ?_
        | refine ops_pl rfl rfl rfl (.l rfl (look_own 5 rfl rfl rfl rfl)) rfl ?_
        | refine ops_pl rfl rfl rfl (.l rfl (look_own 6 rfl rfl rfl rfl)) rfl ?_
        | refine ops_pl rfl rfl rfl (.l rfl (look_own 7 rfl rfl rfl rfl)) rfl ?_
        | refine ops_pl rfl rfl rfl (.l rfl (look_agg 0 rfl rfl rfl rfl)) rfl ?_
        | refine ops_pl rfl rfl rfl (.l rfl (look_agg 1 rfl rfl rfl rfl)) rfl ?_
        | refine ops_pl rfl rfl rfl (.l rfl (look_agg 2 rfl rfl rfl rfl)) rfl ?_
        | refine ops_pl rfl rfl rfl (.l rfl (look_agg 3 rfl rfl rfl rfl)) rfl ?_
        | refine ops_pl rfl rfl rfl (.l rfl (look_agg 4 rfl rfl rfl rfl)) rfl ?_
        | refine ops_pl rfl rfl rfl (.l rfl (look_agg 5 rfl rfl rfl rfl)) rfl ?_
        | refine ops_pl rfl rfl rfl (.l rfl (look_agg 6 rfl rfl rfl rfl)) rfl ?_
        | refine ops_pl rfl rfl rfl (.l rfl (look_agg 7 rfl rfl rfl rfl)) rfl ?_
        | refine ops_pl rfl rfl rfl (.l rfl (look_str 0 rfl rfl rfl rfl rfl rfl rfl)) rfl ?_
        | refine ops_pl rfl rfl rfl (.l rfl (look_str 1 rfl rfl rfl rfl rfl rfl rfl)) rfl ?_
        | refine ops_pl rfl rfl rfl (.l rfl (look_str 2 rfl rfl rfl rfl rfl rfl rfl)) rfl ?_
        | refine ops_pl rfl rfl rfl (.l rfl (look_str 3 rfl rfl rfl rfl rfl rfl rfl)) rfl ?_
        | refine ops_skip rfl rfl rfl ?_
        | (refine ops_step rfl rfl rfl ?_; first | (refine step_box rfl rfl rfl (fun _ => ?_)) | (refine step_alloc rfl rfl rfl rfl (fun _ => ?_)) | (refine step_buildSlice rfl rfl rfl rfl rfl (fun _ => ?_)) | (refine step_store 0 rfl rfl rfl rfl rfl rfl rfl rfl rfl ?_) | (refine step_store 1 rfl rfl rfl rfl rfl rfl rfl rfl rfl ?_) | (refine step_store 2 rfl rfl rfl rfl rfl rfl rfl rfl rfl ?_) | (refine step_store 3 rfl rfl rfl rfl rfl rfl rfl rfl rfl ?_) | (refine step_store 4 rfl rfl rfl rfl rfl rfl rfl rfl rfl ?_) | (refine step_store 5 rfl rfl rfl rfl rfl rfl rfl rfl rfl ?_) | (refine step_store 6 rfl rfl rfl rfl rfl rfl rfl rfl rfl ?_) | (refine step_store 7 rfl rfl rfl rfl rfl rfl rfl rfl rfl ?_)))
    exact ⟨trivial, _, rfl, by simp [oneOf, pre, hla]⟩

set_option maxRecDepth 100000 in
theorem agreesR_ok {H : Heap} {aa ab : Option Addr} {n m ca cb : Nat} {la lb : List (List UInt8)} {e k s h d e' k' s' h' d' : Int} (ha : Sl O H (.slice aa n ca) 1 n (la.map str)) (hb : Sl O H (.slice ab m cb) 1 m (lb.map str)) (hn : n ≤ 1073741824) (hm : m ≤ 1073741824) :
    CallC TT O 17 [res aa n ca e k s h d, res ab m cb e' k' s' h' d'] H fun v H' => v = .bool (agrees la lb e k e' k') ∧ Ext H H' := by
  refine call_pure rfl rfl rfl rfl rfl ?_
  repeat (first
      | refine exec_seq ?_
      | refine exec_region ?_
      | refine exec_block ?_
      | refine exec_skip ?_
      | refine exec_exit ?_
      | refine exec_ret ?_
      | refine exec_true rfl ?_
      | refine exec_false rfl ?_
      | refine ops_nil ?_
      | refine ops_pl rfl rfl rfl (.bld rfl rfl rfl rfl) rfl ?_
      | refine ops_pl rfl rfl rfl (.neSelf rfl rfl rfl rfl) rfl ?_
      | refine ops_pl rfl rfl rfl (.eqSelf rfl rfl rfl rfl) rfl ?_
      | refine ops_pl rfl rfl rfl (.wr64 rfl rfl (by omega) (by omega)) rfl ?_
      | refine ops_pl rfl rfl rfl (.wr8 rfl rfl (by omega) (by omega)) rfl ?_
      | refine ops_pl rfl rfl rfl (.p rfl rfl) rfl ?_
      | refine ops_pl rfl rfl rfl (.cv64 rfl (fun _ => rfl) (by omega) (by omega)) rfl ?_
      | refine ops_pl rfl rfl rfl (.cv8 rfl (fun _ => rfl) (by omega) (by omega)) rfl ?_
      | refine ops_pl rfl rfl rfl (.l rfl (fun _ _ => rfl)) rfl ?_
      | refine ops_pl rfl rfl rfl (.l rfl (look_own 0 rfl rfl rfl rfl)) rfl ?_
      | refine ops_pl rfl rfl rfl (.l rfl (look_own 1 rfl rfl rfl rfl)) rfl ?_
      | refine ops_pl rfl rfl rfl (.l rfl (look_own 2 rfl rfl rfl rfl)) rfl ?_
      | refine ops_pl rfl rfl rfl (.l rfl (look_own 3 rfl rfl rfl rfl)) rfl ?_
      | refine ops_pl rfl rfl rfl (.l rfl (look_own 4 rfl rfl rfl rfl)) rfl ?_
      | refine ops_pl rfl rfl rfl (.l rfl (look_own 5 rfl rfl rfl rfl)) rfl ?_
      | refine ops_pl rfl rfl rfl (.l rfl (look_own 6 rfl rfl rfl rfl)) rfl ?_
      | refine ops_pl rfl rfl rfl (.l rfl (look_own 7 rfl rfl rfl rfl)) rfl ?_
      | refine ops_pl rfl rfl rfl (.l rfl (look_agg 0 rfl rfl rfl rfl)) rfl ?_
      | refine ops_pl rfl rfl rfl (.l rfl (look_agg 1 rfl rfl rfl rfl)) rfl ?_
      | refine ops_pl rfl rfl rfl (.l rfl (look_agg 2 rfl rfl rfl rfl)) rfl ?_
      | refine ops_pl rfl rfl rfl (.l rfl (look_agg 3 rfl rfl rfl rfl)) rfl ?_
      | refine ops_pl rfl rfl rfl (.l rfl (look_agg 4 rfl rfl rfl rfl)) rfl ?_
      | refine ops_pl rfl rfl rfl (.l rfl (look_agg 5 rfl rfl rfl rfl)) rfl ?_
      | refine ops_pl rfl rfl rfl (.l rfl (look_agg 6 rfl rfl rfl rfl)) rfl ?_
      | refine ops_pl rfl rfl rfl (.l rfl (look_agg 7 rfl rfl rfl rfl)) rfl ?_
      | refine ops_pl rfl rfl rfl (.l rfl (look_str 0 rfl rfl rfl rfl rfl rfl rfl)) rfl ?_
      | refine ops_pl rfl rfl rfl (.l rfl (look_str 1 rfl rfl rfl rfl rfl rfl rfl)) rfl ?_
      | refine ops_pl rfl rfl rfl (.l rfl (look_str 2 rfl rfl rfl rfl rfl rfl rfl)) rfl ?_
      | refine ops_pl rfl rfl rfl (.l rfl (look_str 3 rfl rfl rfl rfl rfl rfl rfl)) rfl ?_
      | refine ops_skip rfl rfl rfl ?_
      | (refine ops_step rfl rfl rfl ?_; first | (refine step_box rfl rfl rfl (fun _ => ?_)) | (refine step_alloc rfl rfl rfl rfl (fun _ => ?_)) | (refine step_buildSlice rfl rfl rfl rfl rfl (fun _ => ?_)) | (refine step_store 0 rfl rfl rfl rfl rfl rfl rfl rfl rfl ?_) | (refine step_store 1 rfl rfl rfl rfl rfl rfl rfl rfl rfl ?_) | (refine step_store 2 rfl rfl rfl rfl rfl rfl rfl rfl rfl ?_) | (refine step_store 3 rfl rfl rfl rfl rfl rfl rfl rfl rfl ?_) | (refine step_store 4 rfl rfl rfl rfl rfl rfl rfl rfl rfl ?_) | (refine step_store 5 rfl rfl rfl rfl rfl rfl rfl rfl rfl ?_) | (refine step_store 6 rfl rfl rfl rfl rfl rfl rfl rfl rfl ?_) | (refine step_store 7 rfl rfl rfl rfl rfl rfl rfl rfl rfl ?_)))
  refine ops_step rfl rfl rfl (step_call_bool rfl rfl rfl (fun H hs => wholeR_ok) (fun h1 => ?_) (fun h1 => ?_))
  · repeat (first
        | refine exec_seq ?_
        | refine exec_region ?_
        | refine exec_block ?_
        | refine exec_skip ?_
        | refine exec_exit ?_
        | refine exec_ret ?_
        | refine exec_true rfl ?_
        | refine exec_false rfl ?_
        | refine ops_nil ?_
        | refine ops_pl rfl rfl rfl (.bld rfl rfl rfl rfl) rfl ?_
        | refine ops_pl rfl rfl rfl (.neSelf rfl rfl rfl rfl) rfl ?_
        | refine ops_pl rfl rfl rfl (.eqSelf rfl rfl rfl rfl) rfl ?_
        | refine ops_pl rfl rfl rfl (.wr64 rfl rfl (by omega) (by omega)) rfl ?_
        | refine ops_pl rfl rfl rfl (.wr8 rfl rfl (by omega) (by omega)) rfl ?_
        | refine ops_pl rfl rfl rfl (.p rfl rfl) rfl ?_
        | refine ops_pl rfl rfl rfl (.cv64 rfl (fun _ => rfl) (by omega) (by omega)) rfl ?_
        | refine ops_pl rfl rfl rfl (.cv8 rfl (fun _ => rfl) (by omega) (by omega)) rfl ?_
        | refine ops_pl rfl rfl rfl (.l rfl (fun _ _ => rfl)) rfl ?_
        | refine ops_pl rfl rfl rfl (.l rfl (look_own 0 rfl rfl rfl rfl)) rfl ?_
        | refine ops_pl rfl rfl rfl (.l rfl (look_own 1 rfl rfl rfl rfl)) rfl ?_
        | refine ops_pl rfl rfl rfl (.l rfl (look_own 2 rfl rfl rfl rfl)) rfl ?_
        | refine ops_pl rfl rfl rfl (.l rfl (look_own 3 rfl rfl rfl rfl)) rfl ?_
        | refine ops_pl rfl rfl rfl (.l rfl (look_own 4 rfl rfl rfl rfl)) rfl ?_
        | refine ops_pl rfl rfl rfl (.l rfl (look_own 5 rfl rfl rfl rfl)) rfl ?_
        | refine ops_pl rfl rfl rfl (.l rfl (look_own 6 rfl rfl rfl rfl)) rfl ?_
        | refine ops_pl rfl rfl rfl (.l rfl (look_own 7 rfl rfl rfl rfl)) rfl ?_
        | refine ops_pl rfl rfl rfl (.l rfl (look_agg 0 rfl rfl rfl rfl)) rfl ?_
        | refine ops_pl rfl rfl rfl (.l rfl (look_agg 1 rfl rfl rfl rfl)) rfl ?_
        | refine ops_pl rfl rfl rfl (.l rfl (look_agg 2 rfl rfl rfl rfl)) rfl ?_
        | refine ops_pl rfl rfl rfl (.l rfl (look_agg 3 rfl rfl rfl rfl)) rfl ?_
        | refine ops_pl rfl rfl rfl (.l rfl (look_agg 4 rfl rfl rfl rfl)) rfl ?_
        | refine ops_pl rfl rfl rfl (.l rfl (look_agg 5 rfl rfl rfl rfl)) rfl ?_
        | refine ops_pl rfl rfl rfl (.l rfl (look_agg 6 rfl rfl rfl rfl)) rfl ?_
        | refine ops_pl rfl rfl rfl (.l rfl (look_agg 7 rfl rfl rfl rfl)) rfl ?_
        | refine ops_pl rfl rfl rfl (.l rfl (look_str 0 rfl rfl rfl rfl rfl rfl rfl)) rfl ?_
        | refine ops_pl rfl rfl rfl (.l rfl (look_str 1 rfl rfl rfl rfl rfl rfl rfl)) rfl ?_
        | refine ops_pl rfl rfl rfl (.l rfl (look_str 2 rfl rfl rfl rfl rfl rfl rfl)) rfl ?_
        | refine ops_pl rfl rfl rfl (.l rfl (look_str 3 rfl rfl rfl rfl rfl rfl rfl)) rfl ?_
        | refine ops_skip rfl rfl rfl ?_
        | (refine ops_step rfl rfl rfl ?_; first | (refine step_box rfl rfl rfl (fun _ => ?_)) | (refine step_alloc rfl rfl rfl rfl (fun _ => ?_)) | (refine step_buildSlice rfl rfl rfl rfl rfl (fun _ => ?_)) | (refine step_store 0 rfl rfl rfl rfl rfl rfl rfl rfl rfl ?_) | (refine step_store 1 rfl rfl rfl rfl rfl rfl rfl rfl rfl ?_) | (refine step_store 2 rfl rfl rfl rfl rfl rfl rfl rfl rfl ?_) | (refine step_store 3 rfl rfl rfl rfl rfl rfl rfl rfl rfl ?_) | (refine step_store 4 rfl rfl rfl rfl rfl rfl rfl rfl rfl ?_) | (refine step_store 5 rfl rfl rfl rfl rfl rfl rfl rfl rfl ?_) | (refine step_store 6 rfl rfl rfl rfl rfl rfl rfl rfl rfl ?_) | (refine step_store 7 rfl rfl rfl rfl rfl rfl rfl rfl rfl ?_)))
    refine ops_step rfl rfl rfl (step_call_bool rfl rfl rfl (fun H hs => wholeR_ok) (fun h2 => ?_) (fun h2 => ?_))
    · repeat (first
          | refine exec_seq ?_
          | refine exec_region ?_
          | refine exec_block ?_
          | refine exec_skip ?_
          | refine exec_exit ?_
          | refine exec_ret ?_
          | refine exec_true rfl ?_
          | refine exec_false rfl ?_
          | refine ops_nil ?_
          | refine ops_pl rfl rfl rfl (.bld rfl rfl rfl rfl) rfl ?_
          | refine ops_pl rfl rfl rfl (.neSelf rfl rfl rfl rfl) rfl ?_
          | refine ops_pl rfl rfl rfl (.eqSelf rfl rfl rfl rfl) rfl ?_
          | refine ops_pl rfl rfl rfl (.wr64 rfl rfl (by omega) (by omega)) rfl ?_
          | refine ops_pl rfl rfl rfl (.wr8 rfl rfl (by omega) (by omega)) rfl ?_
          | refine ops_pl rfl rfl rfl (.p rfl rfl) rfl ?_
          | refine ops_pl rfl rfl rfl (.cv64 rfl (fun _ => rfl) (by omega) (by omega)) rfl ?_
          | refine ops_pl rfl rfl rfl (.cv8 rfl (fun _ => rfl) (by omega) (by omega)) rfl ?_
          | refine ops_pl rfl rfl rfl (.l rfl (fun _ _ => rfl)) rfl ?_
          | refine ops_pl rfl rfl rfl (.l rfl (look_own 0 rfl rfl rfl rfl)) rfl ?_
          | refine ops_pl rfl rfl rfl (.l rfl (look_own 1 rfl rfl rfl rfl)) rfl ?_
          | refine ops_pl rfl rfl rfl (.l rfl (look_own 2 rfl rfl rfl rfl)) rfl ?_
          | refine ops_pl rfl rfl rfl (.l rfl (look_own 3 rfl rfl rfl rfl)) rfl ?_
          | refine ops_pl rfl rfl rfl (.l rfl (look_own 4 rfl rfl rfl rfl)) rfl ?_
          | refine ops_pl rfl rfl rfl (.l rfl (look_own 5 rfl rfl rfl rfl)) rfl ?_
          | refine ops_pl rfl rfl rfl (.l rfl (look_own 6 rfl rfl rfl rfl)) rfl ?_
          | refine ops_pl rfl rfl rfl (.l rfl (look_own 7 rfl rfl rfl rfl)) rfl ?_
          | refine ops_pl rfl rfl rfl (.l rfl (look_agg 0 rfl rfl rfl rfl)) rfl ?_
          | refine ops_pl rfl rfl rfl (.l rfl (look_agg 1 rfl rfl rfl rfl)) rfl ?_
          | refine ops_pl rfl rfl rfl (.l rfl (look_agg 2 rfl rfl rfl rfl)) rfl ?_
          | refine ops_pl rfl rfl rfl (.l rfl (look_agg 3 rfl rfl rfl rfl)) rfl ?_
          | refine ops_pl rfl rfl rfl (.l rfl (look_agg 4 rfl rfl rfl rfl)) rfl ?_
          | refine ops_pl rfl rfl rfl (.l rfl (look_agg 5 rfl rfl rfl rfl)) rfl ?_
          | refine ops_pl rfl rfl rfl (.l rfl (look_agg 6 rfl rfl rfl rfl)) rfl ?_
          | refine ops_pl rfl rfl rfl (.l rfl (look_agg 7 rfl rfl rfl rfl)) rfl ?_
          | refine ops_pl rfl rfl rfl (.l rfl (look_str 0 rfl rfl rfl rfl rfl rfl rfl)) rfl ?_
          | refine ops_pl rfl rfl rfl (.l rfl (look_str 1 rfl rfl rfl rfl rfl rfl rfl)) rfl ?_
          | refine ops_pl rfl rfl rfl (.l rfl (look_str 2 rfl rfl rfl rfl rfl rfl rfl)) rfl ?_
          | refine ops_pl rfl rfl rfl (.l rfl (look_str 3 rfl rfl rfl rfl rfl rfl rfl)) rfl ?_
          | refine ops_skip rfl rfl rfl ?_
          | (refine ops_step rfl rfl rfl ?_; first | (refine step_box rfl rfl rfl (fun _ => ?_)) | (refine step_alloc rfl rfl rfl rfl (fun _ => ?_)) | (refine step_buildSlice rfl rfl rfl rfl rfl (fun _ => ?_)) | (refine step_store 0 rfl rfl rfl rfl rfl rfl rfl rfl rfl ?_) | (refine step_store 1 rfl rfl rfl rfl rfl rfl rfl rfl rfl ?_) | (refine step_store 2 rfl rfl rfl rfl rfl rfl rfl rfl rfl ?_) | (refine step_store 3 rfl rfl rfl rfl rfl rfl rfl rfl rfl ?_) | (refine step_store 4 rfl rfl rfl rfl rfl rfl rfl rfl rfl ?_) | (refine step_store 5 rfl rfl rfl rfl rfl rfl rfl rfl rfl ?_) | (refine step_store 6 rfl rfl rfl rfl rfl rfl rfl rfl rfl ?_) | (refine step_store 7 rfl rfl rfl rfl rfl rfl rfl rfl rfl ?_)))
      refine ops_step rfl rfl rfl (step_call_pure rfl rfl rfl (fun H hs => sameR_ok (ha.at hs) (hb.at hs) hn) ?_)
      repeat (first
          | refine exec_seq ?_
          | refine exec_region ?_
          | refine exec_block ?_
          | refine exec_skip ?_
          | refine exec_exit ?_
          | refine exec_ret ?_
          | refine exec_true rfl ?_
          | refine exec_false rfl ?_
          | refine ops_nil ?_
          | refine ops_pl rfl rfl rfl (.bld rfl rfl rfl rfl) rfl ?_
          | refine ops_pl rfl rfl rfl (.neSelf rfl rfl rfl rfl) rfl ?_
          | refine ops_pl rfl rfl rfl (.eqSelf rfl rfl rfl rfl) rfl ?_
          | refine ops_pl rfl rfl rfl (.wr64 rfl rfl (by omega) (by omega)) rfl ?_
          | refine ops_pl rfl rfl rfl (.wr8 rfl rfl (by omega) (by omega)) rfl ?_
          | refine ops_pl rfl rfl rfl (.p rfl rfl) rfl ?_
          | refine ops_pl rfl rfl rfl (.cv64 rfl (fun _ => rfl) (by omega) (by omega)) rfl ?_
          | refine ops_pl rfl rfl rfl (.cv8 rfl (fun _ => rfl) (by omega) (by omega)) rfl ?_
          | refine ops_pl rfl rfl rfl (.l rfl (fun _ _ => rfl)) rfl ?_
          | refine ops_pl rfl rfl rfl (.l rfl (look_own 0 rfl rfl rfl rfl)) rfl ?_
          | refine ops_pl rfl rfl rfl (.l rfl (look_own 1 rfl rfl rfl rfl)) rfl ?_
          | refine ops_pl rfl rfl rfl (.l rfl (look_own 2 rfl rfl rfl rfl)) rfl ?_
          | refine ops_pl rfl rfl rfl (.l rfl (look_own 3 rfl rfl rfl rfl)) rfl ?_
          | refine ops_pl rfl rfl rfl (.l rfl (look_own 4 rfl rfl rfl rfl)) rfl ?_
          | refine ops_pl rfl rfl rfl (.l rfl (look_own 5 rfl rfl rfl rfl)) rfl ?_
          | refine ops_pl rfl rfl rfl (.l rfl (look_own 6 rfl rfl rfl rfl)) rfl ?_
          | refine ops_pl rfl rfl rfl (.l rfl (look_own 7 rfl rfl rfl rfl)) rfl ?_
          | refine ops_pl rfl rfl rfl (.l rfl (look_agg 0 rfl rfl rfl rfl)) rfl ?_
          | refine ops_pl rfl rfl rfl (.l rfl (look_agg 1 rfl rfl rfl rfl)) rfl ?_
          | refine ops_pl rfl rfl rfl (.l rfl (look_agg 2 rfl rfl rfl rfl)) rfl ?_
          | refine ops_pl rfl rfl rfl (.l rfl (look_agg 3 rfl rfl rfl rfl)) rfl ?_
          | refine ops_pl rfl rfl rfl (.l rfl (look_agg 4 rfl rfl rfl rfl)) rfl ?_
          | refine ops_pl rfl rfl rfl (.l rfl (look_agg 5 rfl rfl rfl rfl)) rfl ?_
          | refine ops_pl rfl rfl rfl (.l rfl (look_agg 6 rfl rfl rfl rfl)) rfl ?_
          | refine ops_pl rfl rfl rfl (.l rfl (look_agg 7 rfl rfl rfl rfl)) rfl ?_
          | refine ops_pl rfl rfl rfl (.l rfl (look_str 0 rfl rfl rfl rfl rfl rfl rfl)) rfl ?_
          | refine ops_pl rfl rfl rfl (.l rfl (look_str 1 rfl rfl rfl rfl rfl rfl rfl)) rfl ?_
          | refine ops_pl rfl rfl rfl (.l rfl (look_str 2 rfl rfl rfl rfl rfl rfl rfl)) rfl ?_
          | refine ops_pl rfl rfl rfl (.l rfl (look_str 3 rfl rfl rfl rfl rfl rfl rfl)) rfl ?_
          | refine ops_skip rfl rfl rfl ?_
          | (refine ops_step rfl rfl rfl ?_; first | (refine step_box rfl rfl rfl (fun _ => ?_)) | (refine step_alloc rfl rfl rfl rfl (fun _ => ?_)) | (refine step_buildSlice rfl rfl rfl rfl rfl (fun _ => ?_)) | (refine step_store 0 rfl rfl rfl rfl rfl rfl rfl rfl rfl ?_) | (refine step_store 1 rfl rfl rfl rfl rfl rfl rfl rfl rfl ?_) | (refine step_store 2 rfl rfl rfl rfl rfl rfl rfl rfl rfl ?_) | (refine step_store 3 rfl rfl rfl rfl rfl rfl rfl rfl rfl ?_) | (refine step_store 4 rfl rfl rfl rfl rfl rfl rfl rfl rfl ?_) | (refine step_store 5 rfl rfl rfl rfl rfl rfl rfl rfl rfl ?_) | (refine step_store 6 rfl rfl rfl rfl rfl rfl rfl rfl rfl ?_) | (refine step_store 7 rfl rfl rfl rfl rfl rfl rfl rfl rfl ?_)))
      exact ⟨trivial, _, rfl, by simp [oneOf, agrees, alike, h1, h2]⟩
    · repeat (first
          | refine exec_seq ?_
          | refine exec_region ?_
          | refine exec_block ?_
          | refine exec_skip ?_
          | refine exec_exit ?_
          | refine exec_ret ?_
          | refine exec_true rfl ?_
          | refine exec_false rfl ?_
          | refine ops_nil ?_
          | refine ops_pl rfl rfl rfl (.bld rfl rfl rfl rfl) rfl ?_
          | refine ops_pl rfl rfl rfl (.neSelf rfl rfl rfl rfl) rfl ?_
          | refine ops_pl rfl rfl rfl (.eqSelf rfl rfl rfl rfl) rfl ?_
          | refine ops_pl rfl rfl rfl (.wr64 rfl rfl (by omega) (by omega)) rfl ?_
          | refine ops_pl rfl rfl rfl (.wr8 rfl rfl (by omega) (by omega)) rfl ?_
          | refine ops_pl rfl rfl rfl (.p rfl rfl) rfl ?_
          | refine ops_pl rfl rfl rfl (.cv64 rfl (fun _ => rfl) (by omega) (by omega)) rfl ?_
          | refine ops_pl rfl rfl rfl (.cv8 rfl (fun _ => rfl) (by omega) (by omega)) rfl ?_
          | refine ops_pl rfl rfl rfl (.l rfl (fun _ _ => rfl)) rfl ?_
          | refine ops_pl rfl rfl rfl (.l rfl (look_own 0 rfl rfl rfl rfl)) rfl ?_
          | refine ops_pl rfl rfl rfl (.l rfl (look_own 1 rfl rfl rfl rfl)) rfl ?_
          | refine ops_pl rfl rfl rfl (.l rfl (look_own 2 rfl rfl rfl rfl)) rfl ?_
          | refine ops_pl rfl rfl rfl (.l rfl (look_own 3 rfl rfl rfl rfl)) rfl ?_
          | refine ops_pl rfl rfl rfl (.l rfl (look_own 4 rfl rfl rfl rfl)) rfl ?_
          | refine ops_pl rfl rfl rfl (.l rfl (look_own 5 rfl rfl rfl rfl)) rfl ?_
          | refine ops_pl rfl rfl rfl (.l rfl (look_own 6 rfl rfl rfl rfl)) rfl ?_
          | refine ops_pl rfl rfl rfl (.l rfl (look_own 7 rfl rfl rfl rfl)) rfl ?_
          | refine ops_pl rfl rfl rfl (.l rfl (look_agg 0 rfl rfl rfl rfl)) rfl ?_
          | refine ops_pl rfl rfl rfl (.l rfl (look_agg 1 rfl rfl rfl rfl)) rfl ?_
          | refine ops_pl rfl rfl rfl (.l rfl (look_agg 2 rfl rfl rfl rfl)) rfl ?_
          | refine ops_pl rfl rfl rfl (.l rfl (look_agg 3 rfl rfl rfl rfl)) rfl ?_
          | refine ops_pl rfl rfl rfl (.l rfl (look_agg 4 rfl rfl rfl rfl)) rfl ?_
          | refine ops_pl rfl rfl rfl (.l rfl (look_agg 5 rfl rfl rfl rfl)) rfl ?_
          | refine ops_pl rfl rfl rfl (.l rfl (look_agg 6 rfl rfl rfl rfl)) rfl ?_
          | refine ops_pl rfl rfl rfl (.l rfl (look_agg 7 rfl rfl rfl rfl)) rfl ?_
          | refine ops_pl rfl rfl rfl (.l rfl (look_str 0 rfl rfl rfl rfl rfl rfl rfl)) rfl ?_
          | refine ops_pl rfl rfl rfl (.l rfl (look_str 1 rfl rfl rfl rfl rfl rfl rfl)) rfl ?_
          | refine ops_pl rfl rfl rfl (.l rfl (look_str 2 rfl rfl rfl rfl rfl rfl rfl)) rfl ?_
          | refine ops_pl rfl rfl rfl (.l rfl (look_str 3 rfl rfl rfl rfl rfl rfl rfl)) rfl ?_
          | refine ops_skip rfl rfl rfl ?_
          | (refine ops_step rfl rfl rfl ?_; first | (refine step_box rfl rfl rfl (fun _ => ?_)) | (refine step_alloc rfl rfl rfl rfl (fun _ => ?_)) | (refine step_buildSlice rfl rfl rfl rfl rfl (fun _ => ?_)) | (refine step_store 0 rfl rfl rfl rfl rfl rfl rfl rfl rfl ?_) | (refine step_store 1 rfl rfl rfl rfl rfl rfl rfl rfl rfl ?_) | (refine step_store 2 rfl rfl rfl rfl rfl rfl rfl rfl rfl ?_) | (refine step_store 3 rfl rfl rfl rfl rfl rfl rfl rfl rfl ?_) | (refine step_store 4 rfl rfl rfl rfl rfl rfl rfl rfl rfl ?_) | (refine step_store 5 rfl rfl rfl rfl rfl rfl rfl rfl rfl ?_) | (refine step_store 6 rfl rfl rfl rfl rfl rfl rfl rfl rfl ?_) | (refine step_store 7 rfl rfl rfl rfl rfl rfl rfl rfl rfl ?_)))
      refine ops_step rfl rfl rfl (step_call_pure rfl rfl rfl (fun H hs => callB_eq h1 wholeR_ok) ?_)
      repeat (first
          | refine exec_seq ?_
          | refine exec_region ?_
          | refine exec_block ?_
          | refine exec_skip ?_
          | refine exec_exit ?_
          | refine exec_ret ?_
          | refine exec_true rfl ?_
          | refine exec_false rfl ?_
          | refine ops_nil ?_
          | refine ops_pl rfl rfl rfl (.bld rfl rfl rfl rfl) rfl ?_
          | refine ops_pl rfl rfl rfl (.neSelf rfl rfl rfl rfl) rfl ?_
          | refine ops_pl rfl rfl rfl (.eqSelf rfl rfl rfl rfl) rfl ?_
          | refine ops_pl rfl rfl rfl (.wr64 rfl rfl (by omega) (by omega)) rfl ?_
          | refine ops_pl rfl rfl rfl (.wr8 rfl rfl (by omega) (by omega)) rfl ?_
          | refine ops_pl rfl rfl rfl (.p rfl rfl) rfl ?_
          | refine ops_pl rfl rfl rfl (.cv64 rfl (fun _ => rfl) (by omega) (by omega)) rfl ?_
          | refine ops_pl rfl rfl rfl (.cv8 rfl (fun _ => rfl) (by omega) (by omega)) rfl ?_
          | refine ops_pl rfl rfl rfl (.l rfl (fun _ _ => rfl)) rfl ?_
          | refine ops_pl rfl rfl rfl (.l rfl (look_own 0 rfl rfl rfl rfl)) rfl ?_
          | refine ops_pl rfl rfl rfl (.l rfl (look_own 1 rfl rfl rfl rfl)) rfl ?_
          | refine ops_pl rfl rfl rfl (.l rfl (look_own 2 rfl rfl rfl rfl)) rfl ?_
          | refine ops_pl rfl rfl rfl (.l rfl (look_own 3 rfl rfl rfl rfl)) rfl ?_
          | refine ops_pl rfl rfl rfl (.l rfl (look_own 4 rfl rfl rfl rfl)) rfl ?_
          | refine ops_pl rfl rfl rfl (.l rfl (look_own 5 rfl rfl rfl rfl)) rfl ?_
          | refine ops_pl rfl rfl rfl (.l rfl (look_own 6 rfl rfl rfl rfl)) rfl ?_
          | refine ops_pl rfl rfl rfl (.l rfl (look_own 7 rfl rfl rfl rfl)) rfl ?_
          | refine ops_pl rfl rfl rfl (.l rfl (look_agg 0 rfl rfl rfl rfl)) rfl ?_
          | refine ops_pl rfl rfl rfl (.l rfl (look_agg 1 rfl rfl rfl rfl)) rfl ?_
          | refine ops_pl rfl rfl rfl (.l rfl (look_agg 2 rfl rfl rfl rfl)) rfl ?_
          | refine ops_pl rfl rfl rfl (.l rfl (look_agg 3 rfl rfl rfl rfl)) rfl ?_
          | refine ops_pl rfl rfl rfl (.l rfl (look_agg 4 rfl rfl rfl rfl)) rfl ?_
          | refine ops_pl rfl rfl rfl (.l rfl (look_agg 5 rfl rfl rfl rfl)) rfl ?_
          | refine ops_pl rfl rfl rfl (.l rfl (look_agg 6 rfl rfl rfl rfl)) rfl ?_
          | refine ops_pl rfl rfl rfl (.l rfl (look_agg 7 rfl rfl rfl rfl)) rfl ?_
          | refine ops_pl rfl rfl rfl (.l rfl (look_str 0 rfl rfl rfl rfl rfl rfl rfl)) rfl ?_
          | refine ops_pl rfl rfl rfl (.l rfl (look_str 1 rfl rfl rfl rfl rfl rfl rfl)) rfl ?_
          | refine ops_pl rfl rfl rfl (.l rfl (look_str 2 rfl rfl rfl rfl rfl rfl rfl)) rfl ?_
          | refine ops_pl rfl rfl rfl (.l rfl (look_str 3 rfl rfl rfl rfl rfl rfl rfl)) rfl ?_
          | refine ops_skip rfl rfl rfl ?_
          | (refine ops_step rfl rfl rfl ?_; first | (refine step_box rfl rfl rfl (fun _ => ?_)) | (refine step_alloc rfl rfl rfl rfl (fun _ => ?_)) | (refine step_buildSlice rfl rfl rfl rfl rfl (fun _ => ?_)) | (refine step_store 0 rfl rfl rfl rfl rfl rfl rfl rfl rfl ?_) | (refine step_store 1 rfl rfl rfl rfl rfl rfl rfl rfl rfl ?_) | (refine step_store 2 rfl rfl rfl rfl rfl rfl rfl rfl rfl ?_) | (refine step_store 3 rfl rfl rfl rfl rfl rfl rfl rfl rfl ?_) | (refine step_store 4 rfl rfl rfl rfl rfl rfl rfl rfl rfl ?_) | (refine step_store 5 rfl rfl rfl rfl rfl rfl rfl rfl rfl ?_) | (refine step_store 6 rfl rfl rfl rfl rfl rfl rfl rfl rfl ?_) | (refine step_store 7 rfl rfl rfl rfl rfl rfl rfl rfl rfl ?_)))
      refine ops_step rfl rfl rfl (step_call_pure rfl rfl rfl (fun H hs => prefixR_ok (hb.at hs) (ha.at hs) hm) ?_)
      repeat (first
          | refine exec_seq ?_
          | refine exec_region ?_
          | refine exec_block ?_
          | refine exec_skip ?_
          | refine exec_exit ?_
          | refine exec_ret ?_
          | refine exec_true rfl ?_
          | refine exec_false rfl ?_
          | refine ops_nil ?_
          | refine ops_pl rfl rfl rfl (.bld rfl rfl rfl rfl) rfl ?_
          | refine ops_pl rfl rfl rfl (.neSelf rfl rfl rfl rfl) rfl ?_
          | refine ops_pl rfl rfl rfl (.eqSelf rfl rfl rfl rfl) rfl ?_
          | refine ops_pl rfl rfl rfl (.wr64 rfl rfl (by omega) (by omega)) rfl ?_
          | refine ops_pl rfl rfl rfl (.wr8 rfl rfl (by omega) (by omega)) rfl ?_
          | refine ops_pl rfl rfl rfl (.p rfl rfl) rfl ?_
          | refine ops_pl rfl rfl rfl (.cv64 rfl (fun _ => rfl) (by omega) (by omega)) rfl ?_
          | refine ops_pl rfl rfl rfl (.cv8 rfl (fun _ => rfl) (by omega) (by omega)) rfl ?_
          | refine ops_pl rfl rfl rfl (.l rfl (fun _ _ => rfl)) rfl ?_
          | refine ops_pl rfl rfl rfl (.l rfl (look_own 0 rfl rfl rfl rfl)) rfl ?_
          | refine ops_pl rfl rfl rfl (.l rfl (look_own 1 rfl rfl rfl rfl)) rfl ?_
          | refine ops_pl rfl rfl rfl (.l rfl (look_own 2 rfl rfl rfl rfl)) rfl ?_
          | refine ops_pl rfl rfl rfl (.l rfl (look_own 3 rfl rfl rfl rfl)) rfl ?_
          | refine ops_pl rfl rfl rfl (.l rfl (look_own 4 rfl rfl rfl rfl)) rfl ?_
          | refine ops_pl rfl rfl rfl (.l rfl (look_own 5 rfl rfl rfl rfl)) rfl ?_
          | refine ops_pl rfl rfl rfl (.l rfl (look_own 6 rfl rfl rfl rfl)) rfl ?_
          | refine ops_pl rfl rfl rfl (.l rfl (look_own 7 rfl rfl rfl rfl)) rfl ?_
          | refine ops_pl rfl rfl rfl (.l rfl (look_agg 0 rfl rfl rfl rfl)) rfl ?_
          | refine ops_pl rfl rfl rfl (.l rfl (look_agg 1 rfl rfl rfl rfl)) rfl ?_
          | refine ops_pl rfl rfl rfl (.l rfl (look_agg 2 rfl rfl rfl rfl)) rfl ?_
          | refine ops_pl rfl rfl rfl (.l rfl (look_agg 3 rfl rfl rfl rfl)) rfl ?_
          | refine ops_pl rfl rfl rfl (.l rfl (look_agg 4 rfl rfl rfl rfl)) rfl ?_
          | refine ops_pl rfl rfl rfl (.l rfl (look_agg 5 rfl rfl rfl rfl)) rfl ?_
          | refine ops_pl rfl rfl rfl (.l rfl (look_agg 6 rfl rfl rfl rfl)) rfl ?_
          | refine ops_pl rfl rfl rfl (.l rfl (look_agg 7 rfl rfl rfl rfl)) rfl ?_
          | refine ops_pl rfl rfl rfl (.l rfl (look_str 0 rfl rfl rfl rfl rfl rfl rfl)) rfl ?_
          | refine ops_pl rfl rfl rfl (.l rfl (look_str 1 rfl rfl rfl rfl rfl rfl rfl)) rfl ?_
          | refine ops_pl rfl rfl rfl (.l rfl (look_str 2 rfl rfl rfl rfl rfl rfl rfl)) rfl ?_
          | refine ops_pl rfl rfl rfl (.l rfl (look_str 3 rfl rfl rfl rfl rfl rfl rfl)) rfl ?_
          | refine ops_skip rfl rfl rfl ?_
          | (refine ops_step rfl rfl rfl ?_; first | (refine step_box rfl rfl rfl (fun _ => ?_)) | (refine step_alloc rfl rfl rfl rfl (fun _ => ?_)) | (refine step_buildSlice rfl rfl rfl rfl rfl (fun _ => ?_)) | (refine step_store 0 rfl rfl rfl rfl rfl rfl rfl rfl rfl ?_) | (refine step_store 1 rfl rfl rfl rfl rfl rfl rfl rfl rfl ?_) | (refine step_store 2 rfl rfl rfl rfl rfl rfl rfl rfl rfl ?_) | (refine step_store 3 rfl rfl rfl rfl rfl rfl rfl rfl rfl ?_) | (refine step_store 4 rfl rfl rfl rfl rfl rfl rfl rfl rfl ?_) | (refine step_store 5 rfl rfl rfl rfl rfl rfl rfl rfl rfl ?_) | (refine step_store 6 rfl rfl rfl rfl rfl rfl rfl rfl rfl ?_) | (refine step_store 7 rfl rfl rfl rfl rfl rfl rfl rfl rfl ?_)))
      exact ⟨trivial, _, rfl, by simp [oneOf, agrees, alike, h1, h2]⟩
  · repeat (first
        | refine exec_seq ?_
        | refine exec_region ?_
        | refine exec_block ?_
        | refine exec_skip ?_
        | refine exec_exit ?_
        | refine exec_ret ?_
        | refine exec_true rfl ?_
        | refine exec_false rfl ?_
        | refine ops_nil ?_
        | refine ops_pl rfl rfl rfl (.bld rfl rfl rfl rfl) rfl ?_
        | refine ops_pl rfl rfl rfl (.neSelf rfl rfl rfl rfl) rfl ?_
        | refine ops_pl rfl rfl rfl (.eqSelf rfl rfl rfl rfl) rfl ?_
        | refine ops_pl rfl rfl rfl (.wr64 rfl rfl (by omega) (by omega)) rfl ?_
        | refine ops_pl rfl rfl rfl (.wr8 rfl rfl (by omega) (by omega)) rfl ?_
        | refine ops_pl rfl rfl rfl (.p rfl rfl) rfl ?_
        | refine ops_pl rfl rfl rfl (.cv64 rfl (fun _ => rfl) (by omega) (by omega)) rfl ?_
        | refine ops_pl rfl rfl rfl (.cv8 rfl (fun _ => rfl) (by omega) (by omega)) rfl ?_
        | refine ops_pl rfl rfl rfl (.l rfl (fun _ _ => rfl)) rfl ?_
        | refine ops_pl rfl rfl rfl (.l rfl (look_own 0 rfl rfl rfl rfl)) rfl ?_
        | refine ops_pl rfl rfl rfl (.l rfl (look_own 1 rfl rfl rfl rfl)) rfl ?_
        | refine ops_pl rfl rfl rfl (.l rfl (look_own 2 rfl rfl rfl rfl)) rfl ?_
        | refine ops_pl rfl rfl rfl (.l rfl (look_own 3 rfl rfl rfl rfl)) rfl ?_
        | refine ops_pl rfl rfl rfl (.l rfl (look_own 4 rfl rfl rfl rfl)) rfl ?_
        | refine ops_pl rfl rfl rfl (.l rfl (look_own 5 rfl rfl rfl rfl)) rfl ?_
        | refine ops_pl rfl rfl rfl (.l rfl (look_own 6 rfl rfl rfl rfl)) rfl ?_
        | refine ops_pl rfl rfl rfl (.l rfl (look_own 7 rfl rfl rfl rfl)) rfl ?_
        | refine ops_pl rfl rfl rfl (.l rfl (look_agg 0 rfl rfl rfl rfl)) rfl ?_
        | refine ops_pl rfl rfl rfl (.l rfl (look_agg 1 rfl rfl rfl rfl)) rfl ?_
        | refine ops_pl rfl rfl rfl (.l rfl (look_agg 2 rfl rfl rfl rfl)) rfl ?_
        | refine ops_pl rfl rfl rfl (.l rfl (look_agg 3 rfl rfl rfl rfl)) rfl ?_
        | refine ops_pl rfl rfl rfl (.l rfl (look_agg 4 rfl rfl rfl rfl)) rfl ?_
        | refine ops_pl rfl rfl rfl (.l rfl (look_agg 5 rfl rfl rfl rfl)) rfl ?_
        | refine ops_pl rfl rfl rfl (.l rfl (look_agg 6 rfl rfl rfl rfl)) rfl ?_
        | refine ops_pl rfl rfl rfl (.l rfl (look_agg 7 rfl rfl rfl rfl)) rfl ?_
        | refine ops_pl rfl rfl rfl (.l rfl (look_str 0 rfl rfl rfl rfl rfl rfl rfl)) rfl ?_
        | refine ops_pl rfl rfl rfl (.l rfl (look_str 1 rfl rfl rfl rfl rfl rfl rfl)) rfl ?_
        | refine ops_pl rfl rfl rfl (.l rfl (look_str 2 rfl rfl rfl rfl rfl rfl rfl)) rfl ?_
        | refine ops_pl rfl rfl rfl (.l rfl (look_str 3 rfl rfl rfl rfl rfl rfl rfl)) rfl ?_
        | refine ops_skip rfl rfl rfl ?_
        | (refine ops_step rfl rfl rfl ?_; first | (refine step_box rfl rfl rfl (fun _ => ?_)) | (refine step_alloc rfl rfl rfl rfl (fun _ => ?_)) | (refine step_buildSlice rfl rfl rfl rfl rfl (fun _ => ?_)) | (refine step_store 0 rfl rfl rfl rfl rfl rfl rfl rfl rfl ?_) | (refine step_store 1 rfl rfl rfl rfl rfl rfl rfl rfl rfl ?_) | (refine step_store 2 rfl rfl rfl rfl rfl rfl rfl rfl rfl ?_) | (refine step_store 3 rfl rfl rfl rfl rfl rfl rfl rfl rfl ?_) | (refine step_store 4 rfl rfl rfl rfl rfl rfl rfl rfl rfl ?_) | (refine step_store 5 rfl rfl rfl rfl rfl rfl rfl rfl rfl ?_) | (refine step_store 6 rfl rfl rfl rfl rfl rfl rfl rfl rfl ?_) | (refine step_store 7 rfl rfl rfl rfl rfl rfl rfl rfl rfl ?_)))
    refine ops_step rfl rfl rfl (step_call_pure rfl rfl rfl (fun H hs => callB_eq h1 wholeR_ok) ?_)
    repeat (first
        | refine exec_seq ?_
        | refine exec_region ?_
        | refine exec_block ?_
        | refine exec_skip ?_
        | refine exec_exit ?_
        | refine exec_ret ?_
        | refine exec_true rfl ?_
        | refine exec_false rfl ?_
        | refine ops_nil ?_
        | refine ops_pl rfl rfl rfl (.bld rfl rfl rfl rfl) rfl ?_
        | refine ops_pl rfl rfl rfl (.neSelf rfl rfl rfl rfl) rfl ?_
        | refine ops_pl rfl rfl rfl (.eqSelf rfl rfl rfl rfl) rfl ?_
        | refine ops_pl rfl rfl rfl (.wr64 rfl rfl (by omega) (by omega)) rfl ?_
        | refine ops_pl rfl rfl rfl (.wr8 rfl rfl (by omega) (by omega)) rfl ?_
        | refine ops_pl rfl rfl rfl (.p rfl rfl) rfl ?_
        | refine ops_pl rfl rfl rfl (.cv64 rfl (fun _ => rfl) (by omega) (by omega)) rfl ?_
        | refine ops_pl rfl rfl rfl (.cv8 rfl (fun _ => rfl) (by omega) (by omega)) rfl ?_
        | refine ops_pl rfl rfl rfl (.l rfl (fun _ _ => rfl)) rfl ?_
        | refine ops_pl rfl rfl rfl (.l rfl (look_own 0 rfl rfl rfl rfl)) rfl ?_
        | refine ops_pl rfl rfl rfl (.l rfl (look_own 1 rfl rfl rfl rfl)) rfl ?_
        | refine ops_pl rfl rfl rfl (.l rfl (look_own 2 rfl rfl rfl rfl)) rfl ?_
        | refine ops_pl rfl rfl rfl (.l rfl (look_own 3 rfl rfl rfl rfl)) rfl ?_
        | refine ops_pl rfl rfl rfl (.l rfl (look_own 4 rfl rfl rfl rfl)) rfl ?_
        | refine ops_pl rfl rfl rfl (.l rfl (look_own 5 rfl rfl rfl rfl)) rfl ?_
        | refine ops_pl rfl rfl rfl (.l rfl (look_own 6 rfl rfl rfl rfl)) rfl ?_
        | refine ops_pl rfl rfl rfl (.l rfl (look_own 7 rfl rfl rfl rfl)) rfl ?_
        | refine ops_pl rfl rfl rfl (.l rfl (look_agg 0 rfl rfl rfl rfl)) rfl ?_
        | refine ops_pl rfl rfl rfl (.l rfl (look_agg 1 rfl rfl rfl rfl)) rfl ?_
        | refine ops_pl rfl rfl rfl (.l rfl (look_agg 2 rfl rfl rfl rfl)) rfl ?_
        | refine ops_pl rfl rfl rfl (.l rfl (look_agg 3 rfl rfl rfl rfl)) rfl ?_
        | refine ops_pl rfl rfl rfl (.l rfl (look_agg 4 rfl rfl rfl rfl)) rfl ?_
        | refine ops_pl rfl rfl rfl (.l rfl (look_agg 5 rfl rfl rfl rfl)) rfl ?_
        | refine ops_pl rfl rfl rfl (.l rfl (look_agg 6 rfl rfl rfl rfl)) rfl ?_
        | refine ops_pl rfl rfl rfl (.l rfl (look_agg 7 rfl rfl rfl rfl)) rfl ?_
        | refine ops_pl rfl rfl rfl (.l rfl (look_str 0 rfl rfl rfl rfl rfl rfl rfl)) rfl ?_
        | refine ops_pl rfl rfl rfl (.l rfl (look_str 1 rfl rfl rfl rfl rfl rfl rfl)) rfl ?_
        | refine ops_pl rfl rfl rfl (.l rfl (look_str 2 rfl rfl rfl rfl rfl rfl rfl)) rfl ?_
        | refine ops_pl rfl rfl rfl (.l rfl (look_str 3 rfl rfl rfl rfl rfl rfl rfl)) rfl ?_
        | refine ops_skip rfl rfl rfl ?_
        | (refine ops_step rfl rfl rfl ?_; first | (refine step_box rfl rfl rfl (fun _ => ?_)) | (refine step_alloc rfl rfl rfl rfl (fun _ => ?_)) | (refine step_buildSlice rfl rfl rfl rfl rfl (fun _ => ?_)) | (refine step_store 0 rfl rfl rfl rfl rfl rfl rfl rfl rfl ?_) | (refine step_store 1 rfl rfl rfl rfl rfl rfl rfl rfl rfl ?_) | (refine step_store 2 rfl rfl rfl rfl rfl rfl rfl rfl rfl ?_) | (refine step_store 3 rfl rfl rfl rfl rfl rfl rfl rfl rfl ?_) | (refine step_store 4 rfl rfl rfl rfl rfl rfl rfl rfl rfl ?_) | (refine step_store 5 rfl rfl rfl rfl rfl rfl rfl rfl rfl ?_) | (refine step_store 6 rfl rfl rfl rfl rfl rfl rfl rfl rfl ?_) | (refine step_store 7 rfl rfl rfl rfl rfl rfl rfl rfl rfl ?_)))
    refine ops_step rfl rfl rfl (step_call_bool rfl rfl rfl (fun H hs => wholeR_ok) (fun h2 => ?_) (fun h2 => ?_))
    · repeat (first
          | refine exec_seq ?_
          | refine exec_region ?_
          | refine exec_block ?_
          | refine exec_skip ?_
          | refine exec_exit ?_
          | refine exec_ret ?_
          | refine exec_true rfl ?_
          | refine exec_false rfl ?_
          | refine ops_nil ?_
          | refine ops_pl rfl rfl rfl (.bld rfl rfl rfl rfl) rfl ?_
          | refine ops_pl rfl rfl rfl (.neSelf rfl rfl rfl rfl) rfl ?_
          | refine ops_pl rfl rfl rfl (.eqSelf rfl rfl rfl rfl) rfl ?_
          | refine ops_pl rfl rfl rfl (.wr64 rfl rfl (by omega) (by omega)) rfl ?_
          | refine ops_pl rfl rfl rfl (.wr8 rfl rfl (by omega) (by omega)) rfl ?_
          | refine ops_pl rfl rfl rfl (.p rfl rfl) rfl ?_
          | refine ops_pl rfl rfl rfl (.cv64 rfl (fun _ => rfl) (by omega) (by omega)) rfl ?_
          | refine ops_pl rfl rfl rfl (.cv8 rfl (fun _ => rfl) (by omega) (by omega)) rfl ?_
          | refine ops_pl rfl rfl rfl (.l rfl (fun _ _ => rfl)) rfl ?_
          | refine ops_pl rfl rfl rfl (.l rfl (look_own 0 rfl rfl rfl rfl)) rfl ?_
          | refine ops_pl rfl rfl rfl (.l rfl (look_own 1 rfl rfl rfl rfl)) rfl ?_
          | refine ops_pl rfl rfl rfl (.l rfl (look_own 2 rfl rfl rfl rfl)) rfl ?_
          | refine ops_pl rfl rfl rfl (.l rfl (look_own 3 rfl rfl rfl rfl)) rfl ?_
          | refine ops_pl rfl rfl rfl (.l rfl (look_own 4 rfl rfl rfl rfl)) rfl ?_
          | refine ops_pl rfl rfl rfl (.l rfl (look_own 5 rfl rfl rfl rfl)) rfl ?_
          | refine ops_pl rfl rfl rfl (.l rfl (look_own 6 rfl rfl rfl rfl)) rfl ?_
          | refine ops_pl rfl rfl rfl (.l rfl (look_own 7 rfl rfl rfl rfl)) rfl ?_
          | refine ops_pl rfl rfl rfl (.l rfl (look_agg 0 rfl rfl rfl rfl)) rfl ?_
          | refine ops_pl rfl rfl rfl (.l rfl (look_agg 1 rfl rfl rfl rfl)) rfl ?_
          | refine ops_pl rfl rfl rfl (.l rfl (look_agg 2 rfl rfl rfl rfl)) rfl ?_
          | refine ops_pl rfl rfl rfl (.l rfl (look_agg 3 rfl rfl rfl rfl)) rfl ?_
          | refine ops_pl rfl rfl rfl (.l rfl (look_agg 4 rfl rfl rfl rfl)) rfl ?_
          | refine ops_pl rfl rfl rfl (.l rfl (look_agg 5 rfl rfl rfl rfl)) rfl ?_
          | refine ops_pl rfl rfl rfl (.l rfl (look_agg 6 rfl rfl rfl rfl)) rfl ?_
          | refine ops_pl rfl rfl rfl (.l rfl (look_agg 7 rfl rfl rfl rfl)) rfl ?_
          | refine ops_pl rfl rfl rfl (.l rfl (look_str 0 rfl rfl rfl rfl rfl rfl rfl)) rfl ?_
          | refine ops_pl rfl rfl rfl (.l rfl (look_str 1 rfl rfl rfl rfl rfl rfl rfl)) rfl ?_
          | refine ops_pl rfl rfl rfl (.l rfl (look_str 2 rfl rfl rfl rfl rfl rfl rfl)) rfl ?_
          | refine ops_pl rfl rfl rfl (.l rfl (look_str 3 rfl rfl rfl rfl rfl rfl rfl)) rfl ?_
          | refine ops_skip rfl rfl rfl ?_
          | (refine ops_step rfl rfl rfl ?_; first | (refine step_box rfl rfl rfl (fun _ => ?_)) | (refine step_alloc rfl rfl rfl rfl (fun _ => ?_)) | (refine step_buildSlice rfl rfl rfl rfl rfl (fun _ => ?_)) | (refine step_store 0 rfl rfl rfl rfl rfl rfl rfl rfl rfl ?_) | (refine step_store 1 rfl rfl rfl rfl rfl rfl rfl rfl rfl ?_) | (refine step_store 2 rfl rfl rfl rfl rfl rfl rfl rfl rfl ?_) | (refine step_store 3 rfl rfl rfl rfl rfl rfl rfl rfl rfl ?_) | (refine step_store 4 rfl rfl rfl rfl rfl rfl rfl rfl rfl ?_) | (refine step_store 5 rfl rfl rfl rfl rfl rfl rfl rfl rfl ?_) | (refine step_store 6 rfl rfl rfl rfl rfl rfl rfl rfl rfl ?_) | (refine step_store 7 rfl rfl rfl rfl rfl rfl rfl rfl rfl ?_)))
      refine ops_step rfl rfl rfl (step_call_pure rfl rfl rfl (fun H hs => prefixR_ok (ha.at hs) (hb.at hs) hn) ?_)
      repeat (first
          | refine exec_seq ?_
          | refine exec_region ?_
          | refine exec_block ?_
          | refine exec_skip ?_
          | refine exec_exit ?_
          | refine exec_ret ?_
          | refine exec_true rfl ?_
          | refine exec_false rfl ?_
          | refine ops_nil ?_
          | refine ops_pl rfl rfl rfl (.bld rfl rfl rfl rfl) rfl ?_
          | refine ops_pl rfl rfl rfl (.neSelf rfl rfl rfl rfl) rfl ?_
          | refine ops_pl rfl rfl rfl (.eqSelf rfl rfl rfl rfl) rfl ?_
          | refine ops_pl rfl rfl rfl (.wr64 rfl rfl (by omega) (by omega)) rfl ?_
          | refine ops_pl rfl rfl rfl (.wr8 rfl rfl (by omega) (by omega)) rfl ?_
          | refine ops_pl rfl rfl rfl (.p rfl rfl) rfl ?_
          | refine ops_pl rfl rfl rfl (.cv64 rfl (fun _ => rfl) (by omega) (by omega)) rfl ?_
          | refine ops_pl rfl rfl rfl (.cv8 rfl (fun _ => rfl) (by omega) (by omega)) rfl ?_
          | refine ops_pl rfl rfl rfl (.l rfl (fun _ _ => rfl)) rfl ?_
          | refine ops_pl rfl rfl rfl (.l rfl (look_own 0 rfl rfl rfl rfl)) rfl ?_
          | refine ops_pl rfl rfl rfl (.l rfl (look_own 1 rfl rfl rfl rfl)) rfl ?_
          | refine ops_pl rfl rfl rfl (.l rfl (look_own 2 rfl rfl rfl rfl)) rfl ?_
          | refine ops_pl rfl rfl rfl (.l rfl (look_own 3 rfl rfl rfl rfl)) rfl ?_
          | refine ops_pl rfl rfl rfl (.l rfl (look_own 4 rfl rfl rfl rfl)) rfl ?_
          | refine ops_pl rfl rfl rfl (.l rfl (look_own 5 rfl rfl rfl rfl)) rfl ?_
          | refine ops_pl rfl rfl rfl (.l rfl (look_own 6 rfl rfl rfl rfl)) rfl ?_
          | refine ops_pl rfl rfl rfl (.l rfl (look_own 7 rfl rfl rfl rfl)) rfl ?_
          | refine ops_pl rfl rfl rfl (.l rfl (look_agg 0 rfl rfl rfl rfl)) rfl ?_
          | refine ops_pl rfl rfl rfl (.l rfl (look_agg 1 rfl rfl rfl rfl)) rfl ?_
          | refine ops_pl rfl rfl rfl (.l rfl (look_agg 2 rfl rfl rfl rfl)) rfl ?_
          | refine ops_pl rfl rfl rfl (.l rfl (look_agg 3 rfl rfl rfl rfl)) rfl ?_
          | refine ops_pl rfl rfl rfl (.l rfl (look_agg 4 rfl rfl rfl rfl)) rfl ?_
          | refine ops_pl rfl rfl rfl (.l rfl (look_agg 5 rfl rfl rfl rfl)) rfl ?_
          | refine ops_pl rfl rfl rfl (.l rfl (look_agg 6 rfl rfl rfl rfl)) rfl ?_
          | refine ops_pl rfl rfl rfl (.l rfl (look_agg 7 rfl rfl rfl rfl)) rfl ?_
          | refine ops_pl rfl rfl rfl (.l rfl (look_str 0 rfl rfl rfl rfl rfl rfl rfl)) rfl ?_
          | refine ops_pl rfl rfl rfl (.l rfl (look_str 1 rfl rfl rfl rfl rfl rfl rfl)) rfl ?_
          | refine ops_pl rfl rfl rfl (.l rfl (look_str 2 rfl rfl rfl rfl rfl rfl rfl)) rfl ?_
          | refine ops_pl rfl rfl rfl (.l rfl (look_str 3 rfl rfl rfl rfl rfl rfl rfl)) rfl ?_
          | refine ops_skip rfl rfl rfl ?_
          | (refine ops_step rfl rfl rfl ?_; first | (refine step_box rfl rfl rfl (fun _ => ?_)) | (refine step_alloc rfl rfl rfl rfl (fun _ => ?_)) | (refine step_buildSlice rfl rfl rfl rfl rfl (fun _ => ?_)) | (refine step_store 0 rfl rfl rfl rfl rfl rfl rfl rfl rfl ?_) | (refine step_store 1 rfl rfl rfl rfl rfl rfl rfl rfl rfl ?_) | (refine step_store 2 rfl rfl rfl rfl rfl rfl rfl rfl rfl ?_) | (refine step_store 3 rfl rfl rfl rfl rfl rfl rfl rfl rfl ?_) | (refine step_store 4 rfl rfl rfl rfl rfl rfl rfl rfl rfl ?_) | (refine step_store 5 rfl rfl rfl rfl rfl rfl rfl rfl rfl ?_) | (refine step_store 6 rfl rfl rfl rfl rfl rfl rfl rfl rfl ?_) | (refine step_store 7 rfl rfl rfl rfl rfl rfl rfl rfl rfl ?_)))
      exact ⟨trivial, _, rfl, by simp [oneOf, agrees, alike, h1, h2]⟩
    · repeat (first
          | refine exec_seq ?_
          | refine exec_region ?_
          | refine exec_block ?_
          | refine exec_skip ?_
          | refine exec_exit ?_
          | refine exec_ret ?_
          | refine exec_true rfl ?_
          | refine exec_false rfl ?_
          | refine ops_nil ?_
          | refine ops_pl rfl rfl rfl (.bld rfl rfl rfl rfl) rfl ?_
          | refine ops_pl rfl rfl rfl (.neSelf rfl rfl rfl rfl) rfl ?_
          | refine ops_pl rfl rfl rfl (.eqSelf rfl rfl rfl rfl) rfl ?_
          | refine ops_pl rfl rfl rfl (.wr64 rfl rfl (by omega) (by omega)) rfl ?_
          | refine ops_pl rfl rfl rfl (.wr8 rfl rfl (by omega) (by omega)) rfl ?_
          | refine ops_pl rfl rfl rfl (.p rfl rfl) rfl ?_
          | refine ops_pl rfl rfl rfl (.cv64 rfl (fun _ => rfl) (by omega) (by omega)) rfl ?_
          | refine ops_pl rfl rfl rfl (.cv8 rfl (fun _ => rfl) (by omega) (by omega)) rfl ?_
          | refine ops_pl rfl rfl rfl (.l rfl (fun _ _ => rfl)) rfl ?_
          | refine ops_pl rfl rfl rfl (.l rfl (look_own 0 rfl rfl rfl rfl)) rfl ?_
          | refine ops_pl rfl rfl rfl (.l rfl (look_own 1 rfl rfl rfl rfl)) rfl ?_
          | refine ops_pl rfl rfl rfl (.l rfl (look_own 2 rfl rfl rfl rfl)) rfl ?_
          | refine ops_pl rfl rfl rfl (.l rfl (look_own 3 rfl rfl rfl rfl)) rfl ?_
          | refine ops_pl rfl rfl rfl (.l rfl (look_own 4 rfl rfl rfl rfl)) rfl ?_
          | refine ops_pl rfl rfl rfl (.l rfl (look_own 5 rfl rfl rfl rfl)) rfl ?_
          | refine ops_pl rfl rfl rfl (.l rfl (look_own 6 rfl rfl rfl rfl)) rfl ?_
          | refine ops_pl rfl rfl rfl (.l rfl (look_own 7 rfl rfl rfl rfl)) rfl ?_
          | refine ops_pl rfl rfl rfl (.l rfl (look_agg 0 rfl rfl rfl rfl)) rfl ?_
          | refine ops_pl rfl rfl rfl (.l rfl (look_agg 1 rfl rfl rfl rfl)) rfl ?_
          | refine ops_pl rfl rfl rfl (.l rfl (look_agg 2 rfl rfl rfl rfl)) rfl ?_
          | refine ops_pl rfl rfl rfl (.l rfl (look_agg 3 rfl rfl rfl rfl)) rfl ?_
          | refine ops_pl rfl rfl rfl (.l rfl (look_agg 4 rfl rfl rfl rfl)) rfl ?_
          | refine ops_pl rfl rfl rfl (.l rfl (look_agg 5 rfl rfl rfl rfl)) rfl ?_
          | refine ops_pl rfl rfl rfl (.l rfl (look_agg 6 rfl rfl rfl rfl)) rfl ?_
          | refine ops_pl rfl rfl rfl (.l rfl (look_agg 7 rfl rfl rfl rfl)) rfl ?_
          | refine ops_pl rfl rfl rfl (.l rfl (look_str 0 rfl rfl rfl rfl rfl rfl rfl)) rfl ?_
          | refine ops_pl rfl rfl rfl (.l rfl (look_str 1 rfl rfl rfl rfl rfl rfl rfl)) rfl ?_
          | refine ops_pl rfl rfl rfl (.l rfl (look_str 2 rfl rfl rfl rfl rfl rfl rfl)) rfl ?_
          | refine ops_pl rfl rfl rfl (.l rfl (look_str 3 rfl rfl rfl rfl rfl rfl rfl)) rfl ?_
          | refine ops_skip rfl rfl rfl ?_
          | (refine ops_step rfl rfl rfl ?_; first | (refine step_box rfl rfl rfl (fun _ => ?_)) | (refine step_alloc rfl rfl rfl rfl (fun _ => ?_)) | (refine step_buildSlice rfl rfl rfl rfl rfl (fun _ => ?_)) | (refine step_store 0 rfl rfl rfl rfl rfl rfl rfl rfl rfl ?_) | (refine step_store 1 rfl rfl rfl rfl rfl rfl rfl rfl rfl ?_) | (refine step_store 2 rfl rfl rfl rfl rfl rfl rfl rfl rfl ?_) | (refine step_store 3 rfl rfl rfl rfl rfl rfl rfl rfl rfl ?_) | (refine step_store 4 rfl rfl rfl rfl rfl rfl rfl rfl rfl ?_) | (refine step_store 5 rfl rfl rfl rfl rfl rfl rfl rfl rfl ?_) | (refine step_store 6 rfl rfl rfl rfl rfl rfl rfl rfl rfl ?_) | (refine step_store 7 rfl rfl rfl rfl rfl rfl rfl rfl rfl ?_)))
      refine ops_step rfl rfl rfl (step_call_bool rfl rfl rfl (fun H hs => prefixR_ok (ha.at hs) (hb.at hs) hn) (fun h3 => ?_) (fun h3 => ?_))
      · repeat (first
            | refine exec_seq ?_
            | refine exec_region ?_
            | refine exec_block ?_
            | refine exec_skip ?_
            | refine exec_exit ?_
            | refine exec_ret ?_
            | refine exec_true rfl ?_
            | refine exec_false rfl ?_
            | refine ops_nil ?_
            | refine ops_pl rfl rfl rfl (.bld rfl rfl rfl rfl) rfl ?_
            | refine ops_pl rfl rfl rfl (.neSelf rfl rfl rfl rfl) rfl ?_
            | refine ops_pl rfl rfl rfl (.eqSelf rfl rfl rfl rfl) rfl ?_
            | refine ops_pl rfl rfl rfl (.wr64 rfl rfl (by omega) (by omega)) rfl ?_
            | refine ops_pl rfl rfl rfl (.wr8 rfl rfl (by omega) (by omega)) rfl ?_
            | refine ops_pl rfl rfl rfl (.p rfl rfl) rfl ?_
            | refine ops_pl rfl rfl rfl (.cv64 rfl (fun _ => rfl) (by omega) (by omega)) rfl ?_
            | refine ops_pl rfl rfl rfl (.cv8 rfl (fun _ => rfl) (by omega) (by omega)) rfl ?_
            | refine ops_pl rfl rfl rfl (.l rfl (fun _ _ => rfl)) rfl ?_
            | refine ops_pl rfl rfl rfl (.l rfl (look_own 0 rfl rfl rfl rfl)) rfl ?_
            | refine ops_pl rfl rfl rfl (.l rfl (look_own 1 rfl rfl rfl rfl)) rfl ?_
            | refine ops_pl rfl rfl rfl (.l rfl (look_own 2 rfl rfl rfl rfl)) rfl ?_
            | refine ops_pl rfl rfl rfl (.l rfl (look_own 3 rfl rfl rfl rfl)) rfl ?_
            | refine ops_pl rfl rfl rfl (.l rfl (look_own 4 rfl rfl rfl rfl)) rfl ?_
            | refine ops_pl rfl rfl rfl (.l rfl (look_own 5 rfl rfl rfl rfl)) rfl ?_
            | refine ops_pl rfl rfl rfl (.l rfl (look_own 6 rfl rfl rfl rfl)) rfl ?_
            | refine ops_pl rfl rfl rfl (.l rfl (look_own 7 rfl rfl rfl rfl)) rfl ?_
            | refine ops_pl rfl rfl rfl (.l rfl (look_agg 0 rfl rfl rfl rfl)) rfl ?_
            | refine ops_pl rfl rfl rfl (.l rfl (look_agg 1 rfl rfl rfl rfl)) rfl ?_
            | refine ops_pl rfl rfl rfl (.l rfl (look_agg 2 rfl rfl rfl rfl)) rfl ?_
            | refine ops_pl rfl rfl rfl (.l rfl (look_agg 3 rfl rfl rfl rfl)) rfl ?_
            | refine ops_pl rfl rfl rfl (.l rfl (look_agg 4 rfl rfl rfl rfl)) rfl ?_
            | refine ops_pl rfl rfl rfl (.l rfl (look_agg 5 rfl rfl rfl rfl)) rfl ?_
            | refine ops_pl rfl rfl rfl (.l rfl (look_agg 6 rfl rfl rfl rfl)) rfl ?_
            | refine ops_pl rfl rfl rfl (.l rfl (look_agg 7 rfl rfl rfl rfl)) rfl ?_
            | refine ops_pl rfl rfl rfl (.l rfl (look_str 0 rfl rfl rfl rfl rfl rfl rfl)) rfl ?_
            | refine ops_pl rfl rfl rfl (.l rfl (look_str 1 rfl rfl rfl rfl rfl rfl rfl)) rfl ?_
            | refine ops_pl rfl rfl rfl (.l rfl (look_str 2 rfl rfl rfl rfl rfl rfl rfl)) rfl ?_
            | refine ops_pl rfl rfl rfl (.l rfl (look_str 3 rfl rfl rfl rfl rfl rfl rfl)) rfl ?_
            | refine ops_skip rfl rfl rfl ?_
            | (refine ops_step rfl rfl rfl ?_; first | (refine step_box rfl rfl rfl (fun _ => ?_)) | (refine step_alloc rfl rfl rfl rfl (fun _ => ?_)) | (refine step_buildSlice rfl rfl rfl rfl rfl (fun _ => ?_)) | (refine step_store 0 rfl rfl rfl rfl rfl rfl rfl rfl rfl ?_) | (refine step_store 1 rfl rfl rfl rfl rfl rfl rfl rfl rfl ?_) | (refine step_store 2 rfl rfl rfl rfl rfl rfl rfl rfl rfl ?_) | (refine step_store 3 rfl rfl rfl rfl rfl rfl rfl rfl rfl ?_) | (refine step_store 4 rfl rfl rfl rfl rfl rfl rfl rfl rfl ?_) | (refine step_store 5 rfl rfl rfl rfl rfl rfl rfl rfl rfl ?_) | (refine step_store 6 rfl rfl rfl rfl rfl rfl rfl rfl rfl ?_) | (refine step_store 7 rfl rfl rfl rfl rfl rfl rfl rfl rfl ?_)))
        exact ⟨trivial, _, rfl, by simp [oneOf, agrees, alike, h1, h2, h3]⟩
      · repeat (first
            | refine exec_seq ?_
            | refine exec_region ?_
            | refine exec_block ?_
            | refine exec_skip ?_
            | refine exec_exit ?_
            | refine exec_ret ?_
            | refine exec_true rfl ?_
            | refine exec_false rfl ?_
            | refine ops_nil ?_
            | refine ops_pl rfl rfl rfl (.bld rfl rfl rfl rfl) rfl ?_
            | refine ops_pl rfl rfl rfl (.neSelf rfl rfl rfl rfl) rfl ?_
            | refine ops_pl rfl rfl rfl (.eqSelf rfl rfl rfl rfl) rfl ?_
            | refine ops_pl rfl rfl rfl (.wr64 rfl rfl (by omega) (by omega)) rfl ?_
            | refine ops_pl rfl rfl rfl (.wr8 rfl rfl (by omega) (by omega)) rfl ?_
            | refine ops_pl rfl rfl rfl (.p rfl rfl) rfl ?_
            | refine ops_pl rfl rfl rfl (.cv64 rfl (fun _ => rfl) (by omega) (by omega)) rfl ?_
            | refine ops_pl rfl rfl rfl (.cv8 rfl (fun _ => rfl) (by omega) (by omega)) rfl ?_
            | refine ops_pl rfl rfl rfl (.l rfl (fun _ _ => rfl)) rfl ?_
            | refine ops_pl rfl rfl rfl (.l rfl (look_own 0 rfl rfl rfl rfl)) rfl ?_
            | refine ops_pl rfl rfl rfl (.l rfl (look_own 1 rfl rfl rfl rfl)) rfl ?_
            | refine ops_pl rfl rfl rfl (.l rfl (look_own 2 rfl rfl rfl rfl)) rfl ?_
            | refine ops_pl rfl rfl rfl (.l rfl (look_own 3 rfl rfl rfl rfl)) rfl ?_
            | refine ops_pl rfl rfl rfl (.l rfl (look_own 4 rfl rfl rfl rfl)) rfl ?_
            | refine ops_pl rfl rfl rfl (.l rfl (look_own 5 rfl rfl rfl rfl)) rfl ?_
            | refine ops_pl rfl rfl rfl (.l rfl (look_own 6 rfl rfl rfl rfl)) rfl ?_
            | refine ops_pl rfl rfl rfl (.l rfl (look_own 7 rfl rfl rfl rfl)) rfl ?_
            | refine ops_pl rfl rfl rfl (.l rfl (look_agg 0 rfl rfl rfl rfl)) rfl ?_
            | refine ops_pl rfl rfl rfl (.l rfl (look_agg 1 rfl rfl rfl rfl)) rfl ?_
            | refine ops_pl rfl rfl rfl (.l rfl (look_agg 2 rfl rfl rfl rfl)) rfl ?_
            | refine ops_pl rfl rfl rfl (.l rfl (look_agg 3 rfl rfl rfl rfl)) rfl ?_
            | refine ops_pl rfl rfl rfl (.l rfl (look_agg 4 rfl rfl rfl rfl)) rfl ?_
            | refine ops_pl rfl rfl rfl (.l rfl (look_agg 5 rfl rfl rfl rfl)) rfl ?_
            | refine ops_pl rfl rfl rfl (.l rfl (look_agg 6 rfl rfl rfl rfl)) rfl ?_
            | refine ops_pl rfl rfl rfl (.l rfl (look_agg 7 rfl rfl rfl rfl)) rfl ?_
            | refine ops_pl rfl rfl rfl (.l rfl (look_str 0 rfl rfl rfl rfl rfl rfl rfl)) rfl ?_
            | refine ops_pl rfl rfl rfl (.l rfl (look_str 1 rfl rfl rfl rfl rfl rfl rfl)) rfl ?_
            | refine ops_pl rfl rfl rfl (.l rfl (look_str 2 rfl rfl rfl rfl rfl rfl rfl)) rfl ?_
            | refine ops_pl rfl rfl rfl (.l rfl (look_str 3 rfl rfl rfl rfl rfl rfl rfl)) rfl ?_
            | refine ops_skip rfl rfl rfl ?_
            | (refine ops_step rfl rfl rfl ?_; first | (refine step_box rfl rfl rfl (fun _ => ?_)) | (refine step_alloc rfl rfl rfl rfl (fun _ => ?_)) | (refine step_buildSlice rfl rfl rfl rfl rfl (fun _ => ?_)) | (refine step_store 0 rfl rfl rfl rfl rfl rfl rfl rfl rfl ?_) | (refine step_store 1 rfl rfl rfl rfl rfl rfl rfl rfl rfl ?_) | (refine step_store 2 rfl rfl rfl rfl rfl rfl rfl rfl rfl ?_) | (refine step_store 3 rfl rfl rfl rfl rfl rfl rfl rfl rfl ?_) | (refine step_store 4 rfl rfl rfl rfl rfl rfl rfl rfl rfl ?_) | (refine step_store 5 rfl rfl rfl rfl rfl rfl rfl rfl rfl ?_) | (refine step_store 6 rfl rfl rfl rfl rfl rfl rfl rfl rfl ?_) | (refine step_store 7 rfl rfl rfl rfl rfl rfl rfl rfl rfl ?_)))
        refine ops_step rfl rfl rfl (step_call_pure rfl rfl rfl (fun H hs => prefixR_ok (hb.at hs) (ha.at hs) hm) ?_)
        repeat (first
            | refine exec_seq ?_
            | refine exec_region ?_
            | refine exec_block ?_
            | refine exec_skip ?_
            | refine exec_exit ?_
            | refine exec_ret ?_
            | refine exec_true rfl ?_
            | refine exec_false rfl ?_
            | refine ops_nil ?_
            | refine ops_pl rfl rfl rfl (.bld rfl rfl rfl rfl) rfl ?_
            | refine ops_pl rfl rfl rfl (.neSelf rfl rfl rfl rfl) rfl ?_
            | refine ops_pl rfl rfl rfl (.eqSelf rfl rfl rfl rfl) rfl ?_
            | refine ops_pl rfl rfl rfl (.wr64 rfl rfl (by omega) (by omega)) rfl ?_
            | refine ops_pl rfl rfl rfl (.wr8 rfl rfl (by omega) (by omega)) rfl ?_
            | refine ops_pl rfl rfl rfl (.p rfl rfl) rfl ?_
            | refine ops_pl rfl rfl rfl (.cv64 rfl (fun _ => rfl) (by omega) (by omega)) rfl ?_
            | refine ops_pl rfl rfl rfl (.cv8 rfl (fun _ => rfl) (by omega) (by omega)) rfl ?_
            | refine ops_pl rfl rfl rfl (.l rfl (fun _ _ => rfl)) rfl ?_
            | refine ops_pl rfl rfl rfl (.l rfl (look_own 0 rfl rfl rfl rfl)) rfl ?_
            | refine ops_pl rfl rfl rfl (.l rfl (look_own 1 rfl rfl rfl rfl)) rfl ?_
            | refine ops_pl rfl rfl rfl (.l rfl (look_own 2 rfl rfl rfl rfl)) rfl ?_
            | refine ops_pl rfl rfl rfl (.l rfl (look_own 3 rfl rfl rfl rfl)) rfl ?_
            | refine ops_pl rfl rfl rfl (.l rfl (look_own 4 rfl rfl rfl rfl)) rfl ?_
            | refine ops_pl rfl rfl rfl (.l rfl (look_own 5 rfl rfl rfl rfl)) rfl ?_
            | refine ops_pl rfl rfl rfl (.l rfl (look_own 6 rfl rfl rfl rfl)) rfl ?_
            | refine ops_pl rfl rfl rfl (.l rfl (look_own 7 rfl rfl rfl rfl)) rfl ?_
            | refine ops_pl rfl rfl rfl (.l rfl (look_agg 0 rfl rfl rfl rfl)) rfl ?_
            | refine ops_pl rfl rfl rfl (.l rfl (look_agg 1 rfl rfl rfl rfl)) rfl ?_
            | refine ops_pl rfl rfl rfl (.l rfl (look_agg 2 rfl rfl rfl rfl)) rfl ?_
            | refine ops_pl rfl rfl rfl (.l rfl (look_agg 3 rfl rfl rfl rfl)) rfl ?_
            | refine ops_pl rfl rfl rfl (.l rfl (look_agg 4 rfl rfl rfl rfl)) rfl ?_
            | refine ops_pl rfl rfl rfl (.l rfl (look_agg 5 rfl rfl rfl rfl)) rfl ?_
            | refine ops_pl rfl rfl rfl (.l rfl (look_agg 6 rfl rfl rfl rfl)) rfl ?_
            | refine ops_pl rfl rfl rfl (.l rfl (look_agg 7 rfl rfl rfl rfl)) rfl ?_
            | refine ops_pl rfl rfl rfl (.l rfl (look_str 0 rfl rfl rfl rfl rfl rfl rfl)) rfl ?_
            | refine ops_pl rfl rfl rfl (.l rfl (look_str 1 rfl rfl rfl rfl rfl rfl rfl)) rfl ?_
            | refine ops_pl rfl rfl rfl (.l rfl (look_str 2 rfl rfl rfl rfl rfl rfl rfl)) rfl ?_
            | refine ops_pl rfl rfl rfl (.l rfl (look_str 3 rfl rfl rfl rfl rfl rfl rfl)) rfl ?_
            | refine ops_skip rfl rfl rfl ?_
            | (refine ops_step rfl rfl rfl ?_; first | (refine step_box rfl rfl rfl (fun _ => ?_)) | (refine step_alloc rfl rfl rfl rfl (fun _ => ?_)) | (refine step_buildSlice rfl rfl rfl rfl rfl (fun _ => ?_)) | (refine step_store 0 rfl rfl rfl rfl rfl rfl rfl rfl rfl ?_) | (refine step_store 1 rfl rfl rfl rfl rfl rfl rfl rfl rfl ?_) | (refine step_store 2 rfl rfl rfl rfl rfl rfl rfl rfl rfl ?_) | (refine step_store 3 rfl rfl rfl rfl rfl rfl rfl rfl rfl ?_) | (refine step_store 4 rfl rfl rfl rfl rfl rfl rfl rfl rfl ?_) | (refine step_store 5 rfl rfl rfl rfl rfl rfl rfl rfl rfl ?_) | (refine step_store 6 rfl rfl rfl rfl rfl rfl rfl rfl rfl ?_) | (refine step_store 7 rfl rfl rfl rfl rfl rfl rfl rfl rfl ?_)))
        exact ⟨trivial, _, rfl, by simp [oneOf, agrees, alike, h1, h2, h3]⟩

end Go.Proofs.Ytafbconajhpijaa

