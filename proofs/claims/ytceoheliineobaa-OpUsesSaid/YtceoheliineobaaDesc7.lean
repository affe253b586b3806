/-
  Walks: texts that begin with a letter; where a letter stands; the first type of a text.
-/
import Derived.Test.YtceoheliineobaaDesc2a
import Derived.Test.YtceoheliineobaaEvWR
namespace Go.Proofs.Ytceoheliineobaa
open Go.Ev Go.Ev.Wk
set_option linter.unusedVariables false
set_option linter.unusedSimpArgs false
variable {O : Old}


/-- without a letter ahead -/
def cpL (s : List UInt8) (c : UInt8) : List UInt8 := if s.take 1 = [c] then s.drop 1 else s
/-- cut where ';' stands -/
def cutL (s : List UInt8) : List UInt8 × List UInt8 × Bool := match s.findIdx? (· == 59) with
  | some i => (s.take i, s.drop (i + 1), true)
  | none => (s, [], false)

set_option maxHeartbeats 8000000 in
set_option maxRecDepth 100000 in
theorem lhasPrefix_ok {H : Heap} {s : List UInt8} {c : UInt8} : CallC TT O 59 [str s, str [c]] H fun v H' => v = .bool (decide (s.take 1 = [c])) ∧ Ext H H' := by
  refine call_pure rfl rfl rfl rfl rfl ?_
  cases s with
  | nil =>
    repeat (first
    | refine exec_seq ?_
    | refine exec_region ?_
    | refine exec_block ?_
    | refine exec_skip ?_
    | refine exec_exit ?_
    | refine exec_ret ?_
    | refine exec_true rfl ?_
    | refine exec_false rfl ?_
    | refine ops_nil ?_
    | (apply ops_pl rfl rfl rfl ?_ rfl ?_; rotate_left; focus first | exact (.bld rfl rfl rfl rfl) | exact (.cat rfl rfl rfl (by first | (simp; done) | (simp; omega))) | exact (.neSelf rfl rfl rfl rfl) | exact (.eqSelf rfl rfl rfl rfl) | exact (.wr64 rfl rfl (by omega) (by omega)) | exact (.p rfl rfl) | exact (.cv64 rfl (fun _ => rfl) (by omega) (by omega)) | exact (.l rfl (fun _ _ => rfl)) | exact (.l rfl (look_own 0 rfl rfl rfl rfl)) | exact (.l rfl (look_own 1 rfl rfl rfl rfl)) | exact (.l rfl (look_own 2 rfl rfl rfl rfl)) | exact (.l rfl (look_own 3 rfl rfl rfl rfl)) | exact (.l rfl (look_own 4 rfl rfl rfl rfl)) | exact (.l rfl (look_own 5 rfl rfl rfl rfl)) | exact (.l rfl (look_agg 0 rfl rfl rfl rfl)) | exact (.l rfl (look_agg 1 rfl rfl rfl rfl)) | exact (.l rfl (look_agg 2 rfl rfl rfl rfl)) | exact (.l rfl (look_agg 3 rfl rfl rfl rfl)) | exact (.l rfl (look_agg 4 rfl rfl rfl rfl)) | exact (.l rfl (look_agg 5 rfl rfl rfl rfl)))
    | refine ops_skip rfl rfl rfl ?_
    | (refine ops_step rfl rfl rfl ?_; first | (refine step_box rfl rfl rfl (fun _ => ?_)) | (refine step_alloc rfl rfl rfl rfl (fun _ => ?_)) | (refine step_buildSlice rfl rfl rfl rfl rfl (fun _ => ?_)) | (refine step_map rfl (fun _ => ?_)) | (refine step_store 0 rfl rfl rfl rfl rfl rfl rfl rfl rfl ?_) | (refine step_store 1 rfl rfl rfl rfl rfl rfl rfl rfl rfl ?_) | (refine step_store 2 rfl rfl rfl rfl rfl rfl rfl rfl rfl ?_) | (refine step_store 3 rfl rfl rfl rfl rfl rfl rfl rfl rfl ?_) | (refine step_store 4 rfl rfl rfl rfl rfl rfl rfl rfl rfl ?_) | (refine step_store 5 rfl rfl rfl rfl rfl rfl rfl rfl rfl ?_)))
    exact ⟨trivial, _, rfl, rfl⟩
  | cons a r =>
    repeat (first
    | refine exec_seq ?_
    | refine exec_region ?_
    | refine exec_block ?_
    | refine exec_skip ?_
    | refine exec_exit ?_
    | refine exec_ret ?_
    | refine exec_true rfl ?_
    | refine exec_false rfl ?_
    | refine ops_nil ?_
    | (apply ops_pl rfl rfl rfl ?_ rfl ?_; rotate_left; focus first | exact (.bld rfl rfl rfl rfl) | exact (.cat rfl rfl rfl (by first | (simp; done) | (simp; omega))) | exact (.neSelf rfl rfl rfl rfl) | exact (.eqSelf rfl rfl rfl rfl) | exact (.wr64 rfl rfl (by omega) (by omega)) | exact (.p rfl rfl) | exact (.cv64 rfl (fun _ => rfl) (by omega) (by omega)) | exact (.l rfl (fun _ _ => rfl)) | exact (.l rfl (look_own 0 rfl rfl rfl rfl)) | exact (.l rfl (look_own 1 rfl rfl rfl rfl)) | exact (.l rfl (look_own 2 rfl rfl rfl rfl)) | exact (.l rfl (look_own 3 rfl rfl rfl rfl)) | exact (.l rfl (look_own 4 rfl rfl rfl rfl)) | exact (.l rfl (look_own 5 rfl rfl rfl rfl)) | exact (.l rfl (look_agg 0 rfl rfl rfl rfl)) | exact (.l rfl (look_agg 1 rfl rfl rfl rfl)) | exact (.l rfl (look_agg 2 rfl rfl rfl rfl)) | exact (.l rfl (look_agg 3 rfl rfl rfl rfl)) | exact (.l rfl (look_agg 4 rfl rfl rfl rfl)) | exact (.l rfl (look_agg 5 rfl rfl rfl rfl)))
    | refine ops_skip rfl rfl rfl ?_
    | (refine ops_step rfl rfl rfl ?_; first | (refine step_box rfl rfl rfl (fun _ => ?_)) | (refine step_alloc rfl rfl rfl rfl (fun _ => ?_)) | (refine step_buildSlice rfl rfl rfl rfl rfl (fun _ => ?_)) | (refine step_map rfl (fun _ => ?_)) | (refine step_store 0 rfl rfl rfl rfl rfl rfl rfl rfl rfl ?_) | (refine step_store 1 rfl rfl rfl rfl rfl rfl rfl rfl rfl ?_) | (refine step_store 2 rfl rfl rfl rfl rfl rfl rfl rfl rfl ?_) | (refine step_store 3 rfl rfl rfl rfl rfl rfl rfl rfl rfl ?_) | (refine step_store 4 rfl rfl rfl rfl rfl rfl rfl rfl rfl ?_) | (refine step_store 5 rfl rfl rfl rfl rfl rfl rfl rfl rfl ?_)))
    cases h : decide (((a :: r).length : Int) ≥ 1)
    · have := of_decide_eq_false h
      simp at this
      omega
    · repeat (first
      | refine exec_seq ?_
      | refine exec_region ?_
      | refine exec_block ?_
      | refine exec_skip ?_
      | refine exec_exit ?_
      | refine exec_ret ?_
      | refine exec_true rfl ?_
      | refine exec_false rfl ?_
      | refine ops_nil ?_
      | (apply ops_pl rfl rfl rfl ?_ rfl ?_; rotate_left; focus first | exact (.bld rfl rfl rfl rfl) | exact (.cat rfl rfl rfl (by first | (simp; done) | (simp; omega))) | exact (.neSelf rfl rfl rfl rfl) | exact (.eqSelf rfl rfl rfl rfl) | exact (.wr64 rfl rfl (by omega) (by omega)) | exact (.p rfl rfl) | exact (.cv64 rfl (fun _ => rfl) (by omega) (by omega)) | exact (.l rfl (fun _ _ => rfl)) | exact (.l rfl (look_own 0 rfl rfl rfl rfl)) | exact (.l rfl (look_own 1 rfl rfl rfl rfl)) | exact (.l rfl (look_own 2 rfl rfl rfl rfl)) | exact (.l rfl (look_own 3 rfl rfl rfl rfl)) | exact (.l rfl (look_own 4 rfl rfl rfl rfl)) | exact (.l rfl (look_own 5 rfl rfl rfl rfl)) | exact (.l rfl (look_agg 0 rfl rfl rfl rfl)) | exact (.l rfl (look_agg 1 rfl rfl rfl rfl)) | exact (.l rfl (look_agg 2 rfl rfl rfl rfl)) | exact (.l rfl (look_agg 3 rfl rfl rfl rfl)) | exact (.l rfl (look_agg 4 rfl rfl rfl rfl)) | exact (.l rfl (look_agg 5 rfl rfl rfl rfl)))
      | refine ops_skip rfl rfl rfl ?_
      | (refine ops_step rfl rfl rfl ?_; first | (refine step_box rfl rfl rfl (fun _ => ?_)) | (refine step_alloc rfl rfl rfl rfl (fun _ => ?_)) | (refine step_buildSlice rfl rfl rfl rfl rfl (fun _ => ?_)) | (refine step_map rfl (fun _ => ?_)) | (refine step_store 0 rfl rfl rfl rfl rfl rfl rfl rfl rfl ?_) | (refine step_store 1 rfl rfl rfl rfl rfl rfl rfl rfl rfl ?_) | (refine step_store 2 rfl rfl rfl rfl rfl rfl rfl rfl rfl ?_) | (refine step_store 3 rfl rfl rfl rfl rfl rfl rfl rfl rfl ?_) | (refine step_store 4 rfl rfl rfl rfl rfl rfl rfl rfl rfl ?_) | (refine step_store 5 rfl rfl rfl rfl rfl rfl rfl rfl rfl ?_)))
      have hl : 1 ≤ (a :: r).length := by simp
      first | refine ops_pl rfl rfl rfl (.l rfl (look_scut (l := 0) (h := 1) rfl rfl rfl rfl (by first | rfl | omega | exact hw) rfl (by first | rfl | omega | exact hw) rfl (by omega) (by omega))) rfl ?_ | refine draw_pl rfl rfl rfl rfl (.l rfl (look_scut (l := 0) (h := 1) rfl rfl rfl rfl (by first | rfl | omega | exact hw) rfl (by first | rfl | omega | exact hw) rfl (by omega) (by omega))) rfl rfl ?_
      repeat (first
      | refine exec_seq ?_
      | refine exec_region ?_
      | refine exec_block ?_
      | refine exec_skip ?_
      | refine exec_exit ?_
      | refine exec_ret ?_
      | refine exec_true rfl ?_
      | refine exec_false rfl ?_
      | refine ops_nil ?_
      | (apply ops_pl rfl rfl rfl ?_ rfl ?_; rotate_left; focus first | exact (.bld rfl rfl rfl rfl) | exact (.cat rfl rfl rfl (by first | (simp; done) | (simp; omega))) | exact (.neSelf rfl rfl rfl rfl) | exact (.eqSelf rfl rfl rfl rfl) | exact (.wr64 rfl rfl (by omega) (by omega)) | exact (.p rfl rfl) | exact (.cv64 rfl (fun _ => rfl) (by omega) (by omega)) | exact (.l rfl (fun _ _ => rfl)) | exact (.l rfl (look_own 0 rfl rfl rfl rfl)) | exact (.l rfl (look_own 1 rfl rfl rfl rfl)) | exact (.l rfl (look_own 2 rfl rfl rfl rfl)) | exact (.l rfl (look_own 3 rfl rfl rfl rfl)) | exact (.l rfl (look_own 4 rfl rfl rfl rfl)) | exact (.l rfl (look_own 5 rfl rfl rfl rfl)) | exact (.l rfl (look_agg 0 rfl rfl rfl rfl)) | exact (.l rfl (look_agg 1 rfl rfl rfl rfl)) | exact (.l rfl (look_agg 2 rfl rfl rfl rfl)) | exact (.l rfl (look_agg 3 rfl rfl rfl rfl)) | exact (.l rfl (look_agg 4 rfl rfl rfl rfl)) | exact (.l rfl (look_agg 5 rfl rfl rfl rfl)))
      | refine ops_skip rfl rfl rfl ?_
      | (refine ops_step rfl rfl rfl ?_; first | (refine step_box rfl rfl rfl (fun _ => ?_)) | (refine step_alloc rfl rfl rfl rfl (fun _ => ?_)) | (refine step_buildSlice rfl rfl rfl rfl rfl (fun _ => ?_)) | (refine step_map rfl (fun _ => ?_)) | (refine step_store 0 rfl rfl rfl rfl rfl rfl rfl rfl rfl ?_) | (refine step_store 1 rfl rfl rfl rfl rfl rfl rfl rfl rfl ?_) | (refine step_store 2 rfl rfl rfl rfl rfl rfl rfl rfl rfl ?_) | (refine step_store 3 rfl rfl rfl rfl rfl rfl rfl rfl rfl ?_) | (refine step_store 4 rfl rfl rfl rfl rfl rfl rfl rfl rfl ?_) | (refine step_store 5 rfl rfl rfl rfl rfl rfl rfl rfl rfl ?_)))
      refine ⟨trivial, _, rfl, ?_⟩
      show Value.bool ([a] == [c]) = Value.bool (decide ([a] = [c]))
      by_cases h : [a] = [c]
      · rw [h]; simp
      · rw [decide_eq_false h, beq_eq_false_iff_ne.2 h]

set_option maxHeartbeats 8000000 in
set_option maxRecDepth 100000 in
theorem hasPrefix_ok {H : Heap} {s : List UInt8} {c : UInt8} : CallC TT O 55 [str s, str [c]] H fun v H' => v = .bool (decide (s.take 1 = [c])) ∧ Ext H H' := by
  refine call_pure rfl rfl rfl rfl rfl ?_
  repeat (first
  | refine exec_seq ?_
  | refine exec_region ?_
  | refine exec_block ?_
  | refine exec_skip ?_
  | refine exec_exit ?_
  | refine exec_ret ?_
  | refine exec_true rfl ?_
  | refine exec_false rfl ?_
  | refine ops_nil ?_
  | (apply ops_pl rfl rfl rfl ?_ rfl ?_; rotate_left; focus first | exact (.bld rfl rfl rfl rfl) | exact (.cat rfl rfl rfl (by first | (simp; done) | (simp; omega))) | exact (.neSelf rfl rfl rfl rfl) | exact (.eqSelf rfl rfl rfl rfl) | exact (.wr64 rfl rfl (by omega) (by omega)) | exact (.p rfl rfl) | exact (.cv64 rfl (fun _ => rfl) (by omega) (by omega)) | exact (.l rfl (fun _ _ => rfl)) | exact (.l rfl (look_own 0 rfl rfl rfl rfl)) | exact (.l rfl (look_own 1 rfl rfl rfl rfl)) | exact (.l rfl (look_own 2 rfl rfl rfl rfl)) | exact (.l rfl (look_own 3 rfl rfl rfl rfl)) | exact (.l rfl (look_own 4 rfl rfl rfl rfl)) | exact (.l rfl (look_own 5 rfl rfl rfl rfl)) | exact (.l rfl (look_agg 0 rfl rfl rfl rfl)) | exact (.l rfl (look_agg 1 rfl rfl rfl rfl)) | exact (.l rfl (look_agg 2 rfl rfl rfl rfl)) | exact (.l rfl (look_agg 3 rfl rfl rfl rfl)) | exact (.l rfl (look_agg 4 rfl rfl rfl rfl)) | exact (.l rfl (look_agg 5 rfl rfl rfl rfl)))
  | refine ops_skip rfl rfl rfl ?_
  | (refine ops_step rfl rfl rfl ?_; first | (refine step_box rfl rfl rfl (fun _ => ?_)) | (refine step_alloc rfl rfl rfl rfl (fun _ => ?_)) | (refine step_buildSlice rfl rfl rfl rfl rfl (fun _ => ?_)) | (refine step_map rfl (fun _ => ?_)) | (refine step_store 0 rfl rfl rfl rfl rfl rfl rfl rfl rfl ?_) | (refine step_store 1 rfl rfl rfl rfl rfl rfl rfl rfl rfl ?_) | (refine step_store 2 rfl rfl rfl rfl rfl rfl rfl rfl rfl ?_) | (refine step_store 3 rfl rfl rfl rfl rfl rfl rfl rfl rfl ?_) | (refine step_store 4 rfl rfl rfl rfl rfl rfl rfl rfl rfl ?_) | (refine step_store 5 rfl rfl rfl rfl rfl rfl rfl rfl rfl ?_)))
  refine ops_step rfl rfl rfl (step_call_pure rfl rfl rfl (fun H hs => lhasPrefix_ok) ?_)
  repeat (first
  | refine exec_seq ?_
  | refine exec_region ?_
  | refine exec_block ?_
  | refine exec_skip ?_
  | refine exec_exit ?_
  | refine exec_ret ?_
  | refine exec_true rfl ?_
  | refine exec_false rfl ?_
  | refine ops_nil ?_
  | (apply ops_pl rfl rfl rfl ?_ rfl ?_; rotate_left; focus first | exact (.bld rfl rfl rfl rfl) | exact (.cat rfl rfl rfl (by first | (simp; done) | (simp; omega))) | exact (.neSelf rfl rfl rfl rfl) | exact (.eqSelf rfl rfl rfl rfl) | exact (.wr64 rfl rfl (by omega) (by omega)) | exact (.p rfl rfl) | exact (.cv64 rfl (fun _ => rfl) (by omega) (by omega)) | exact (.l rfl (fun _ _ => rfl)) | exact (.l rfl (look_own 0 rfl rfl rfl rfl)) | exact (.l rfl (look_own 1 rfl rfl rfl rfl)) | exact (.l rfl (look_own 2 rfl rfl rfl rfl)) | exact (.l rfl (look_own 3 rfl rfl rfl rfl)) | exact (.l rfl (look_own 4 rfl rfl rfl rfl)) | exact (.l rfl (look_own 5 rfl rfl rfl rfl)) | exact (.l rfl (look_agg 0 rfl rfl rfl rfl)) | exact (.l rfl (look_agg 1 rfl rfl rfl rfl)) | exact (.l rfl (look_agg 2 rfl rfl rfl rfl)) | exact (.l rfl (look_agg 3 rfl rfl rfl rfl)) | exact (.l rfl (look_agg 4 rfl rfl rfl rfl)) | exact (.l rfl (look_agg 5 rfl rfl rfl rfl)))
  | refine ops_skip rfl rfl rfl ?_
  | (refine ops_step rfl rfl rfl ?_; first | (refine step_box rfl rfl rfl (fun _ => ?_)) | (refine step_alloc rfl rfl rfl rfl (fun _ => ?_)) | (refine step_buildSlice rfl rfl rfl rfl rfl (fun _ => ?_)) | (refine step_map rfl (fun _ => ?_)) | (refine step_store 0 rfl rfl rfl rfl rfl rfl rfl rfl rfl ?_) | (refine step_store 1 rfl rfl rfl rfl rfl rfl rfl rfl rfl ?_) | (refine step_store 2 rfl rfl rfl rfl rfl rfl rfl rfl rfl ?_) | (refine step_store 3 rfl rfl rfl rfl rfl rfl rfl rfl rfl ?_) | (refine step_store 4 rfl rfl rfl rfl rfl rfl rfl rfl rfl ?_) | (refine step_store 5 rfl rfl rfl rfl rfl rfl rfl rfl rfl ?_)))
  exact ⟨trivial, _, rfl, rfl⟩

set_option maxHeartbeats 8000000 in
set_option maxRecDepth 100000 in
theorem lcutPrefix_ok {H : Heap} {s : List UInt8} {c : UInt8} : CallC TT O 57 [str s, str [c]] H fun v H' => v = .tuple #[str (cpL s c), .bool (decide (s.take 1 = [c]))] ∧ Ext H H' := by
  refine call_pure rfl rfl rfl rfl rfl ?_
  repeat (first
  | refine exec_seq ?_
  | refine exec_region ?_
  | refine exec_block ?_
  | refine exec_skip ?_
  | refine exec_exit ?_
  | refine exec_ret ?_
  | refine exec_true rfl ?_
  | refine exec_false rfl ?_
  | refine ops_nil ?_
  | (apply ops_pl rfl rfl rfl ?_ rfl ?_; rotate_left; focus first | exact (.bld rfl rfl rfl rfl) | exact (.cat rfl rfl rfl (by first | (simp; done) | (simp; omega))) | exact (.neSelf rfl rfl rfl rfl) | exact (.eqSelf rfl rfl rfl rfl) | exact (.wr64 rfl rfl (by omega) (by omega)) | exact (.p rfl rfl) | exact (.cv64 rfl (fun _ => rfl) (by omega) (by omega)) | exact (.l rfl (fun _ _ => rfl)) | exact (.l rfl (look_own 0 rfl rfl rfl rfl)) | exact (.l rfl (look_own 1 rfl rfl rfl rfl)) | exact (.l rfl (look_own 2 rfl rfl rfl rfl)) | exact (.l rfl (look_own 3 rfl rfl rfl rfl)) | exact (.l rfl (look_own 4 rfl rfl rfl rfl)) | exact (.l rfl (look_own 5 rfl rfl rfl rfl)) | exact (.l rfl (look_agg 0 rfl rfl rfl rfl)) | exact (.l rfl (look_agg 1 rfl rfl rfl rfl)) | exact (.l rfl (look_agg 2 rfl rfl rfl rfl)) | exact (.l rfl (look_agg 3 rfl rfl rfl rfl)) | exact (.l rfl (look_agg 4 rfl rfl rfl rfl)) | exact (.l rfl (look_agg 5 rfl rfl rfl rfl)))
  | refine ops_skip rfl rfl rfl ?_
  | (refine ops_step rfl rfl rfl ?_; first | (refine step_box rfl rfl rfl (fun _ => ?_)) | (refine step_alloc rfl rfl rfl rfl (fun _ => ?_)) | (refine step_buildSlice rfl rfl rfl rfl rfl (fun _ => ?_)) | (refine step_map rfl (fun _ => ?_)) | (refine step_store 0 rfl rfl rfl rfl rfl rfl rfl rfl rfl ?_) | (refine step_store 1 rfl rfl rfl rfl rfl rfl rfl rfl rfl ?_) | (refine step_store 2 rfl rfl rfl rfl rfl rfl rfl rfl rfl ?_) | (refine step_store 3 rfl rfl rfl rfl rfl rfl rfl rfl rfl ?_) | (refine step_store 4 rfl rfl rfl rfl rfl rfl rfl rfl rfl ?_) | (refine step_store 5 rfl rfl rfl rfl rfl rfl rfl rfl rfl ?_)))
  refine ops_step rfl rfl rfl (step_call_pure rfl rfl rfl (fun H hs => lhasPrefix_ok) ?_)
  cases h : decide (s.take 1 = [c])
  · repeat (first
    | refine exec_seq ?_
    | refine exec_region ?_
    | refine exec_block ?_
    | refine exec_skip ?_
    | refine exec_exit ?_
    | refine exec_ret ?_
    | refine exec_true rfl ?_
    | refine exec_false rfl ?_
    | refine ops_nil ?_
    | (apply ops_pl rfl rfl rfl ?_ rfl ?_; rotate_left; focus first | exact (.bld rfl rfl rfl rfl) | exact (.cat rfl rfl rfl (by first | (simp; done) | (simp; omega))) | exact (.neSelf rfl rfl rfl rfl) | exact (.eqSelf rfl rfl rfl rfl) | exact (.wr64 rfl rfl (by omega) (by omega)) | exact (.p rfl rfl) | exact (.cv64 rfl (fun _ => rfl) (by omega) (by omega)) | exact (.l rfl (fun _ _ => rfl)) | exact (.l rfl (look_own 0 rfl rfl rfl rfl)) | exact (.l rfl (look_own 1 rfl rfl rfl rfl)) | exact (.l rfl (look_own 2 rfl rfl rfl rfl)) | exact (.l rfl (look_own 3 rfl rfl rfl rfl)) | exact (.l rfl (look_own 4 rfl rfl rfl rfl)) | exact (.l rfl (look_own 5 rfl rfl rfl rfl)) | exact (.l rfl (look_agg 0 rfl rfl rfl rfl)) | exact (.l rfl (look_agg 1 rfl rfl rfl rfl)) | exact (.l rfl (look_agg 2 rfl rfl rfl rfl)) | exact (.l rfl (look_agg 3 rfl rfl rfl rfl)) | exact (.l rfl (look_agg 4 rfl rfl rfl rfl)) | exact (.l rfl (look_agg 5 rfl rfl rfl rfl)))
    | refine ops_skip rfl rfl rfl ?_
    | (refine ops_step rfl rfl rfl ?_; first | (refine step_box rfl rfl rfl (fun _ => ?_)) | (refine step_alloc rfl rfl rfl rfl (fun _ => ?_)) | (refine step_buildSlice rfl rfl rfl rfl rfl (fun _ => ?_)) | (refine step_map rfl (fun _ => ?_)) | (refine step_store 0 rfl rfl rfl rfl rfl rfl rfl rfl rfl ?_) | (refine step_store 1 rfl rfl rfl rfl rfl rfl rfl rfl rfl ?_) | (refine step_store 2 rfl rfl rfl rfl rfl rfl rfl rfl rfl ?_) | (refine step_store 3 rfl rfl rfl rfl rfl rfl rfl rfl rfl ?_) | (refine step_store 4 rfl rfl rfl rfl rfl rfl rfl rfl rfl ?_) | (refine step_store 5 rfl rfl rfl rfl rfl rfl rfl rfl rfl ?_)))
    refine ⟨trivial, _, rfl, ?_⟩
    rw [cpL, if_neg (of_decide_eq_false h)]
    rfl
  · have h1 := of_decide_eq_true h
    have hl : 1 ≤ s.length := by
      cases s with
      | nil => cases h1
      | cons a r => simp
    repeat (first
    | refine exec_seq ?_
    | refine exec_region ?_
    | refine exec_block ?_
    | refine exec_skip ?_
    | refine exec_exit ?_
    | refine exec_ret ?_
    | refine exec_true rfl ?_
    | refine exec_false rfl ?_
    | refine ops_nil ?_
    | (apply ops_pl rfl rfl rfl ?_ rfl ?_; rotate_left; focus first | exact (.bld rfl rfl rfl rfl) | exact (.cat rfl rfl rfl (by first | (simp; done) | (simp; omega))) | exact (.neSelf rfl rfl rfl rfl) | exact (.eqSelf rfl rfl rfl rfl) | exact (.wr64 rfl rfl (by omega) (by omega)) | exact (.p rfl rfl) | exact (.cv64 rfl (fun _ => rfl) (by omega) (by omega)) | exact (.l rfl (fun _ _ => rfl)) | exact (.l rfl (look_own 0 rfl rfl rfl rfl)) | exact (.l rfl (look_own 1 rfl rfl rfl rfl)) | exact (.l rfl (look_own 2 rfl rfl rfl rfl)) | exact (.l rfl (look_own 3 rfl rfl rfl rfl)) | exact (.l rfl (look_own 4 rfl rfl rfl rfl)) | exact (.l rfl (look_own 5 rfl rfl rfl rfl)) | exact (.l rfl (look_agg 0 rfl rfl rfl rfl)) | exact (.l rfl (look_agg 1 rfl rfl rfl rfl)) | exact (.l rfl (look_agg 2 rfl rfl rfl rfl)) | exact (.l rfl (look_agg 3 rfl rfl rfl rfl)) | exact (.l rfl (look_agg 4 rfl rfl rfl rfl)) | exact (.l rfl (look_agg 5 rfl rfl rfl rfl)))
    | refine ops_skip rfl rfl rfl ?_
    | (refine ops_step rfl rfl rfl ?_; first | (refine step_box rfl rfl rfl (fun _ => ?_)) | (refine step_alloc rfl rfl rfl rfl (fun _ => ?_)) | (refine step_buildSlice rfl rfl rfl rfl rfl (fun _ => ?_)) | (refine step_map rfl (fun _ => ?_)) | (refine step_store 0 rfl rfl rfl rfl rfl rfl rfl rfl rfl ?_) | (refine step_store 1 rfl rfl rfl rfl rfl rfl rfl rfl rfl ?_) | (refine step_store 2 rfl rfl rfl rfl rfl rfl rfl rfl rfl ?_) | (refine step_store 3 rfl rfl rfl rfl rfl rfl rfl rfl rfl ?_) | (refine step_store 4 rfl rfl rfl rfl rfl rfl rfl rfl rfl ?_) | (refine step_store 5 rfl rfl rfl rfl rfl rfl rfl rfl rfl ?_)))
    first | refine ops_pl rfl rfl rfl (.l rfl (look_scut (l := 1) (h := s.length) rfl rfl rfl rfl (by first | rfl | omega | exact hw) rfl (by first | rfl | omega | exact hw) rfl (by omega) (by omega))) rfl ?_ | refine draw_pl rfl rfl rfl rfl (.l rfl (look_scut (l := 1) (h := s.length) rfl rfl rfl rfl (by first | rfl | omega | exact hw) rfl (by first | rfl | omega | exact hw) rfl (by omega) (by omega))) rfl rfl ?_
    repeat (first
    | refine exec_seq ?_
    | refine exec_region ?_
    | refine exec_block ?_
    | refine exec_skip ?_
    | refine exec_exit ?_
    | refine exec_ret ?_
    | refine exec_true rfl ?_
    | refine exec_false rfl ?_
    | refine ops_nil ?_
    | (apply ops_pl rfl rfl rfl ?_ rfl ?_; rotate_left; focus first | exact (.bld rfl rfl rfl rfl) | exact (.cat rfl rfl rfl (by first | (simp; done) | (simp; omega))) | exact (.neSelf rfl rfl rfl rfl) | exact (.eqSelf rfl rfl rfl rfl) | exact (.wr64 rfl rfl (by omega) (by omega)) | exact (.p rfl rfl) | exact (.cv64 rfl (fun _ => rfl) (by omega) (by omega)) | exact (.l rfl (fun _ _ => rfl)) | exact (.l rfl (look_own 0 rfl rfl rfl rfl)) | exact (.l rfl (look_own 1 rfl rfl rfl rfl)) | exact (.l rfl (look_own 2 rfl rfl rfl rfl)) | exact (.l rfl (look_own 3 rfl rfl rfl rfl)) | exact (.l rfl (look_own 4 rfl rfl rfl rfl)) | exact (.l rfl (look_own 5 rfl rfl rfl rfl)) | exact (.l rfl (look_agg 0 rfl rfl rfl rfl)) | exact (.l rfl (look_agg 1 rfl rfl rfl rfl)) | exact (.l rfl (look_agg 2 rfl rfl rfl rfl)) | exact (.l rfl (look_agg 3 rfl rfl rfl rfl)) | exact (.l rfl (look_agg 4 rfl rfl rfl rfl)) | exact (.l rfl (look_agg 5 rfl rfl rfl rfl)))
    | refine ops_skip rfl rfl rfl ?_
    | (refine ops_step rfl rfl rfl ?_; first | (refine step_box rfl rfl rfl (fun _ => ?_)) | (refine step_alloc rfl rfl rfl rfl (fun _ => ?_)) | (refine step_buildSlice rfl rfl rfl rfl rfl (fun _ => ?_)) | (refine step_map rfl (fun _ => ?_)) | (refine step_store 0 rfl rfl rfl rfl rfl rfl rfl rfl rfl ?_) | (refine step_store 1 rfl rfl rfl rfl rfl rfl rfl rfl rfl ?_) | (refine step_store 2 rfl rfl rfl rfl rfl rfl rfl rfl rfl ?_) | (refine step_store 3 rfl rfl rfl rfl rfl rfl rfl rfl rfl ?_) | (refine step_store 4 rfl rfl rfl rfl rfl rfl rfl rfl rfl ?_) | (refine step_store 5 rfl rfl rfl rfl rfl rfl rfl rfl rfl ?_)))
    refine ⟨trivial, _, rfl, ?_⟩
    rw [cpL, if_pos h1, List.take_length]
    rfl

set_option maxHeartbeats 8000000 in
set_option maxRecDepth 100000 in
theorem cutPrefix_ok {H : Heap} {s : List UInt8} {c : UInt8} : CallC TT O 45 [str s, str [c]] H fun v H' => v = .tuple #[str (cpL s c), .bool (decide (s.take 1 = [c]))] ∧ Ext H H' := by
  refine call_pure rfl rfl rfl rfl rfl ?_
  repeat (first
  | refine exec_seq ?_
  | refine exec_region ?_
  | refine exec_block ?_
  | refine exec_skip ?_
  | refine exec_exit ?_
  | refine exec_ret ?_
  | refine exec_true rfl ?_
  | refine exec_false rfl ?_
  | refine ops_nil ?_
  | (apply ops_pl rfl rfl rfl ?_ rfl ?_; rotate_left; focus first | exact (.bld rfl rfl rfl rfl) | exact (.cat rfl rfl rfl (by first | (simp; done) | (simp; omega))) | exact (.neSelf rfl rfl rfl rfl) | exact (.eqSelf rfl rfl rfl rfl) | exact (.wr64 rfl rfl (by omega) (by omega)) | exact (.p rfl rfl) | exact (.cv64 rfl (fun _ => rfl) (by omega) (by omega)) | exact (.l rfl (fun _ _ => rfl)) | exact (.l rfl (look_own 0 rfl rfl rfl rfl)) | exact (.l rfl (look_own 1 rfl rfl rfl rfl)) | exact (.l rfl (look_own 2 rfl rfl rfl rfl)) | exact (.l rfl (look_own 3 rfl rfl rfl rfl)) | exact (.l rfl (look_own 4 rfl rfl rfl rfl)) | exact (.l rfl (look_own 5 rfl rfl rfl rfl)) | exact (.l rfl (look_agg 0 rfl rfl rfl rfl)) | exact (.l rfl (look_agg 1 rfl rfl rfl rfl)) | exact (.l rfl (look_agg 2 rfl rfl rfl rfl)) | exact (.l rfl (look_agg 3 rfl rfl rfl rfl)) | exact (.l rfl (look_agg 4 rfl rfl rfl rfl)) | exact (.l rfl (look_agg 5 rfl rfl rfl rfl)))
  | refine ops_skip rfl rfl rfl ?_
  | (refine ops_step rfl rfl rfl ?_; first | (refine step_box rfl rfl rfl (fun _ => ?_)) | (refine step_alloc rfl rfl rfl rfl (fun _ => ?_)) | (refine step_buildSlice rfl rfl rfl rfl rfl (fun _ => ?_)) | (refine step_map rfl (fun _ => ?_)) | (refine step_store 0 rfl rfl rfl rfl rfl rfl rfl rfl rfl ?_) | (refine step_store 1 rfl rfl rfl rfl rfl rfl rfl rfl rfl ?_) | (refine step_store 2 rfl rfl rfl rfl rfl rfl rfl rfl rfl ?_) | (refine step_store 3 rfl rfl rfl rfl rfl rfl rfl rfl rfl ?_) | (refine step_store 4 rfl rfl rfl rfl rfl rfl rfl rfl rfl ?_) | (refine step_store 5 rfl rfl rfl rfl rfl rfl rfl rfl rfl ?_)))
  refine ops_step rfl rfl rfl (step_call_pure rfl rfl rfl (fun H hs => lcutPrefix_ok) ?_)
  repeat (first
  | refine exec_seq ?_
  | refine exec_region ?_
  | refine exec_block ?_
  | refine exec_skip ?_
  | refine exec_exit ?_
  | refine exec_ret ?_
  | refine exec_true rfl ?_
  | refine exec_false rfl ?_
  | refine ops_nil ?_
  | (apply ops_pl rfl rfl rfl ?_ rfl ?_; rotate_left; focus first | exact (.bld rfl rfl rfl rfl) | exact (.cat rfl rfl rfl (by first | (simp; done) | (simp; omega))) | exact (.neSelf rfl rfl rfl rfl) | exact (.eqSelf rfl rfl rfl rfl) | exact (.wr64 rfl rfl (by omega) (by omega)) | exact (.p rfl rfl) | exact (.cv64 rfl (fun _ => rfl) (by omega) (by omega)) | exact (.l rfl (fun _ _ => rfl)) | exact (.l rfl (look_own 0 rfl rfl rfl rfl)) | exact (.l rfl (look_own 1 rfl rfl rfl rfl)) | exact (.l rfl (look_own 2 rfl rfl rfl rfl)) | exact (.l rfl (look_own 3 rfl rfl rfl rfl)) | exact (.l rfl (look_own 4 rfl rfl rfl rfl)) | exact (.l rfl (look_own 5 rfl rfl rfl rfl)) | exact (.l rfl (look_agg 0 rfl rfl rfl rfl)) | exact (.l rfl (look_agg 1 rfl rfl rfl rfl)) | exact (.l rfl (look_agg 2 rfl rfl rfl rfl)) | exact (.l rfl (look_agg 3 rfl rfl rfl rfl)) | exact (.l rfl (look_agg 4 rfl rfl rfl rfl)) | exact (.l rfl (look_agg 5 rfl rfl rfl rfl)))
  | refine ops_skip rfl rfl rfl ?_
  | (refine ops_step rfl rfl rfl ?_; first | (refine step_box rfl rfl rfl (fun _ => ?_)) | (refine step_alloc rfl rfl rfl rfl (fun _ => ?_)) | (refine step_buildSlice rfl rfl rfl rfl rfl (fun _ => ?_)) | (refine step_map rfl (fun _ => ?_)) | (refine step_store 0 rfl rfl rfl rfl rfl rfl rfl rfl rfl ?_) | (refine step_store 1 rfl rfl rfl rfl rfl rfl rfl rfl rfl ?_) | (refine step_store 2 rfl rfl rfl rfl rfl rfl rfl rfl rfl ?_) | (refine step_store 3 rfl rfl rfl rfl rfl rfl rfl rfl rfl ?_) | (refine step_store 4 rfl rfl rfl rfl rfl rfl rfl rfl rfl ?_) | (refine step_store 5 rfl rfl rfl rfl rfl rfl rfl rfl rfl ?_)))
  exact ⟨trivial, _, rfl, rfl⟩

abbrev ixV (s : List UInt8) : Value := .int .i64 (match s.findIdx? (· == 59) with | some i => (i : Int) | none => -1)

set_option maxHeartbeats 8000000 in
set_option maxRecDepth 100000 in
theorem indexByte_ok {H : Heap} {s : List UInt8} {n : Int} (hn : n = 59) : CallC TT O 63 [str s, .int .u8 n] H fun v H' => v = ixV s ∧ Ext H H' := by
  refine call_pure rfl rfl rfl rfl rfl ?_
  repeat (first
  | refine exec_seq ?_
  | refine exec_region ?_
  | refine exec_block ?_
  | refine exec_skip ?_
  | refine exec_exit ?_
  | refine exec_ret ?_
  | refine exec_true rfl ?_
  | refine exec_false rfl ?_
  | refine ops_nil ?_
  | (apply ops_pl rfl rfl rfl ?_ rfl ?_; rotate_left; focus first | exact (.bld rfl rfl rfl rfl) | exact (.cat rfl rfl rfl (by first | (simp; done) | (simp; omega))) | exact (.neSelf rfl rfl rfl rfl) | exact (.eqSelf rfl rfl rfl rfl) | exact (.wr64 rfl rfl (by omega) (by omega)) | exact (.p rfl rfl) | exact (.cv64 rfl (fun _ => rfl) (by omega) (by omega)) | exact (.l rfl (fun _ _ => rfl)) | exact (.l rfl (look_own 0 rfl rfl rfl rfl)) | exact (.l rfl (look_own 1 rfl rfl rfl rfl)) | exact (.l rfl (look_own 2 rfl rfl rfl rfl)) | exact (.l rfl (look_own 3 rfl rfl rfl rfl)) | exact (.l rfl (look_own 4 rfl rfl rfl rfl)) | exact (.l rfl (look_own 5 rfl rfl rfl rfl)) | exact (.l rfl (look_agg 0 rfl rfl rfl rfl)) | exact (.l rfl (look_agg 1 rfl rfl rfl rfl)) | exact (.l rfl (look_agg 2 rfl rfl rfl rfl)) | exact (.l rfl (look_agg 3 rfl rfl rfl rfl)) | exact (.l rfl (look_agg 4 rfl rfl rfl rfl)) | exact (.l rfl (look_agg 5 rfl rfl rfl rfl)))
  | refine ops_skip rfl rfl rfl ?_
  | (refine ops_step rfl rfl rfl ?_; first | (refine step_box rfl rfl rfl (fun _ => ?_)) | (refine step_alloc rfl rfl rfl rfl (fun _ => ?_)) | (refine step_buildSlice rfl rfl rfl rfl rfl (fun _ => ?_)) | (refine step_map rfl (fun _ => ?_)) | (refine step_store 0 rfl rfl rfl rfl rfl rfl rfl rfl rfl ?_) | (refine step_store 1 rfl rfl rfl rfl rfl rfl rfl rfl rfl ?_) | (refine step_store 2 rfl rfl rfl rfl rfl rfl rfl rfl rfl ?_) | (refine step_store 3 rfl rfl rfl rfl rfl rfl rfl rfl rfl ?_) | (refine step_store 4 rfl rfl rfl rfl rfl rfl rfl rfl rfl ?_) | (refine step_store 5 rfl rfl rfl rfl rfl rfl rfl rfl rfl ?_)))
  refine ops_step rfl rfl rfl (step_call_pure rfl rfl rfl (fun H hs => call_ibs (c := 59) rfl hn) ?_)
  repeat (first
  | refine exec_seq ?_
  | refine exec_region ?_
  | refine exec_block ?_
  | refine exec_skip ?_
  | refine exec_exit ?_
  | refine exec_ret ?_
  | refine exec_true rfl ?_
  | refine exec_false rfl ?_
  | refine ops_nil ?_
  | (apply ops_pl rfl rfl rfl ?_ rfl ?_; rotate_left; focus first | exact (.bld rfl rfl rfl rfl) | exact (.cat rfl rfl rfl (by first | (simp; done) | (simp; omega))) | exact (.neSelf rfl rfl rfl rfl) | exact (.eqSelf rfl rfl rfl rfl) | exact (.wr64 rfl rfl (by omega) (by omega)) | exact (.p rfl rfl) | exact (.cv64 rfl (fun _ => rfl) (by omega) (by omega)) | exact (.l rfl (fun _ _ => rfl)) | exact (.l rfl (look_own 0 rfl rfl rfl rfl)) | exact (.l rfl (look_own 1 rfl rfl rfl rfl)) | exact (.l rfl (look_own 2 rfl rfl rfl rfl)) | exact (.l rfl (look_own 3 rfl rfl rfl rfl)) | exact (.l rfl (look_own 4 rfl rfl rfl rfl)) | exact (.l rfl (look_own 5 rfl rfl rfl rfl)) | exact (.l rfl (look_agg 0 rfl rfl rfl rfl)) | exact (.l rfl (look_agg 1 rfl rfl rfl rfl)) | exact (.l rfl (look_agg 2 rfl rfl rfl rfl)) | exact (.l rfl (look_agg 3 rfl rfl rfl rfl)) | exact (.l rfl (look_agg 4 rfl rfl rfl rfl)) | exact (.l rfl (look_agg 5 rfl rfl rfl rfl)))
  | refine ops_skip rfl rfl rfl ?_
  | (refine ops_step rfl rfl rfl ?_; first | (refine step_box rfl rfl rfl (fun _ => ?_)) | (refine step_alloc rfl rfl rfl rfl (fun _ => ?_)) | (refine step_buildSlice rfl rfl rfl rfl rfl (fun _ => ?_)) | (refine step_map rfl (fun _ => ?_)) | (refine step_store 0 rfl rfl rfl rfl rfl rfl rfl rfl rfl ?_) | (refine step_store 1 rfl rfl rfl rfl rfl rfl rfl rfl rfl ?_) | (refine step_store 2 rfl rfl rfl rfl rfl rfl rfl rfl rfl ?_) | (refine step_store 3 rfl rfl rfl rfl rfl rfl rfl rfl rfl ?_) | (refine step_store 4 rfl rfl rfl rfl rfl rfl rfl rfl rfl ?_) | (refine step_store 5 rfl rfl rfl rfl rfl rfl rfl rfl rfl ?_)))
  exact ⟨trivial, _, rfl, rfl⟩

set_option maxHeartbeats 8000000 in
set_option maxRecDepth 100000 in
theorem index_ok {H : Heap} {s : List UInt8} : CallC TT O 62 [str s, str [59]] H fun v H' => v = ixV s ∧ Ext H H' := by
  refine call_pure rfl rfl rfl rfl rfl ?_
  repeat (first
  | refine exec_seq ?_
  | refine exec_region ?_
  | refine exec_block ?_
  | refine exec_skip ?_
  | refine exec_exit ?_
  | refine exec_ret ?_
  | refine exec_true rfl ?_
  | refine exec_false rfl ?_
  | refine ops_nil ?_
  | (apply ops_pl rfl rfl rfl ?_ rfl ?_; rotate_left; focus first | exact (.bld rfl rfl rfl rfl) | exact (.cat rfl rfl rfl (by first | (simp; done) | (simp; omega))) | exact (.neSelf rfl rfl rfl rfl) | exact (.eqSelf rfl rfl rfl rfl) | exact (.wr64 rfl rfl (by omega) (by omega)) | exact (.p rfl rfl) | exact (.cv64 rfl (fun _ => rfl) (by omega) (by omega)) | exact (.l rfl (fun _ _ => rfl)) | exact (.l rfl (look_own 0 rfl rfl rfl rfl)) | exact (.l rfl (look_own 1 rfl rfl rfl rfl)) | exact (.l rfl (look_own 2 rfl rfl rfl rfl)) | exact (.l rfl (look_own 3 rfl rfl rfl rfl)) | exact (.l rfl (look_own 4 rfl rfl rfl rfl)) | exact (.l rfl (look_own 5 rfl rfl rfl rfl)) | exact (.l rfl (look_agg 0 rfl rfl rfl rfl)) | exact (.l rfl (look_agg 1 rfl rfl rfl rfl)) | exact (.l rfl (look_agg 2 rfl rfl rfl rfl)) | exact (.l rfl (look_agg 3 rfl rfl rfl rfl)) | exact (.l rfl (look_agg 4 rfl rfl rfl rfl)) | exact (.l rfl (look_agg 5 rfl rfl rfl rfl)))
  | refine ops_skip rfl rfl rfl ?_
  | (refine ops_step rfl rfl rfl ?_; first | (refine step_box rfl rfl rfl (fun _ => ?_)) | (refine step_alloc rfl rfl rfl rfl (fun _ => ?_)) | (refine step_buildSlice rfl rfl rfl rfl rfl (fun _ => ?_)) | (refine step_map rfl (fun _ => ?_)) | (refine step_store 0 rfl rfl rfl rfl rfl rfl rfl rfl rfl ?_) | (refine step_store 1 rfl rfl rfl rfl rfl rfl rfl rfl rfl ?_) | (refine step_store 2 rfl rfl rfl rfl rfl rfl rfl rfl rfl ?_) | (refine step_store 3 rfl rfl rfl rfl rfl rfl rfl rfl rfl ?_) | (refine step_store 4 rfl rfl rfl rfl rfl rfl rfl rfl rfl ?_) | (refine step_store 5 rfl rfl rfl rfl rfl rfl rfl rfl rfl ?_)))
  refine exec_cond rfl (fun h => ?_) (fun h => ?_)
  · repeat (first
    | refine exec_seq ?_
    | refine exec_region ?_
    | refine exec_block ?_
    | refine exec_skip ?_
    | refine exec_exit ?_
    | refine exec_ret ?_
    | refine exec_true rfl ?_
    | refine exec_false rfl ?_
    | refine ops_nil ?_
    | (apply ops_pl rfl rfl rfl ?_ rfl ?_; rotate_left; focus first | exact (.bld rfl rfl rfl rfl) | exact (.cat rfl rfl rfl (by first | (simp; done) | (simp; omega))) | exact (.neSelf rfl rfl rfl rfl) | exact (.eqSelf rfl rfl rfl rfl) | exact (.wr64 rfl rfl (by omega) (by omega)) | exact (.p rfl rfl) | exact (.cv64 rfl (fun _ => rfl) (by omega) (by omega)) | exact (.l rfl (fun _ _ => rfl)) | exact (.l rfl (look_own 0 rfl rfl rfl rfl)) | exact (.l rfl (look_own 1 rfl rfl rfl rfl)) | exact (.l rfl (look_own 2 rfl rfl rfl rfl)) | exact (.l rfl (look_own 3 rfl rfl rfl rfl)) | exact (.l rfl (look_own 4 rfl rfl rfl rfl)) | exact (.l rfl (look_own 5 rfl rfl rfl rfl)) | exact (.l rfl (look_agg 0 rfl rfl rfl rfl)) | exact (.l rfl (look_agg 1 rfl rfl rfl rfl)) | exact (.l rfl (look_agg 2 rfl rfl rfl rfl)) | exact (.l rfl (look_agg 3 rfl rfl rfl rfl)) | exact (.l rfl (look_agg 4 rfl rfl rfl rfl)) | exact (.l rfl (look_agg 5 rfl rfl rfl rfl)))
    | refine ops_skip rfl rfl rfl ?_
    | (refine ops_step rfl rfl rfl ?_; first | (refine step_box rfl rfl rfl (fun _ => ?_)) | (refine step_alloc rfl rfl rfl rfl (fun _ => ?_)) | (refine step_buildSlice rfl rfl rfl rfl rfl (fun _ => ?_)) | (refine step_map rfl (fun _ => ?_)) | (refine step_store 0 rfl rfl rfl rfl rfl rfl rfl rfl rfl ?_) | (refine step_store 1 rfl rfl rfl rfl rfl rfl rfl rfl rfl ?_) | (refine step_store 2 rfl rfl rfl rfl rfl rfl rfl rfl rfl ?_) | (refine step_store 3 rfl rfl rfl rfl rfl rfl rfl rfl rfl ?_) | (refine step_store 4 rfl rfl rfl rfl rfl rfl rfl rfl rfl ?_) | (refine step_store 5 rfl rfl rfl rfl rfl rfl rfl rfl rfl ?_)))
    have h : ([59] : List UInt8) = s := by simpa using h
    subst h
    exact ⟨trivial, _, rfl, rfl⟩
  · repeat (first
    | refine exec_seq ?_
    | refine exec_region ?_
    | refine exec_block ?_
    | refine exec_skip ?_
    | refine exec_exit ?_
    | refine exec_ret ?_
    | refine exec_true rfl ?_
    | refine exec_false rfl ?_
    | refine ops_nil ?_
    | (apply ops_pl rfl rfl rfl ?_ rfl ?_; rotate_left; focus first | exact (.bld rfl rfl rfl rfl) | exact (.cat rfl rfl rfl (by first | (simp; done) | (simp; omega))) | exact (.neSelf rfl rfl rfl rfl) | exact (.eqSelf rfl rfl rfl rfl) | exact (.wr64 rfl rfl (by omega) (by omega)) | exact (.p rfl rfl) | exact (.cv64 rfl (fun _ => rfl) (by omega) (by omega)) | exact (.l rfl (fun _ _ => rfl)) | exact (.l rfl (look_own 0 rfl rfl rfl rfl)) | exact (.l rfl (look_own 1 rfl rfl rfl rfl)) | exact (.l rfl (look_own 2 rfl rfl rfl rfl)) | exact (.l rfl (look_own 3 rfl rfl rfl rfl)) | exact (.l rfl (look_own 4 rfl rfl rfl rfl)) | exact (.l rfl (look_own 5 rfl rfl rfl rfl)) | exact (.l rfl (look_agg 0 rfl rfl rfl rfl)) | exact (.l rfl (look_agg 1 rfl rfl rfl rfl)) | exact (.l rfl (look_agg 2 rfl rfl rfl rfl)) | exact (.l rfl (look_agg 3 rfl rfl rfl rfl)) | exact (.l rfl (look_agg 4 rfl rfl rfl rfl)) | exact (.l rfl (look_agg 5 rfl rfl rfl rfl)))
    | refine ops_skip rfl rfl rfl ?_
    | (refine ops_step rfl rfl rfl ?_; first | (refine step_box rfl rfl rfl (fun _ => ?_)) | (refine step_alloc rfl rfl rfl rfl (fun _ => ?_)) | (refine step_buildSlice rfl rfl rfl rfl rfl (fun _ => ?_)) | (refine step_map rfl (fun _ => ?_)) | (refine step_store 0 rfl rfl rfl rfl rfl rfl rfl rfl rfl ?_) | (refine step_store 1 rfl rfl rfl rfl rfl rfl rfl rfl rfl ?_) | (refine step_store 2 rfl rfl rfl rfl rfl rfl rfl rfl rfl ?_) | (refine step_store 3 rfl rfl rfl rfl rfl rfl rfl rfl rfl ?_) | (refine step_store 4 rfl rfl rfl rfl rfl rfl rfl rfl rfl ?_) | (refine step_store 5 rfl rfl rfl rfl rfl rfl rfl rfl rfl ?_)))
    refine ops_step rfl rfl rfl (step_call_pure rfl rfl rfl (fun H hs => indexByte_ok rfl) ?_)
    repeat (first
    | refine exec_seq ?_
    | refine exec_region ?_
    | refine exec_block ?_
    | refine exec_skip ?_
    | refine exec_exit ?_
    | refine exec_ret ?_
    | refine exec_true rfl ?_
    | refine exec_false rfl ?_
    | refine ops_nil ?_
    | (apply ops_pl rfl rfl rfl ?_ rfl ?_; rotate_left; focus first | exact (.bld rfl rfl rfl rfl) | exact (.cat rfl rfl rfl (by first | (simp; done) | (simp; omega))) | exact (.neSelf rfl rfl rfl rfl) | exact (.eqSelf rfl rfl rfl rfl) | exact (.wr64 rfl rfl (by omega) (by omega)) | exact (.p rfl rfl) | exact (.cv64 rfl (fun _ => rfl) (by omega) (by omega)) | exact (.l rfl (fun _ _ => rfl)) | exact (.l rfl (look_own 0 rfl rfl rfl rfl)) | exact (.l rfl (look_own 1 rfl rfl rfl rfl)) | exact (.l rfl (look_own 2 rfl rfl rfl rfl)) | exact (.l rfl (look_own 3 rfl rfl rfl rfl)) | exact (.l rfl (look_own 4 rfl rfl rfl rfl)) | exact (.l rfl (look_own 5 rfl rfl rfl rfl)) | exact (.l rfl (look_agg 0 rfl rfl rfl rfl)) | exact (.l rfl (look_agg 1 rfl rfl rfl rfl)) | exact (.l rfl (look_agg 2 rfl rfl rfl rfl)) | exact (.l rfl (look_agg 3 rfl rfl rfl rfl)) | exact (.l rfl (look_agg 4 rfl rfl rfl rfl)) | exact (.l rfl (look_agg 5 rfl rfl rfl rfl)))
    | refine ops_skip rfl rfl rfl ?_
    | (refine ops_step rfl rfl rfl ?_; first | (refine step_box rfl rfl rfl (fun _ => ?_)) | (refine step_alloc rfl rfl rfl rfl (fun _ => ?_)) | (refine step_buildSlice rfl rfl rfl rfl rfl (fun _ => ?_)) | (refine step_map rfl (fun _ => ?_)) | (refine step_store 0 rfl rfl rfl rfl rfl rfl rfl rfl rfl ?_) | (refine step_store 1 rfl rfl rfl rfl rfl rfl rfl rfl rfl ?_) | (refine step_store 2 rfl rfl rfl rfl rfl rfl rfl rfl rfl ?_) | (refine step_store 3 rfl rfl rfl rfl rfl rfl rfl rfl rfl ?_) | (refine step_store 4 rfl rfl rfl rfl rfl rfl rfl rfl rfl ?_) | (refine step_store 5 rfl rfl rfl rfl rfl rfl rfl rfl rfl ?_)))
    exact ⟨trivial, _, rfl, rfl⟩

set_option maxHeartbeats 8000000 in
set_option maxRecDepth 100000 in
theorem lcut_ok {H : Heap} {s : List UInt8} (hs0 : s.length ≤ 1000000) : CallC TT O 60 [str s, str [59]] H fun v H' => v = .tuple #[str (cutL s).1, str (cutL s).2.1, .bool (cutL s).2.2] ∧ Ext H H' := by
  refine call_pure rfl rfl rfl rfl rfl ?_
  repeat (first
  | refine exec_seq ?_
  | refine exec_region ?_
  | refine exec_block ?_
  | refine exec_skip ?_
  | refine exec_exit ?_
  | refine exec_ret ?_
  | refine exec_true rfl ?_
  | refine exec_false rfl ?_
  | refine ops_nil ?_
  | (apply ops_pl rfl rfl rfl ?_ rfl ?_; rotate_left; focus first | exact (.bld rfl rfl rfl rfl) | exact (.cat rfl rfl rfl (by first | (simp; done) | (simp; omega))) | exact (.neSelf rfl rfl rfl rfl) | exact (.eqSelf rfl rfl rfl rfl) | exact (.wr64 rfl rfl (by omega) (by omega)) | exact (.p rfl rfl) | exact (.cv64 rfl (fun _ => rfl) (by omega) (by omega)) | exact (.l rfl (fun _ _ => rfl)) | exact (.l rfl (look_own 0 rfl rfl rfl rfl)) | exact (.l rfl (look_own 1 rfl rfl rfl rfl)) | exact (.l rfl (look_own 2 rfl rfl rfl rfl)) | exact (.l rfl (look_own 3 rfl rfl rfl rfl)) | exact (.l rfl (look_own 4 rfl rfl rfl rfl)) | exact (.l rfl (look_own 5 rfl rfl rfl rfl)) | exact (.l rfl (look_agg 0 rfl rfl rfl rfl)) | exact (.l rfl (look_agg 1 rfl rfl rfl rfl)) | exact (.l rfl (look_agg 2 rfl rfl rfl rfl)) | exact (.l rfl (look_agg 3 rfl rfl rfl rfl)) | exact (.l rfl (look_agg 4 rfl rfl rfl rfl)) | exact (.l rfl (look_agg 5 rfl rfl rfl rfl)))
  | refine ops_skip rfl rfl rfl ?_
  | (refine ops_step rfl rfl rfl ?_; first | (refine step_box rfl rfl rfl (fun _ => ?_)) | (refine step_alloc rfl rfl rfl rfl (fun _ => ?_)) | (refine step_buildSlice rfl rfl rfl rfl rfl (fun _ => ?_)) | (refine step_map rfl (fun _ => ?_)) | (refine step_store 0 rfl rfl rfl rfl rfl rfl rfl rfl rfl ?_) | (refine step_store 1 rfl rfl rfl rfl rfl rfl rfl rfl rfl ?_) | (refine step_store 2 rfl rfl rfl rfl rfl rfl rfl rfl rfl ?_) | (refine step_store 3 rfl rfl rfl rfl rfl rfl rfl rfl rfl ?_) | (refine step_store 4 rfl rfl rfl rfl rfl rfl rfl rfl rfl ?_) | (refine step_store 5 rfl rfl rfl rfl rfl rfl rfl rfl rfl ?_)))
  refine ops_step rfl rfl rfl (step_call_pure rfl rfl rfl (fun H hs => index_ok) ?_)
  cases h : s.findIdx? (· == 59) with
  | none =>
    have e : ixV s = .int .i64 (-1) := by rw [ixV, h]
    rw [e]
    repeat (first
    | refine exec_seq ?_
    | refine exec_region ?_
    | refine exec_block ?_
    | refine exec_skip ?_
    | refine exec_exit ?_
    | refine exec_ret ?_
    | refine exec_true rfl ?_
    | refine exec_false rfl ?_
    | refine ops_nil ?_
    | (apply ops_pl rfl rfl rfl ?_ rfl ?_; rotate_left; focus first | exact (.bld rfl rfl rfl rfl) | exact (.cat rfl rfl rfl (by first | (simp; done) | (simp; omega))) | exact (.neSelf rfl rfl rfl rfl) | exact (.eqSelf rfl rfl rfl rfl) | exact (.wr64 rfl rfl (by omega) (by omega)) | exact (.p rfl rfl) | exact (.cv64 rfl (fun _ => rfl) (by omega) (by omega)) | exact (.l rfl (fun _ _ => rfl)) | exact (.l rfl (look_own 0 rfl rfl rfl rfl)) | exact (.l rfl (look_own 1 rfl rfl rfl rfl)) | exact (.l rfl (look_own 2 rfl rfl rfl rfl)) | exact (.l rfl (look_own 3 rfl rfl rfl rfl)) | exact (.l rfl (look_own 4 rfl rfl rfl rfl)) | exact (.l rfl (look_own 5 rfl rfl rfl rfl)) | exact (.l rfl (look_agg 0 rfl rfl rfl rfl)) | exact (.l rfl (look_agg 1 rfl rfl rfl rfl)) | exact (.l rfl (look_agg 2 rfl rfl rfl rfl)) | exact (.l rfl (look_agg 3 rfl rfl rfl rfl)) | exact (.l rfl (look_agg 4 rfl rfl rfl rfl)) | exact (.l rfl (look_agg 5 rfl rfl rfl rfl)))
    | refine ops_skip rfl rfl rfl ?_
    | (refine ops_step rfl rfl rfl ?_; first | (refine step_box rfl rfl rfl (fun _ => ?_)) | (refine step_alloc rfl rfl rfl rfl (fun _ => ?_)) | (refine step_buildSlice rfl rfl rfl rfl rfl (fun _ => ?_)) | (refine step_map rfl (fun _ => ?_)) | (refine step_store 0 rfl rfl rfl rfl rfl rfl rfl rfl rfl ?_) | (refine step_store 1 rfl rfl rfl rfl rfl rfl rfl rfl rfl ?_) | (refine step_store 2 rfl rfl rfl rfl rfl rfl rfl rfl rfl ?_) | (refine step_store 3 rfl rfl rfl rfl rfl rfl rfl rfl rfl ?_) | (refine step_store 4 rfl rfl rfl rfl rfl rfl rfl rfl rfl ?_) | (refine step_store 5 rfl rfl rfl rfl rfl rfl rfl rfl rfl ?_)))
    refine ⟨trivial, _, rfl, ?_⟩
    rw [cutL, h]
    rfl
  | some i =>
    have e : ixV s = .int .i64 (i : Int) := by rw [ixV, h]
    rw [e]
    obtain ⟨hi, _, _⟩ := List.findIdx?_eq_some_iff_getElem.1 h
    repeat (first
    | refine exec_seq ?_
    | refine exec_region ?_
    | refine exec_block ?_
    | refine exec_skip ?_
    | refine exec_exit ?_
    | refine exec_ret ?_
    | refine exec_true rfl ?_
    | refine exec_false rfl ?_
    | refine ops_nil ?_
    | (apply ops_pl rfl rfl rfl ?_ rfl ?_; rotate_left; focus first | exact (.bld rfl rfl rfl rfl) | exact (.cat rfl rfl rfl (by first | (simp; done) | (simp; omega))) | exact (.neSelf rfl rfl rfl rfl) | exact (.eqSelf rfl rfl rfl rfl) | exact (.wr64 rfl rfl (by omega) (by omega)) | exact (.p rfl rfl) | exact (.cv64 rfl (fun _ => rfl) (by omega) (by omega)) | exact (.l rfl (fun _ _ => rfl)) | exact (.l rfl (look_own 0 rfl rfl rfl rfl)) | exact (.l rfl (look_own 1 rfl rfl rfl rfl)) | exact (.l rfl (look_own 2 rfl rfl rfl rfl)) | exact (.l rfl (look_own 3 rfl rfl rfl rfl)) | exact (.l rfl (look_own 4 rfl rfl rfl rfl)) | exact (.l rfl (look_own 5 rfl rfl rfl rfl)) | exact (.l rfl (look_agg 0 rfl rfl rfl rfl)) | exact (.l rfl (look_agg 1 rfl rfl rfl rfl)) | exact (.l rfl (look_agg 2 rfl rfl rfl rfl)) | exact (.l rfl (look_agg 3 rfl rfl rfl rfl)) | exact (.l rfl (look_agg 4 rfl rfl rfl rfl)) | exact (.l rfl (look_agg 5 rfl rfl rfl rfl)))
    | refine ops_skip rfl rfl rfl ?_
    | (refine ops_step rfl rfl rfl ?_; first | (refine step_box rfl rfl rfl (fun _ => ?_)) | (refine step_alloc rfl rfl rfl rfl (fun _ => ?_)) | (refine step_buildSlice rfl rfl rfl rfl rfl (fun _ => ?_)) | (refine step_map rfl (fun _ => ?_)) | (refine step_store 0 rfl rfl rfl rfl rfl rfl rfl rfl rfl ?_) | (refine step_store 1 rfl rfl rfl rfl rfl rfl rfl rfl rfl ?_) | (refine step_store 2 rfl rfl rfl rfl rfl rfl rfl rfl rfl ?_) | (refine step_store 3 rfl rfl rfl rfl rfl rfl rfl rfl rfl ?_) | (refine step_store 4 rfl rfl rfl rfl rfl rfl rfl rfl rfl ?_) | (refine step_store 5 rfl rfl rfl rfl rfl rfl rfl rfl rfl ?_)))
    cases h0 : decide ((i : Int) ≥ 0)
    · have := of_decide_eq_false h0
      omega
    · repeat (first
      | refine exec_seq ?_
      | refine exec_region ?_
      | refine exec_block ?_
      | refine exec_skip ?_
      | refine exec_exit ?_
      | refine exec_ret ?_
      | refine exec_true rfl ?_
      | refine exec_false rfl ?_
      | refine ops_nil ?_
      | (apply ops_pl rfl rfl rfl ?_ rfl ?_; rotate_left; focus first | exact (.bld rfl rfl rfl rfl) | exact (.cat rfl rfl rfl (by first | (simp; done) | (simp; omega))) | exact (.neSelf rfl rfl rfl rfl) | exact (.eqSelf rfl rfl rfl rfl) | exact (.wr64 rfl rfl (by omega) (by omega)) | exact (.p rfl rfl) | exact (.cv64 rfl (fun _ => rfl) (by omega) (by omega)) | exact (.l rfl (fun _ _ => rfl)) | exact (.l rfl (look_own 0 rfl rfl rfl rfl)) | exact (.l rfl (look_own 1 rfl rfl rfl rfl)) | exact (.l rfl (look_own 2 rfl rfl rfl rfl)) | exact (.l rfl (look_own 3 rfl rfl rfl rfl)) | exact (.l rfl (look_own 4 rfl rfl rfl rfl)) | exact (.l rfl (look_own 5 rfl rfl rfl rfl)) | exact (.l rfl (look_agg 0 rfl rfl rfl rfl)) | exact (.l rfl (look_agg 1 rfl rfl rfl rfl)) | exact (.l rfl (look_agg 2 rfl rfl rfl rfl)) | exact (.l rfl (look_agg 3 rfl rfl rfl rfl)) | exact (.l rfl (look_agg 4 rfl rfl rfl rfl)) | exact (.l rfl (look_agg 5 rfl rfl rfl rfl)))
      | refine ops_skip rfl rfl rfl ?_
      | (refine ops_step rfl rfl rfl ?_; first | (refine step_box rfl rfl rfl (fun _ => ?_)) | (refine step_alloc rfl rfl rfl rfl (fun _ => ?_)) | (refine step_buildSlice rfl rfl rfl rfl rfl (fun _ => ?_)) | (refine step_map rfl (fun _ => ?_)) | (refine step_store 0 rfl rfl rfl rfl rfl rfl rfl rfl rfl ?_) | (refine step_store 1 rfl rfl rfl rfl rfl rfl rfl rfl rfl ?_) | (refine step_store 2 rfl rfl rfl rfl rfl rfl rfl rfl rfl ?_) | (refine step_store 3 rfl rfl rfl rfl rfl rfl rfl rfl rfl ?_) | (refine step_store 4 rfl rfl rfl rfl rfl rfl rfl rfl rfl ?_) | (refine step_store 5 rfl rfl rfl rfl rfl rfl rfl rfl rfl ?_)))
      refine exec_draw (lst := [(0, 0), (1, 0), (2, 3), (3, 0), (4, 0), (5, 0), (6, 32), (7, 112), (8, 248), (9, 7), (10, 1023), (11, 2047)]) (full := 4095) (by kernel_rfl) (by kernel_rfl) (by kernel_rfl) (by kernel_rfl) ?_
      repeat (first
      | (apply draw_pl rfl rfl rfl rfl ?_ rfl rfl ?_; rotate_left; focus first | exact (.bld rfl rfl rfl rfl) | exact (.cat rfl rfl rfl (by first | (simp; done) | (simp; omega))) | exact (.neSelf rfl rfl rfl rfl) | exact (.eqSelf rfl rfl rfl rfl) | exact (.wr64 rfl rfl (by omega) (by omega)) | exact (.p rfl rfl) | exact (.cv64 rfl (fun _ => rfl) (by omega) (by omega)) | exact (.l rfl (fun _ _ => rfl)) | exact (.l rfl (look_own 0 rfl rfl rfl rfl)) | exact (.l rfl (look_own 1 rfl rfl rfl rfl)) | exact (.l rfl (look_own 2 rfl rfl rfl rfl)) | exact (.l rfl (look_own 3 rfl rfl rfl rfl)) | exact (.l rfl (look_own 4 rfl rfl rfl rfl)) | exact (.l rfl (look_own 5 rfl rfl rfl rfl)) | exact (.l rfl (look_agg 0 rfl rfl rfl rfl)) | exact (.l rfl (look_agg 1 rfl rfl rfl rfl)) | exact (.l rfl (look_agg 2 rfl rfl rfl rfl)) | exact (.l rfl (look_agg 3 rfl rfl rfl rfl)) | exact (.l rfl (look_agg 4 rfl rfl rfl rfl)) | exact (.l rfl (look_agg 5 rfl rfl rfl rfl)))
      | refine draw_skip rfl rfl rfl rfl ?_
      | refine draw_nil ?_)
      first | refine ops_pl rfl rfl rfl (.l rfl (look_scut (l := 0) (h := i) rfl rfl rfl rfl (by first | rfl | omega | exact hw) rfl (by first | rfl | omega | exact hw) rfl (by omega) (by omega))) rfl ?_ | refine draw_pl rfl rfl rfl rfl (.l rfl (look_scut (l := 0) (h := i) rfl rfl rfl rfl (by first | rfl | omega | exact hw) rfl (by first | rfl | omega | exact hw) rfl (by omega) (by omega))) rfl rfl ?_
      repeat (first
      | (apply draw_pl rfl rfl rfl rfl ?_ rfl rfl ?_; rotate_left; focus first | exact (.bld rfl rfl rfl rfl) | exact (.cat rfl rfl rfl (by first | (simp; done) | (simp; omega))) | exact (.neSelf rfl rfl rfl rfl) | exact (.eqSelf rfl rfl rfl rfl) | exact (.wr64 rfl rfl (by omega) (by omega)) | exact (.p rfl rfl) | exact (.cv64 rfl (fun _ => rfl) (by omega) (by omega)) | exact (.l rfl (fun _ _ => rfl)) | exact (.l rfl (look_own 0 rfl rfl rfl rfl)) | exact (.l rfl (look_own 1 rfl rfl rfl rfl)) | exact (.l rfl (look_own 2 rfl rfl rfl rfl)) | exact (.l rfl (look_own 3 rfl rfl rfl rfl)) | exact (.l rfl (look_own 4 rfl rfl rfl rfl)) | exact (.l rfl (look_own 5 rfl rfl rfl rfl)) | exact (.l rfl (look_agg 0 rfl rfl rfl rfl)) | exact (.l rfl (look_agg 1 rfl rfl rfl rfl)) | exact (.l rfl (look_agg 2 rfl rfl rfl rfl)) | exact (.l rfl (look_agg 3 rfl rfl rfl rfl)) | exact (.l rfl (look_agg 4 rfl rfl rfl rfl)) | exact (.l rfl (look_agg 5 rfl rfl rfl rfl)))
      | refine draw_skip rfl rfl rfl rfl ?_
      | refine draw_nil ?_)
      have hw : IntKind.i64.wrap ((i : Int) + (([59] : List UInt8).length : Int)) = ((i + 1 : Nat) : Int) := w64 (by rfl) (by omega) (by omega)
      first | refine ops_pl rfl rfl rfl (.l rfl (look_scut (l := i + 1) (h := s.length) rfl rfl rfl rfl (by first | rfl | omega | exact hw) rfl (by first | rfl | omega | exact hw) rfl (by omega) (by omega))) rfl ?_ | refine draw_pl rfl rfl rfl rfl (.l rfl (look_scut (l := i + 1) (h := s.length) rfl rfl rfl rfl (by first | rfl | omega | exact hw) rfl (by first | rfl | omega | exact hw) rfl (by omega) (by omega))) rfl rfl ?_
      repeat (first
      | (apply draw_pl rfl rfl rfl rfl ?_ rfl rfl ?_; rotate_left; focus first | exact (.bld rfl rfl rfl rfl) | exact (.cat rfl rfl rfl (by first | (simp; done) | (simp; omega))) | exact (.neSelf rfl rfl rfl rfl) | exact (.eqSelf rfl rfl rfl rfl) | exact (.wr64 rfl rfl (by omega) (by omega)) | exact (.p rfl rfl) | exact (.cv64 rfl (fun _ => rfl) (by omega) (by omega)) | exact (.l rfl (fun _ _ => rfl)) | exact (.l rfl (look_own 0 rfl rfl rfl rfl)) | exact (.l rfl (look_own 1 rfl rfl rfl rfl)) | exact (.l rfl (look_own 2 rfl rfl rfl rfl)) | exact (.l rfl (look_own 3 rfl rfl rfl rfl)) | exact (.l rfl (look_own 4 rfl rfl rfl rfl)) | exact (.l rfl (look_own 5 rfl rfl rfl rfl)) | exact (.l rfl (look_agg 0 rfl rfl rfl rfl)) | exact (.l rfl (look_agg 1 rfl rfl rfl rfl)) | exact (.l rfl (look_agg 2 rfl rfl rfl rfl)) | exact (.l rfl (look_agg 3 rfl rfl rfl rfl)) | exact (.l rfl (look_agg 4 rfl rfl rfl rfl)) | exact (.l rfl (look_agg 5 rfl rfl rfl rfl)))
      | refine draw_skip rfl rfl rfl rfl ?_
      | refine draw_nil ?_)
      repeat (first
      | refine exec_seq ?_
      | refine exec_region ?_
      | refine exec_block ?_
      | refine exec_skip ?_
      | refine exec_exit ?_
      | refine exec_ret ?_
      | refine exec_true rfl ?_
      | refine exec_false rfl ?_
      | refine ops_nil ?_
      | (apply ops_pl rfl rfl rfl ?_ rfl ?_; rotate_left; focus first | exact (.bld rfl rfl rfl rfl) | exact (.cat rfl rfl rfl (by first | (simp; done) | (simp; omega))) | exact (.neSelf rfl rfl rfl rfl) | exact (.eqSelf rfl rfl rfl rfl) | exact (.wr64 rfl rfl (by omega) (by omega)) | exact (.p rfl rfl) | exact (.cv64 rfl (fun _ => rfl) (by omega) (by omega)) | exact (.l rfl (fun _ _ => rfl)) | exact (.l rfl (look_own 0 rfl rfl rfl rfl)) | exact (.l rfl (look_own 1 rfl rfl rfl rfl)) | exact (.l rfl (look_own 2 rfl rfl rfl rfl)) | exact (.l rfl (look_own 3 rfl rfl rfl rfl)) | exact (.l rfl (look_own 4 rfl rfl rfl rfl)) | exact (.l rfl (look_own 5 rfl rfl rfl rfl)) | exact (.l rfl (look_agg 0 rfl rfl rfl rfl)) | exact (.l rfl (look_agg 1 rfl rfl rfl rfl)) | exact (.l rfl (look_agg 2 rfl rfl rfl rfl)) | exact (.l rfl (look_agg 3 rfl rfl rfl rfl)) | exact (.l rfl (look_agg 4 rfl rfl rfl rfl)) | exact (.l rfl (look_agg 5 rfl rfl rfl rfl)))
      | refine ops_skip rfl rfl rfl ?_
      | (refine ops_step rfl rfl rfl ?_; first | (refine step_box rfl rfl rfl (fun _ => ?_)) | (refine step_alloc rfl rfl rfl rfl (fun _ => ?_)) | (refine step_buildSlice rfl rfl rfl rfl rfl (fun _ => ?_)) | (refine step_map rfl (fun _ => ?_)) | (refine step_store 0 rfl rfl rfl rfl rfl rfl rfl rfl rfl ?_) | (refine step_store 1 rfl rfl rfl rfl rfl rfl rfl rfl rfl ?_) | (refine step_store 2 rfl rfl rfl rfl rfl rfl rfl rfl rfl ?_) | (refine step_store 3 rfl rfl rfl rfl rfl rfl rfl rfl rfl ?_) | (refine step_store 4 rfl rfl rfl rfl rfl rfl rfl rfl rfl ?_) | (refine step_store 5 rfl rfl rfl rfl rfl rfl rfl rfl rfl ?_)))
      refine ⟨trivial, _, rfl, ?_⟩
      rw [cutL, h]
      simp only [List.take_length, List.drop_zero]
      rfl

set_option maxHeartbeats 8000000 in
set_option maxRecDepth 100000 in
theorem cut_ok {H : Heap} {s : List UInt8} (hs0 : s.length ≤ 1000000) : CallC TT O 56 [str s, str [59]] H fun v H' => v = .tuple #[str (cutL s).1, str (cutL s).2.1, .bool (cutL s).2.2] ∧ Ext H H' := by
  refine call_pure rfl rfl rfl rfl rfl ?_
  repeat (first
  | refine exec_seq ?_
  | refine exec_region ?_
  | refine exec_block ?_
  | refine exec_skip ?_
  | refine exec_exit ?_
  | refine exec_ret ?_
  | refine exec_true rfl ?_
  | refine exec_false rfl ?_
  | refine ops_nil ?_
  | (apply ops_pl rfl rfl rfl ?_ rfl ?_; rotate_left; focus first | exact (.bld rfl rfl rfl rfl) | exact (.cat rfl rfl rfl (by first | (simp; done) | (simp; omega))) | exact (.neSelf rfl rfl rfl rfl) | exact (.eqSelf rfl rfl rfl rfl) | exact (.wr64 rfl rfl (by omega) (by omega)) | exact (.p rfl rfl) | exact (.cv64 rfl (fun _ => rfl) (by omega) (by omega)) | exact (.l rfl (fun _ _ => rfl)) | exact (.l rfl (look_own 0 rfl rfl rfl rfl)) | exact (.l rfl (look_own 1 rfl rfl rfl rfl)) | exact (.l rfl (look_own 2 rfl rfl rfl rfl)) | exact (.l rfl (look_own 3 rfl rfl rfl rfl)) | exact (.l rfl (look_own 4 rfl rfl rfl rfl)) | exact (.l rfl (look_own 5 rfl rfl rfl rfl)) | exact (.l rfl (look_agg 0 rfl rfl rfl rfl)) | exact (.l rfl (look_agg 1 rfl rfl rfl rfl)) | exact (.l rfl (look_agg 2 rfl rfl rfl rfl)) | exact (.l rfl (look_agg 3 rfl rfl rfl rfl)) | exact (.l rfl (look_agg 4 rfl rfl rfl rfl)) | exact (.l rfl (look_agg 5 rfl rfl rfl rfl)))
  | refine ops_skip rfl rfl rfl ?_
  | (refine ops_step rfl rfl rfl ?_; first | (refine step_box rfl rfl rfl (fun _ => ?_)) | (refine step_alloc rfl rfl rfl rfl (fun _ => ?_)) | (refine step_buildSlice rfl rfl rfl rfl rfl (fun _ => ?_)) | (refine step_map rfl (fun _ => ?_)) | (refine step_store 0 rfl rfl rfl rfl rfl rfl rfl rfl rfl ?_) | (refine step_store 1 rfl rfl rfl rfl rfl rfl rfl rfl rfl ?_) | (refine step_store 2 rfl rfl rfl rfl rfl rfl rfl rfl rfl ?_) | (refine step_store 3 rfl rfl rfl rfl rfl rfl rfl rfl rfl ?_) | (refine step_store 4 rfl rfl rfl rfl rfl rfl rfl rfl rfl ?_) | (refine step_store 5 rfl rfl rfl rfl rfl rfl rfl rfl rfl ?_)))
  refine ops_step rfl rfl rfl (step_call_pure rfl rfl rfl (fun H hs => lcut_ok hs0) ?_)
  repeat (first
  | refine exec_seq ?_
  | refine exec_region ?_
  | refine exec_block ?_
  | refine exec_skip ?_
  | refine exec_exit ?_
  | refine exec_ret ?_
  | refine exec_true rfl ?_
  | refine exec_false rfl ?_
  | refine ops_nil ?_
  | (apply ops_pl rfl rfl rfl ?_ rfl ?_; rotate_left; focus first | exact (.bld rfl rfl rfl rfl) | exact (.cat rfl rfl rfl (by first | (simp; done) | (simp; omega))) | exact (.neSelf rfl rfl rfl rfl) | exact (.eqSelf rfl rfl rfl rfl) | exact (.wr64 rfl rfl (by omega) (by omega)) | exact (.p rfl rfl) | exact (.cv64 rfl (fun _ => rfl) (by omega) (by omega)) | exact (.l rfl (fun _ _ => rfl)) | exact (.l rfl (look_own 0 rfl rfl rfl rfl)) | exact (.l rfl (look_own 1 rfl rfl rfl rfl)) | exact (.l rfl (look_own 2 rfl rfl rfl rfl)) | exact (.l rfl (look_own 3 rfl rfl rfl rfl)) | exact (.l rfl (look_own 4 rfl rfl rfl rfl)) | exact (.l rfl (look_own 5 rfl rfl rfl rfl)) | exact (.l rfl (look_agg 0 rfl rfl rfl rfl)) | exact (.l rfl (look_agg 1 rfl rfl rfl rfl)) | exact (.l rfl (look_agg 2 rfl rfl rfl rfl)) | exact (.l rfl (look_agg 3 rfl rfl rfl rfl)) | exact (.l rfl (look_agg 4 rfl rfl rfl rfl)) | exact (.l rfl (look_agg 5 rfl rfl rfl rfl)))
  | refine ops_skip rfl rfl rfl ?_
  | (refine ops_step rfl rfl rfl ?_; first | (refine step_box rfl rfl rfl (fun _ => ?_)) | (refine step_alloc rfl rfl rfl rfl (fun _ => ?_)) | (refine step_buildSlice rfl rfl rfl rfl rfl (fun _ => ?_)) | (refine step_map rfl (fun _ => ?_)) | (refine step_store 0 rfl rfl rfl rfl rfl rfl rfl rfl rfl ?_) | (refine step_store 1 rfl rfl rfl rfl rfl rfl rfl rfl rfl ?_) | (refine step_store 2 rfl rfl rfl rfl rfl rfl rfl rfl rfl ?_) | (refine step_store 3 rfl rfl rfl rfl rfl rfl rfl rfl rfl ?_) | (refine step_store 4 rfl rfl rfl rfl rfl rfl rfl rfl rfl ?_) | (refine step_store 5 rfl rfl rfl rfl rfl rfl rfl rfl rfl ?_)))
  exact ⟨trivial, _, rfl, rfl⟩
end Go.Proofs.Ytceoheliineobaa

