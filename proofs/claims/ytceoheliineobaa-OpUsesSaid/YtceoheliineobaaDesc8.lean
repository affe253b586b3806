/-
  Walks: the first type of a text; a text of one type.
-/
import Derived.Test.YtceoheliineobaaDesc7
namespace Go.Proofs.Ytceoheliineobaa
open Go.Ev Go.Ev.Wk
set_option linter.unusedVariables false
set_option linter.unusedSimpArgs false
variable {O : Old}


abbrev typW (x : Int × List UInt8) : Value := .agg #[.int .i64 x.1, str x.2]

/-- what 'first' says -/
def fstC (s : List UInt8) : (Int × List UInt8) × List UInt8 × Bool :=
  if s.take 1 = [73] then ((1, []), s.drop 1, true)
  else if s.take 1 = [83] then ((2, []), s.drop 1, true)
  else if s.take 1 = [65] then ((3, []), s.drop 1, true)
  else if s.take 1 = [86] then ((5, []), s.drop 1, true)
  else ((4, cpL (cutL s).1 76), (cutL s).2.1, (cutL s).2.2 && (decide ((cutL s).1.take 1 = [76]) && nameL (cpL (cutL s).1 76)))

theorem len1 {s : List UInt8} {c : UInt8} (h : s.take 1 = [c]) : 1 ≤ s.length := by
  cases s with
  | nil => cases h
  | cons a r => simp

set_option maxHeartbeats 8000000 in
set_option maxRecDepth 100000 in
theorem first_ok {H : Heap} {s : List UInt8} (hs0 : s.length ≤ 1000000) : CallC TT O 43 [str s] H fun v H' => v = .tuple #[typW (fstC s).1, str (fstC s).2.1, .bool (fstC s).2.2] ∧ Ext H H' := by
  refine call_pureM rfl rfl rfl rfl rfl ?_
  repeat (first
  | refine exec_seq ?_
  | refine exec_region ?_
  | refine exec_block ?_
  | refine exec_skip ?_
  | refine exec_exit ?_
  | refine exec_ret ?_
  | refine exec_true rfl ?_
  | refine exec_false rfl ?_
  | refine ops_nil ?_
  | (apply ops_pl rfl rfl rfl ?_ rfl ?_; rotate_left; focus first | exact (.bld rfl rfl rfl rfl) | exact (.cat rfl rfl rfl (by first | (simp; done) | (simp; omega))) | exact (.neSelf rfl rfl rfl rfl) | exact (.eqSelf rfl rfl rfl rfl) | exact (.wr64 rfl rfl (by omega) (by omega)) | exact (.p rfl rfl) | exact (.cv64 rfl (fun _ => rfl) (by omega) (by omega)) | exact (.l rfl (fun _ _ => rfl)) | exact (.l rfl (look_own 0 rfl rfl rfl rfl)) | exact (.l rfl (look_own 1 rfl rfl rfl rfl)) | exact (.l rfl (look_own 2 rfl rfl rfl rfl)) | exact (.l rfl (look_own 3 rfl rfl rfl rfl)) | exact (.l rfl (look_own 4 rfl rfl rfl rfl)) | exact (.l rfl (look_own 5 rfl rfl rfl rfl)) | exact (.l rfl (look_agg 0 rfl rfl rfl rfl)) | exact (.l rfl (look_agg 1 rfl rfl rfl rfl)) | exact (.l rfl (look_agg 2 rfl rfl rfl rfl)) | exact (.l rfl (look_agg 3 rfl rfl rfl rfl)) | exact (.l rfl (look_agg 4 rfl rfl rfl rfl)) | exact (.l rfl (look_agg 5 rfl rfl rfl rfl)))
  | refine ops_skip rfl rfl rfl ?_
  | (refine ops_step rfl rfl rfl ?_; first | (refine step_box rfl rfl rfl (fun _ => ?_)) | (refine step_alloc rfl rfl rfl rfl (fun _ => ?_)) | (refine step_buildSlice rfl rfl rfl rfl rfl (fun _ => ?_)) | (refine step_map rfl (fun _ => ?_)) | (refine step_store 0 rfl rfl rfl rfl rfl rfl rfl rfl rfl ?_) | (refine step_store 1 rfl rfl rfl rfl rfl rfl rfl rfl rfl ?_) | (refine step_store 2 rfl rfl rfl rfl rfl rfl rfl rfl rfl ?_) | (refine step_store 3 rfl rfl rfl rfl rfl rfl rfl rfl rfl ?_) | (refine step_store 4 rfl rfl rfl rfl rfl rfl rfl rfl rfl ?_) | (refine step_store 5 rfl rfl rfl rfl rfl rfl rfl rfl rfl ?_)))
  refine exec_loop_step ?_
  repeat (first
  | refine exec_seq ?_
  | refine exec_region ?_
  | refine exec_block ?_
  | refine exec_skip ?_
  | refine exec_exit ?_
  | refine exec_ret ?_
  | refine exec_true rfl ?_
  | refine exec_false rfl ?_
  | refine ops_nil ?_
  | (apply ops_pl rfl rfl rfl ?_ rfl ?_; rotate_left; focus first | exact (.bld rfl rfl rfl rfl) | exact (.cat rfl rfl rfl (by first | (simp; done) | (simp; omega))) | exact (.neSelf rfl rfl rfl rfl) | exact (.eqSelf rfl rfl rfl rfl) | exact (.wr64 rfl rfl (by omega) (by omega)) | exact (.p rfl rfl) | exact (.cv64 rfl (fun _ => rfl) (by omega) (by omega)) | exact (.l rfl (fun _ _ => rfl)) | exact (.l rfl (look_own 0 rfl rfl rfl rfl)) | exact (.l rfl (look_own 1 rfl rfl rfl rfl)) | exact (.l rfl (look_own 2 rfl rfl rfl rfl)) | exact (.l rfl (look_own 3 rfl rfl rfl rfl)) | exact (.l rfl (look_own 4 rfl rfl rfl rfl)) | exact (.l rfl (look_own 5 rfl rfl rfl rfl)) | exact (.l rfl (look_agg 0 rfl rfl rfl rfl)) | exact (.l rfl (look_agg 1 rfl rfl rfl rfl)) | exact (.l rfl (look_agg 2 rfl rfl rfl rfl)) | exact (.l rfl (look_agg 3 rfl rfl rfl rfl)) | exact (.l rfl (look_agg 4 rfl rfl rfl rfl)) | exact (.l rfl (look_agg 5 rfl rfl rfl rfl)))
  | refine ops_skip rfl rfl rfl ?_
  | (refine ops_step rfl rfl rfl ?_; first | (refine step_box rfl rfl rfl (fun _ => ?_)) | (refine step_alloc rfl rfl rfl rfl (fun _ => ?_)) | (refine step_buildSlice rfl rfl rfl rfl rfl (fun _ => ?_)) | (refine step_map rfl (fun _ => ?_)) | (refine step_store 0 rfl rfl rfl rfl rfl rfl rfl rfl rfl ?_) | (refine step_store 1 rfl rfl rfl rfl rfl rfl rfl rfl rfl ?_) | (refine step_store 2 rfl rfl rfl rfl rfl rfl rfl rfl rfl ?_) | (refine step_store 3 rfl rfl rfl rfl rfl rfl rfl rfl rfl ?_) | (refine step_store 4 rfl rfl rfl rfl rfl rfl rfl rfl rfl ?_) | (refine step_store 5 rfl rfl rfl rfl rfl rfl rfl rfl rfl ?_)))
  refine ops_step rfl rfl rfl (step_call_pure rfl rfl rfl (fun H hs => type_ok (k := 1) (cl := []) (by simp)) ?_)
  refine ops_step rfl rfl rfl (step_call_pure rfl rfl rfl (fun H hs => hasPrefix_ok (s := s) (c := 73)) ?_)
  cases h1 : decide (s.take 1 = [73])
  rotate_left
  · have e1 := of_decide_eq_true h1
    have hl := len1 e1
    repeat (first
    | refine exec_seq ?_
    | refine exec_region ?_
    | refine exec_block ?_
    | refine exec_skip ?_
    | refine exec_exit ?_
    | refine exec_ret ?_
    | refine exec_true rfl ?_
    | refine exec_false rfl ?_
    | refine ops_nil ?_
    | (apply ops_pl rfl rfl rfl ?_ rfl ?_; rotate_left; focus first | exact (.bld rfl rfl rfl rfl) | exact (.cat rfl rfl rfl (by first | (simp; done) | (simp; omega))) | exact (.neSelf rfl rfl rfl rfl) | exact (.eqSelf rfl rfl rfl rfl) | exact (.wr64 rfl rfl (by omega) (by omega)) | exact (.p rfl rfl) | exact (.cv64 rfl (fun _ => rfl) (by omega) (by omega)) | exact (.l rfl (fun _ _ => rfl)) | exact (.l rfl (look_own 0 rfl rfl rfl rfl)) | exact (.l rfl (look_own 1 rfl rfl rfl rfl)) | exact (.l rfl (look_own 2 rfl rfl rfl rfl)) | exact (.l rfl (look_own 3 rfl rfl rfl rfl)) | exact (.l rfl (look_own 4 rfl rfl rfl rfl)) | exact (.l rfl (look_own 5 rfl rfl rfl rfl)) | exact (.l rfl (look_agg 0 rfl rfl rfl rfl)) | exact (.l rfl (look_agg 1 rfl rfl rfl rfl)) | exact (.l rfl (look_agg 2 rfl rfl rfl rfl)) | exact (.l rfl (look_agg 3 rfl rfl rfl rfl)) | exact (.l rfl (look_agg 4 rfl rfl rfl rfl)) | exact (.l rfl (look_agg 5 rfl rfl rfl rfl)))
    | refine ops_skip rfl rfl rfl ?_
    | (refine ops_step rfl rfl rfl ?_; first | (refine step_box rfl rfl rfl (fun _ => ?_)) | (refine step_alloc rfl rfl rfl rfl (fun _ => ?_)) | (refine step_buildSlice rfl rfl rfl rfl rfl (fun _ => ?_)) | (refine step_map rfl (fun _ => ?_)) | (refine step_store 0 rfl rfl rfl rfl rfl rfl rfl rfl rfl ?_) | (refine step_store 1 rfl rfl rfl rfl rfl rfl rfl rfl rfl ?_) | (refine step_store 2 rfl rfl rfl rfl rfl rfl rfl rfl rfl ?_) | (refine step_store 3 rfl rfl rfl rfl rfl rfl rfl rfl rfl ?_) | (refine step_store 4 rfl rfl rfl rfl rfl rfl rfl rfl rfl ?_) | (refine step_store 5 rfl rfl rfl rfl rfl rfl rfl rfl rfl ?_)))
    refine exec_draw (lst := [(0, 0), (1, 0), (2, 2), (3, 1), (4, 15), (5, 31)]) (full := 63) (by kernel_rfl) (by kernel_rfl) (by kernel_rfl) (by kernel_rfl) ?_
    repeat (first
    | (apply draw_pl rfl rfl rfl rfl ?_ rfl rfl ?_; rotate_left; focus first | exact (.bld rfl rfl rfl rfl) | exact (.cat rfl rfl rfl (by first | (simp; done) | (simp; omega))) | exact (.neSelf rfl rfl rfl rfl) | exact (.eqSelf rfl rfl rfl rfl) | exact (.wr64 rfl rfl (by omega) (by omega)) | exact (.p rfl rfl) | exact (.cv64 rfl (fun _ => rfl) (by omega) (by omega)) | exact (.l rfl (fun _ _ => rfl)) | exact (.l rfl (look_own 0 rfl rfl rfl rfl)) | exact (.l rfl (look_own 1 rfl rfl rfl rfl)) | exact (.l rfl (look_own 2 rfl rfl rfl rfl)) | exact (.l rfl (look_own 3 rfl rfl rfl rfl)) | exact (.l rfl (look_own 4 rfl rfl rfl rfl)) | exact (.l rfl (look_own 5 rfl rfl rfl rfl)) | exact (.l rfl (look_agg 0 rfl rfl rfl rfl)) | exact (.l rfl (look_agg 1 rfl rfl rfl rfl)) | exact (.l rfl (look_agg 2 rfl rfl rfl rfl)) | exact (.l rfl (look_agg 3 rfl rfl rfl rfl)) | exact (.l rfl (look_agg 4 rfl rfl rfl rfl)) | exact (.l rfl (look_agg 5 rfl rfl rfl rfl)))
    | refine draw_skip rfl rfl rfl rfl ?_
    | refine draw_nil ?_)
    first | refine ops_pl rfl rfl rfl (.l rfl (look_scut (l := 1) (h := s.length) rfl rfl rfl rfl (by first | rfl | omega | exact hw) rfl (by first | rfl | omega | exact hw) rfl (by omega) (by omega))) rfl ?_ | refine draw_pl rfl rfl rfl rfl (.l rfl (look_scut (l := 1) (h := s.length) rfl rfl rfl rfl (by first | rfl | omega | exact hw) rfl (by first | rfl | omega | exact hw) rfl (by omega) (by omega))) rfl rfl ?_
    repeat (first
    | (apply draw_pl rfl rfl rfl rfl ?_ rfl rfl ?_; rotate_left; focus first | exact (.bld rfl rfl rfl rfl) | exact (.cat rfl rfl rfl (by first | (simp; done) | (simp; omega))) | exact (.neSelf rfl rfl rfl rfl) | exact (.eqSelf rfl rfl rfl rfl) | exact (.wr64 rfl rfl (by omega) (by omega)) | exact (.p rfl rfl) | exact (.cv64 rfl (fun _ => rfl) (by omega) (by omega)) | exact (.l rfl (fun _ _ => rfl)) | exact (.l rfl (look_own 0 rfl rfl rfl rfl)) | exact (.l rfl (look_own 1 rfl rfl rfl rfl)) | exact (.l rfl (look_own 2 rfl rfl rfl rfl)) | exact (.l rfl (look_own 3 rfl rfl rfl rfl)) | exact (.l rfl (look_own 4 rfl rfl rfl rfl)) | exact (.l rfl (look_own 5 rfl rfl rfl rfl)) | exact (.l rfl (look_agg 0 rfl rfl rfl rfl)) | exact (.l rfl (look_agg 1 rfl rfl rfl rfl)) | exact (.l rfl (look_agg 2 rfl rfl rfl rfl)) | exact (.l rfl (look_agg 3 rfl rfl rfl rfl)) | exact (.l rfl (look_agg 4 rfl rfl rfl rfl)) | exact (.l rfl (look_agg 5 rfl rfl rfl rfl)))
    | refine draw_skip rfl rfl rfl rfl ?_
    | refine draw_nil ?_)
    refine draw_w rfl rfl rfl rfl rfl rfl (step_store 2 rfl rfl rfl rfl rfl rfl rfl rfl rfl ⟨by repeat (first | exact True.intro | refine And.intro (.inl rfl) ?_ | refine And.intro (.inr ⟨veq_refl rfl, (fun _ _ => rfl)⟩) ?_ | refine And.intro (.inr ⟨veq_refl rfl, (look_scut (l := 1) (h := s.length) rfl rfl rfl rfl rfl rfl rfl rfl (by omega) (by omega))⟩) ?_ | refine And.intro (.inr ⟨veq_refl rfl, (look_agg 0 rfl rfl rfl rfl)⟩) ?_ | refine And.intro (.inr ⟨veq_refl rfl, (look_agg 1 rfl rfl rfl rfl)⟩) ?_), ?_⟩)
    repeat (first
    | (apply draw_pl rfl rfl rfl rfl ?_ rfl rfl ?_; rotate_left; focus first | exact (.bld rfl rfl rfl rfl) | exact (.cat rfl rfl rfl (by first | (simp; done) | (simp; omega))) | exact (.neSelf rfl rfl rfl rfl) | exact (.eqSelf rfl rfl rfl rfl) | exact (.wr64 rfl rfl (by omega) (by omega)) | exact (.p rfl rfl) | exact (.cv64 rfl (fun _ => rfl) (by omega) (by omega)) | exact (.l rfl (fun _ _ => rfl)) | exact (.l rfl (look_own 0 rfl rfl rfl rfl)) | exact (.l rfl (look_own 1 rfl rfl rfl rfl)) | exact (.l rfl (look_own 2 rfl rfl rfl rfl)) | exact (.l rfl (look_own 3 rfl rfl rfl rfl)) | exact (.l rfl (look_own 4 rfl rfl rfl rfl)) | exact (.l rfl (look_own 5 rfl rfl rfl rfl)) | exact (.l rfl (look_agg 0 rfl rfl rfl rfl)) | exact (.l rfl (look_agg 1 rfl rfl rfl rfl)) | exact (.l rfl (look_agg 2 rfl rfl rfl rfl)) | exact (.l rfl (look_agg 3 rfl rfl rfl rfl)) | exact (.l rfl (look_agg 4 rfl rfl rfl rfl)) | exact (.l rfl (look_agg 5 rfl rfl rfl rfl)))
    | refine draw_skip rfl rfl rfl rfl ?_
    | refine draw_nil ?_)
    repeat (first
    | refine exec_seq ?_
    | refine exec_region ?_
    | refine exec_block ?_
    | refine exec_skip ?_
    | refine exec_exit ?_
    | refine exec_ret ?_
    | refine exec_true rfl ?_
    | refine exec_false rfl ?_
    | refine ops_nil ?_
    | (apply ops_pl rfl rfl rfl ?_ rfl ?_; rotate_left; focus first | exact (.bld rfl rfl rfl rfl) | exact (.cat rfl rfl rfl (by first | (simp; done) | (simp; omega))) | exact (.neSelf rfl rfl rfl rfl) | exact (.eqSelf rfl rfl rfl rfl) | exact (.wr64 rfl rfl (by omega) (by omega)) | exact (.p rfl rfl) | exact (.cv64 rfl (fun _ => rfl) (by omega) (by omega)) | exact (.l rfl (fun _ _ => rfl)) | exact (.l rfl (look_own 0 rfl rfl rfl rfl)) | exact (.l rfl (look_own 1 rfl rfl rfl rfl)) | exact (.l rfl (look_own 2 rfl rfl rfl rfl)) | exact (.l rfl (look_own 3 rfl rfl rfl rfl)) | exact (.l rfl (look_own 4 rfl rfl rfl rfl)) | exact (.l rfl (look_own 5 rfl rfl rfl rfl)) | exact (.l rfl (look_agg 0 rfl rfl rfl rfl)) | exact (.l rfl (look_agg 1 rfl rfl rfl rfl)) | exact (.l rfl (look_agg 2 rfl rfl rfl rfl)) | exact (.l rfl (look_agg 3 rfl rfl rfl rfl)) | exact (.l rfl (look_agg 4 rfl rfl rfl rfl)) | exact (.l rfl (look_agg 5 rfl rfl rfl rfl)))
    | refine ops_skip rfl rfl rfl ?_
    | (refine ops_step rfl rfl rfl ?_; first | (refine step_box rfl rfl rfl (fun _ => ?_)) | (refine step_alloc rfl rfl rfl rfl (fun _ => ?_)) | (refine step_buildSlice rfl rfl rfl rfl rfl (fun _ => ?_)) | (refine step_map rfl (fun _ => ?_)) | (refine step_store 0 rfl rfl rfl rfl rfl rfl rfl rfl rfl ?_) | (refine step_store 1 rfl rfl rfl rfl rfl rfl rfl rfl rfl ?_) | (refine step_store 2 rfl rfl rfl rfl rfl rfl rfl rfl rfl ?_) | (refine step_store 3 rfl rfl rfl rfl rfl rfl rfl rfl rfl ?_) | (refine step_store 4 rfl rfl rfl rfl rfl rfl rfl rfl rfl ?_) | (refine step_store 5 rfl rfl rfl rfl rfl rfl rfl rfl rfl ?_)))
    refine ⟨trivial, [_, _, _], ⟨look_agg 2 rfl rfl rfl rfl, rfl, rfl, trivial⟩, ?_⟩
    rw [show fstC s = ((1, []), s.drop 1, true) from by rw [fstC, if_pos e1], List.take_length]
    rfl
  have h1 := of_decide_eq_false h1
  repeat (first
  | refine exec_seq ?_
  | refine exec_region ?_
  | refine exec_block ?_
  | refine exec_skip ?_
  | refine exec_exit ?_
  | refine exec_ret ?_
  | refine exec_true rfl ?_
  | refine exec_false rfl ?_
  | refine ops_nil ?_
  | (apply ops_pl rfl rfl rfl ?_ rfl ?_; rotate_left; focus first | exact (.bld rfl rfl rfl rfl) | exact (.cat rfl rfl rfl (by first | (simp; done) | (simp; omega))) | exact (.neSelf rfl rfl rfl rfl) | exact (.eqSelf rfl rfl rfl rfl) | exact (.wr64 rfl rfl (by omega) (by omega)) | exact (.p rfl rfl) | exact (.cv64 rfl (fun _ => rfl) (by omega) (by omega)) | exact (.l rfl (fun _ _ => rfl)) | exact (.l rfl (look_own 0 rfl rfl rfl rfl)) | exact (.l rfl (look_own 1 rfl rfl rfl rfl)) | exact (.l rfl (look_own 2 rfl rfl rfl rfl)) | exact (.l rfl (look_own 3 rfl rfl rfl rfl)) | exact (.l rfl (look_own 4 rfl rfl rfl rfl)) | exact (.l rfl (look_own 5 rfl rfl rfl rfl)) | exact (.l rfl (look_agg 0 rfl rfl rfl rfl)) | exact (.l rfl (look_agg 1 rfl rfl rfl rfl)) | exact (.l rfl (look_agg 2 rfl rfl rfl rfl)) | exact (.l rfl (look_agg 3 rfl rfl rfl rfl)) | exact (.l rfl (look_agg 4 rfl rfl rfl rfl)) | exact (.l rfl (look_agg 5 rfl rfl rfl rfl)))
  | refine ops_skip rfl rfl rfl ?_
  | (refine ops_step rfl rfl rfl ?_; first | (refine step_box rfl rfl rfl (fun _ => ?_)) | (refine step_alloc rfl rfl rfl rfl (fun _ => ?_)) | (refine step_buildSlice rfl rfl rfl rfl rfl (fun _ => ?_)) | (refine step_map rfl (fun _ => ?_)) | (refine step_store 0 rfl rfl rfl rfl rfl rfl rfl rfl rfl ?_) | (refine step_store 1 rfl rfl rfl rfl rfl rfl rfl rfl rfl ?_) | (refine step_store 2 rfl rfl rfl rfl rfl rfl rfl rfl rfl ?_) | (refine step_store 3 rfl rfl rfl rfl rfl rfl rfl rfl rfl ?_) | (refine step_store 4 rfl rfl rfl rfl rfl rfl rfl rfl rfl ?_) | (refine step_store 5 rfl rfl rfl rfl rfl rfl rfl rfl rfl ?_)))
  refine exec_loop_step ?_
  repeat (first
  | refine exec_seq ?_
  | refine exec_region ?_
  | refine exec_block ?_
  | refine exec_skip ?_
  | refine exec_exit ?_
  | refine exec_ret ?_
  | refine exec_true rfl ?_
  | refine exec_false rfl ?_
  | refine ops_nil ?_
  | (apply ops_pl rfl rfl rfl ?_ rfl ?_; rotate_left; focus first | exact (.bld rfl rfl rfl rfl) | exact (.cat rfl rfl rfl (by first | (simp; done) | (simp; omega))) | exact (.neSelf rfl rfl rfl rfl) | exact (.eqSelf rfl rfl rfl rfl) | exact (.wr64 rfl rfl (by omega) (by omega)) | exact (.p rfl rfl) | exact (.cv64 rfl (fun _ => rfl) (by omega) (by omega)) | exact (.l rfl (fun _ _ => rfl)) | exact (.l rfl (look_own 0 rfl rfl rfl rfl)) | exact (.l rfl (look_own 1 rfl rfl rfl rfl)) | exact (.l rfl (look_own 2 rfl rfl rfl rfl)) | exact (.l rfl (look_own 3 rfl rfl rfl rfl)) | exact (.l rfl (look_own 4 rfl rfl rfl rfl)) | exact (.l rfl (look_own 5 rfl rfl rfl rfl)) | exact (.l rfl (look_agg 0 rfl rfl rfl rfl)) | exact (.l rfl (look_agg 1 rfl rfl rfl rfl)) | exact (.l rfl (look_agg 2 rfl rfl rfl rfl)) | exact (.l rfl (look_agg 3 rfl rfl rfl rfl)) | exact (.l rfl (look_agg 4 rfl rfl rfl rfl)) | exact (.l rfl (look_agg 5 rfl rfl rfl rfl)))
  | refine ops_skip rfl rfl rfl ?_
  | (refine ops_step rfl rfl rfl ?_; first | (refine step_box rfl rfl rfl (fun _ => ?_)) | (refine step_alloc rfl rfl rfl rfl (fun _ => ?_)) | (refine step_buildSlice rfl rfl rfl rfl rfl (fun _ => ?_)) | (refine step_map rfl (fun _ => ?_)) | (refine step_store 0 rfl rfl rfl rfl rfl rfl rfl rfl rfl ?_) | (refine step_store 1 rfl rfl rfl rfl rfl rfl rfl rfl rfl ?_) | (refine step_store 2 rfl rfl rfl rfl rfl rfl rfl rfl rfl ?_) | (refine step_store 3 rfl rfl rfl rfl rfl rfl rfl rfl rfl ?_) | (refine step_store 4 rfl rfl rfl rfl rfl rfl rfl rfl rfl ?_) | (refine step_store 5 rfl rfl rfl rfl rfl rfl rfl rfl rfl ?_)))
  refine ops_step rfl rfl rfl (step_call_pure rfl rfl rfl (fun H hs => type_ok (k := 2) (cl := []) (by simp)) ?_)
  refine ops_step rfl rfl rfl (step_call_pure rfl rfl rfl (fun H hs => hasPrefix_ok (s := s) (c := 83)) ?_)
  cases h2 : decide (s.take 1 = [83])
  rotate_left
  · have e1 := of_decide_eq_true h2
    have hl := len1 e1
    repeat (first
    | refine exec_seq ?_
    | refine exec_region ?_
    | refine exec_block ?_
    | refine exec_skip ?_
    | refine exec_exit ?_
    | refine exec_ret ?_
    | refine exec_true rfl ?_
    | refine exec_false rfl ?_
    | refine ops_nil ?_
    | (apply ops_pl rfl rfl rfl ?_ rfl ?_; rotate_left; focus first | exact (.bld rfl rfl rfl rfl) | exact (.cat rfl rfl rfl (by first | (simp; done) | (simp; omega))) | exact (.neSelf rfl rfl rfl rfl) | exact (.eqSelf rfl rfl rfl rfl) | exact (.wr64 rfl rfl (by omega) (by omega)) | exact (.p rfl rfl) | exact (.cv64 rfl (fun _ => rfl) (by omega) (by omega)) | exact (.l rfl (fun _ _ => rfl)) | exact (.l rfl (look_own 0 rfl rfl rfl rfl)) | exact (.l rfl (look_own 1 rfl rfl rfl rfl)) | exact (.l rfl (look_own 2 rfl rfl rfl rfl)) | exact (.l rfl (look_own 3 rfl rfl rfl rfl)) | exact (.l rfl (look_own 4 rfl rfl rfl rfl)) | exact (.l rfl (look_own 5 rfl rfl rfl rfl)) | exact (.l rfl (look_agg 0 rfl rfl rfl rfl)) | exact (.l rfl (look_agg 1 rfl rfl rfl rfl)) | exact (.l rfl (look_agg 2 rfl rfl rfl rfl)) | exact (.l rfl (look_agg 3 rfl rfl rfl rfl)) | exact (.l rfl (look_agg 4 rfl rfl rfl rfl)) | exact (.l rfl (look_agg 5 rfl rfl rfl rfl)))
    | refine ops_skip rfl rfl rfl ?_
    | (refine ops_step rfl rfl rfl ?_; first | (refine step_box rfl rfl rfl (fun _ => ?_)) | (refine step_alloc rfl rfl rfl rfl (fun _ => ?_)) | (refine step_buildSlice rfl rfl rfl rfl rfl (fun _ => ?_)) | (refine step_map rfl (fun _ => ?_)) | (refine step_store 0 rfl rfl rfl rfl rfl rfl rfl rfl rfl ?_) | (refine step_store 1 rfl rfl rfl rfl rfl rfl rfl rfl rfl ?_) | (refine step_store 2 rfl rfl rfl rfl rfl rfl rfl rfl rfl ?_) | (refine step_store 3 rfl rfl rfl rfl rfl rfl rfl rfl rfl ?_) | (refine step_store 4 rfl rfl rfl rfl rfl rfl rfl rfl rfl ?_) | (refine step_store 5 rfl rfl rfl rfl rfl rfl rfl rfl rfl ?_)))
    refine exec_draw (lst := [(0, 0), (1, 0), (2, 2), (3, 1), (4, 15), (5, 31)]) (full := 63) (by kernel_rfl) (by kernel_rfl) (by kernel_rfl) (by kernel_rfl) ?_
    repeat (first
    | (apply draw_pl rfl rfl rfl rfl ?_ rfl rfl ?_; rotate_left; focus first | exact (.bld rfl rfl rfl rfl) | exact (.cat rfl rfl rfl (by first | (simp; done) | (simp; omega))) | exact (.neSelf rfl rfl rfl rfl) | exact (.eqSelf rfl rfl rfl rfl) | exact (.wr64 rfl rfl (by omega) (by omega)) | exact (.p rfl rfl) | exact (.cv64 rfl (fun _ => rfl) (by omega) (by omega)) | exact (.l rfl (fun _ _ => rfl)) | exact (.l rfl (look_own 0 rfl rfl rfl rfl)) | exact (.l rfl (look_own 1 rfl rfl rfl rfl)) | exact (.l rfl (look_own 2 rfl rfl rfl rfl)) | exact (.l rfl (look_own 3 rfl rfl rfl rfl)) | exact (.l rfl (look_own 4 rfl rfl rfl rfl)) | exact (.l rfl (look_own 5 rfl rfl rfl rfl)) | exact (.l rfl (look_agg 0 rfl rfl rfl rfl)) | exact (.l rfl (look_agg 1 rfl rfl rfl rfl)) | exact (.l rfl (look_agg 2 rfl rfl rfl rfl)) | exact (.l rfl (look_agg 3 rfl rfl rfl rfl)) | exact (.l rfl (look_agg 4 rfl rfl rfl rfl)) | exact (.l rfl (look_agg 5 rfl rfl rfl rfl)))
    | refine draw_skip rfl rfl rfl rfl ?_
    | refine draw_nil ?_)
    first | refine ops_pl rfl rfl rfl (.l rfl (look_scut (l := 1) (h := s.length) rfl rfl rfl rfl (by first | rfl | omega | exact hw) rfl (by first | rfl | omega | exact hw) rfl (by omega) (by omega))) rfl ?_ | refine draw_pl rfl rfl rfl rfl (.l rfl (look_scut (l := 1) (h := s.length) rfl rfl rfl rfl (by first | rfl | omega | exact hw) rfl (by first | rfl | omega | exact hw) rfl (by omega) (by omega))) rfl rfl ?_
    repeat (first
    | (apply draw_pl rfl rfl rfl rfl ?_ rfl rfl ?_; rotate_left; focus first | exact (.bld rfl rfl rfl rfl) | exact (.cat rfl rfl rfl (by first | (simp; done) | (simp; omega))) | exact (.neSelf rfl rfl rfl rfl) | exact (.eqSelf rfl rfl rfl rfl) | exact (.wr64 rfl rfl (by omega) (by omega)) | exact (.p rfl rfl) | exact (.cv64 rfl (fun _ => rfl) (by omega) (by omega)) | exact (.l rfl (fun _ _ => rfl)) | exact (.l rfl (look_own 0 rfl rfl rfl rfl)) | exact (.l rfl (look_own 1 rfl rfl rfl rfl)) | exact (.l rfl (look_own 2 rfl rfl rfl rfl)) | exact (.l rfl (look_own 3 rfl rfl rfl rfl)) | exact (.l rfl (look_own 4 rfl rfl rfl rfl)) | exact (.l rfl (look_own 5 rfl rfl rfl rfl)) | exact (.l rfl (look_agg 0 rfl rfl rfl rfl)) | exact (.l rfl (look_agg 1 rfl rfl rfl rfl)) | exact (.l rfl (look_agg 2 rfl rfl rfl rfl)) | exact (.l rfl (look_agg 3 rfl rfl rfl rfl)) | exact (.l rfl (look_agg 4 rfl rfl rfl rfl)) | exact (.l rfl (look_agg 5 rfl rfl rfl rfl)))
    | refine draw_skip rfl rfl rfl rfl ?_
    | refine draw_nil ?_)
    refine draw_w rfl rfl rfl rfl rfl rfl (step_store 3 rfl rfl rfl rfl rfl rfl rfl rfl rfl ⟨by repeat (first | exact True.intro | refine And.intro (.inl rfl) ?_ | refine And.intro (.inr ⟨veq_refl rfl, (fun _ _ => rfl)⟩) ?_ | refine And.intro (.inr ⟨veq_refl rfl, (look_scut (l := 1) (h := s.length) rfl rfl rfl rfl rfl rfl rfl rfl (by omega) (by omega))⟩) ?_ | refine And.intro (.inr ⟨veq_refl rfl, (look_agg 0 rfl rfl rfl rfl)⟩) ?_ | refine And.intro (.inr ⟨veq_refl rfl, (look_agg 1 rfl rfl rfl rfl)⟩) ?_), ?_⟩)
    repeat (first
    | (apply draw_pl rfl rfl rfl rfl ?_ rfl rfl ?_; rotate_left; focus first | exact (.bld rfl rfl rfl rfl) | exact (.cat rfl rfl rfl (by first | (simp; done) | (simp; omega))) | exact (.neSelf rfl rfl rfl rfl) | exact (.eqSelf rfl rfl rfl rfl) | exact (.wr64 rfl rfl (by omega) (by omega)) | exact (.p rfl rfl) | exact (.cv64 rfl (fun _ => rfl) (by omega) (by omega)) | exact (.l rfl (fun _ _ => rfl)) | exact (.l rfl (look_own 0 rfl rfl rfl rfl)) | exact (.l rfl (look_own 1 rfl rfl rfl rfl)) | exact (.l rfl (look_own 2 rfl rfl rfl rfl)) | exact (.l rfl (look_own 3 rfl rfl rfl rfl)) | exact (.l rfl (look_own 4 rfl rfl rfl rfl)) | exact (.l rfl (look_own 5 rfl rfl rfl rfl)) | exact (.l rfl (look_agg 0 rfl rfl rfl rfl)) | exact (.l rfl (look_agg 1 rfl rfl rfl rfl)) | exact (.l rfl (look_agg 2 rfl rfl rfl rfl)) | exact (.l rfl (look_agg 3 rfl rfl rfl rfl)) | exact (.l rfl (look_agg 4 rfl rfl rfl rfl)) | exact (.l rfl (look_agg 5 rfl rfl rfl rfl)))
    | refine draw_skip rfl rfl rfl rfl ?_
    | refine draw_nil ?_)
    repeat (first
    | refine exec_seq ?_
    | refine exec_region ?_
    | refine exec_block ?_
    | refine exec_skip ?_
    | refine exec_exit ?_
    | refine exec_ret ?_
    | refine exec_true rfl ?_
    | refine exec_false rfl ?_
    | refine ops_nil ?_
    | (apply ops_pl rfl rfl rfl ?_ rfl ?_; rotate_left; focus first | exact (.bld rfl rfl rfl rfl) | exact (.cat rfl rfl rfl (by first | (simp; done) | (simp; omega))) | exact (.neSelf rfl rfl rfl rfl) | exact (.eqSelf rfl rfl rfl rfl) | exact (.wr64 rfl rfl (by omega) (by omega)) | exact (.p rfl rfl) | exact (.cv64 rfl (fun _ => rfl) (by omega) (by omega)) | exact (.l rfl (fun _ _ => rfl)) | exact (.l rfl (look_own 0 rfl rfl rfl rfl)) | exact (.l rfl (look_own 1 rfl rfl rfl rfl)) | exact (.l rfl (look_own 2 rfl rfl rfl rfl)) | exact (.l rfl (look_own 3 rfl rfl rfl rfl)) | exact (.l rfl (look_own 4 rfl rfl rfl rfl)) | exact (.l rfl (look_own 5 rfl rfl rfl rfl)) | exact (.l rfl (look_agg 0 rfl rfl rfl rfl)) | exact (.l rfl (look_agg 1 rfl rfl rfl rfl)) | exact (.l rfl (look_agg 2 rfl rfl rfl rfl)) | exact (.l rfl (look_agg 3 rfl rfl rfl rfl)) | exact (.l rfl (look_agg 4 rfl rfl rfl rfl)) | exact (.l rfl (look_agg 5 rfl rfl rfl rfl)))
    | refine ops_skip rfl rfl rfl ?_
    | (refine ops_step rfl rfl rfl ?_; first | (refine step_box rfl rfl rfl (fun _ => ?_)) | (refine step_alloc rfl rfl rfl rfl (fun _ => ?_)) | (refine step_buildSlice rfl rfl rfl rfl rfl (fun _ => ?_)) | (refine step_map rfl (fun _ => ?_)) | (refine step_store 0 rfl rfl rfl rfl rfl rfl rfl rfl rfl ?_) | (refine step_store 1 rfl rfl rfl rfl rfl rfl rfl rfl rfl ?_) | (refine step_store 2 rfl rfl rfl rfl rfl rfl rfl rfl rfl ?_) | (refine step_store 3 rfl rfl rfl rfl rfl rfl rfl rfl rfl ?_) | (refine step_store 4 rfl rfl rfl rfl rfl rfl rfl rfl rfl ?_) | (refine step_store 5 rfl rfl rfl rfl rfl rfl rfl rfl rfl ?_)))
    refine ⟨trivial, [_, _, _], ⟨look_agg 3 rfl rfl rfl rfl, rfl, rfl, trivial⟩, ?_⟩
    rw [show fstC s = ((2, []), s.drop 1, true) from by rw [fstC, if_neg h1, if_pos e1], List.take_length]
    rfl
  have h2 := of_decide_eq_false h2
  repeat (first
  | refine exec_seq ?_
  | refine exec_region ?_
  | refine exec_block ?_
  | refine exec_skip ?_
  | refine exec_exit ?_
  | refine exec_ret ?_
  | refine exec_true rfl ?_
  | refine exec_false rfl ?_
  | refine ops_nil ?_
  | (apply ops_pl rfl rfl rfl ?_ rfl ?_; rotate_left; focus first | exact (.bld rfl rfl rfl rfl) | exact (.cat rfl rfl rfl (by first | (simp; done) | (simp; omega))) | exact (.neSelf rfl rfl rfl rfl) | exact (.eqSelf rfl rfl rfl rfl) | exact (.wr64 rfl rfl (by omega) (by omega)) | exact (.p rfl rfl) | exact (.cv64 rfl (fun _ => rfl) (by omega) (by omega)) | exact (.l rfl (fun _ _ => rfl)) | exact (.l rfl (look_own 0 rfl rfl rfl rfl)) | exact (.l rfl (look_own 1 rfl rfl rfl rfl)) | exact (.l rfl (look_own 2 rfl rfl rfl rfl)) | exact (.l rfl (look_own 3 rfl rfl rfl rfl)) | exact (.l rfl (look_own 4 rfl rfl rfl rfl)) | exact (.l rfl (look_own 5 rfl rfl rfl rfl)) | exact (.l rfl (look_agg 0 rfl rfl rfl rfl)) | exact (.l rfl (look_agg 1 rfl rfl rfl rfl)) | exact (.l rfl (look_agg 2 rfl rfl rfl rfl)) | exact (.l rfl (look_agg 3 rfl rfl rfl rfl)) | exact (.l rfl (look_agg 4 rfl rfl rfl rfl)) | exact (.l rfl (look_agg 5 rfl rfl rfl rfl)))
  | refine ops_skip rfl rfl rfl ?_
  | (refine ops_step rfl rfl rfl ?_; first | (refine step_box rfl rfl rfl (fun _ => ?_)) | (refine step_alloc rfl rfl rfl rfl (fun _ => ?_)) | (refine step_buildSlice rfl rfl rfl rfl rfl (fun _ => ?_)) | (refine step_map rfl (fun _ => ?_)) | (refine step_store 0 rfl rfl rfl rfl rfl rfl rfl rfl rfl ?_) | (refine step_store 1 rfl rfl rfl rfl rfl rfl rfl rfl rfl ?_) | (refine step_store 2 rfl rfl rfl rfl rfl rfl rfl rfl rfl ?_) | (refine step_store 3 rfl rfl rfl rfl rfl rfl rfl rfl rfl ?_) | (refine step_store 4 rfl rfl rfl rfl rfl rfl rfl rfl rfl ?_) | (refine step_store 5 rfl rfl rfl rfl rfl rfl rfl rfl rfl ?_)))
  refine exec_loop_step ?_
  repeat (first
  | refine exec_seq ?_
  | refine exec_region ?_
  | refine exec_block ?_
  | refine exec_skip ?_
  | refine exec_exit ?_
  | refine exec_ret ?_
  | refine exec_true rfl ?_
  | refine exec_false rfl ?_
  | refine ops_nil ?_
  | (apply ops_pl rfl rfl rfl ?_ rfl ?_; rotate_left; focus first | exact (.bld rfl rfl rfl rfl) | exact (.cat rfl rfl rfl (by first | (simp; done) | (simp; omega))) | exact (.neSelf rfl rfl rfl rfl) | exact (.eqSelf rfl rfl rfl rfl) | exact (.wr64 rfl rfl (by omega) (by omega)) | exact (.p rfl rfl) | exact (.cv64 rfl (fun _ => rfl) (by omega) (by omega)) | exact (.l rfl (fun _ _ => rfl)) | exact (.l rfl (look_own 0 rfl rfl rfl rfl)) | exact (.l rfl (look_own 1 rfl rfl rfl rfl)) | exact (.l rfl (look_own 2 rfl rfl rfl rfl)) | exact (.l rfl (look_own 3 rfl rfl rfl rfl)) | exact (.l rfl (look_own 4 rfl rfl rfl rfl)) | exact (.l rfl (look_own 5 rfl rfl rfl rfl)) | exact (.l rfl (look_agg 0 rfl rfl rfl rfl)) | exact (.l rfl (look_agg 1 rfl rfl rfl rfl)) | exact (.l rfl (look_agg 2 rfl rfl rfl rfl)) | exact (.l rfl (look_agg 3 rfl rfl rfl rfl)) | exact (.l rfl (look_agg 4 rfl rfl rfl rfl)) | exact (.l rfl (look_agg 5 rfl rfl rfl rfl)))
  | refine ops_skip rfl rfl rfl ?_
  | (refine ops_step rfl rfl rfl ?_; first | (refine step_box rfl rfl rfl (fun _ => ?_)) | (refine step_alloc rfl rfl rfl rfl (fun _ => ?_)) | (refine step_buildSlice rfl rfl rfl rfl rfl (fun _ => ?_)) | (refine step_map rfl (fun _ => ?_)) | (refine step_store 0 rfl rfl rfl rfl rfl rfl rfl rfl rfl ?_) | (refine step_store 1 rfl rfl rfl rfl rfl rfl rfl rfl rfl ?_) | (refine step_store 2 rfl rfl rfl rfl rfl rfl rfl rfl rfl ?_) | (refine step_store 3 rfl rfl rfl rfl rfl rfl rfl rfl rfl ?_) | (refine step_store 4 rfl rfl rfl rfl rfl rfl rfl rfl rfl ?_) | (refine step_store 5 rfl rfl rfl rfl rfl rfl rfl rfl rfl ?_)))
  refine ops_step rfl rfl rfl (step_call_pure rfl rfl rfl (fun H hs => type_ok (k := 3) (cl := []) (by simp)) ?_)
  refine ops_step rfl rfl rfl (step_call_pure rfl rfl rfl (fun H hs => hasPrefix_ok (s := s) (c := 65)) ?_)
  cases h3 : decide (s.take 1 = [65])
  rotate_left
  · have e1 := of_decide_eq_true h3
    have hl := len1 e1
    repeat (first
    | refine exec_seq ?_
    | refine exec_region ?_
    | refine exec_block ?_
    | refine exec_skip ?_
    | refine exec_exit ?_
    | refine exec_ret ?_
    | refine exec_true rfl ?_
    | refine exec_false rfl ?_
    | refine ops_nil ?_
    | (apply ops_pl rfl rfl rfl ?_ rfl ?_; rotate_left; focus first | exact (.bld rfl rfl rfl rfl) | exact (.cat rfl rfl rfl (by first | (simp; done) | (simp; omega))) | exact (.neSelf rfl rfl rfl rfl) | exact (.eqSelf rfl rfl rfl rfl) | exact (.wr64 rfl rfl (by omega) (by omega)) | exact (.p rfl rfl) | exact (.cv64 rfl (fun _ => rfl) (by omega) (by omega)) | exact (.l rfl (fun _ _ => rfl)) | exact (.l rfl (look_own 0 rfl rfl rfl rfl)) | exact (.l rfl (look_own 1 rfl rfl rfl rfl)) | exact (.l rfl (look_own 2 rfl rfl rfl rfl)) | exact (.l rfl (look_own 3 rfl rfl rfl rfl)) | exact (.l rfl (look_own 4 rfl rfl rfl rfl)) | exact (.l rfl (look_own 5 rfl rfl rfl rfl)) | exact (.l rfl (look_agg 0 rfl rfl rfl rfl)) | exact (.l rfl (look_agg 1 rfl rfl rfl rfl)) | exact (.l rfl (look_agg 2 rfl rfl rfl rfl)) | exact (.l rfl (look_agg 3 rfl rfl rfl rfl)) | exact (.l rfl (look_agg 4 rfl rfl rfl rfl)) | exact (.l rfl (look_agg 5 rfl rfl rfl rfl)))
    | refine ops_skip rfl rfl rfl ?_
    | (refine ops_step rfl rfl rfl ?_; first | (refine step_box rfl rfl rfl (fun _ => ?_)) | (refine step_alloc rfl rfl rfl rfl (fun _ => ?_)) | (refine step_buildSlice rfl rfl rfl rfl rfl (fun _ => ?_)) | (refine step_map rfl (fun _ => ?_)) | (refine step_store 0 rfl rfl rfl rfl rfl rfl rfl rfl rfl ?_) | (refine step_store 1 rfl rfl rfl rfl rfl rfl rfl rfl rfl ?_) | (refine step_store 2 rfl rfl rfl rfl rfl rfl rfl rfl rfl ?_) | (refine step_store 3 rfl rfl rfl rfl rfl rfl rfl rfl rfl ?_) | (refine step_store 4 rfl rfl rfl rfl rfl rfl rfl rfl rfl ?_) | (refine step_store 5 rfl rfl rfl rfl rfl rfl rfl rfl rfl ?_)))
    refine exec_draw (lst := [(0, 0), (1, 0), (2, 2), (3, 1), (4, 15), (5, 31)]) (full := 63) (by kernel_rfl) (by kernel_rfl) (by kernel_rfl) (by kernel_rfl) ?_
    repeat (first
    | (apply draw_pl rfl rfl rfl rfl ?_ rfl rfl ?_; rotate_left; focus first | exact (.bld rfl rfl rfl rfl) | exact (.cat rfl rfl rfl (by first | (simp; done) | (simp; omega))) | exact (.neSelf rfl rfl rfl rfl) | exact (.eqSelf rfl rfl rfl rfl) | exact (.wr64 rfl rfl (by omega) (by omega)) | exact (.p rfl rfl) | exact (.cv64 rfl (fun _ => rfl) (by omega) (by omega)) | exact (.l rfl (fun _ _ => rfl)) | exact (.l rfl (look_own 0 rfl rfl rfl rfl)) | exact (.l rfl (look_own 1 rfl rfl rfl rfl)) | exact (.l rfl (look_own 2 rfl rfl rfl rfl)) | exact (.l rfl (look_own 3 rfl rfl rfl rfl)) | exact (.l rfl (look_own 4 rfl rfl rfl rfl)) | exact (.l rfl (look_own 5 rfl rfl rfl rfl)) | exact (.l rfl (look_agg 0 rfl rfl rfl rfl)) | exact (.l rfl (look_agg 1 rfl rfl rfl rfl)) | exact (.l rfl (look_agg 2 rfl rfl rfl rfl)) | exact (.l rfl (look_agg 3 rfl rfl rfl rfl)) | exact (.l rfl (look_agg 4 rfl rfl rfl rfl)) | exact (.l rfl (look_agg 5 rfl rfl rfl rfl)))
    | refine draw_skip rfl rfl rfl rfl ?_
    | refine draw_nil ?_)
    first | refine ops_pl rfl rfl rfl (.l rfl (look_scut (l := 1) (h := s.length) rfl rfl rfl rfl (by first | rfl | omega | exact hw) rfl (by first | rfl | omega | exact hw) rfl (by omega) (by omega))) rfl ?_ | refine draw_pl rfl rfl rfl rfl (.l rfl (look_scut (l := 1) (h := s.length) rfl rfl rfl rfl (by first | rfl | omega | exact hw) rfl (by first | rfl | omega | exact hw) rfl (by omega) (by omega))) rfl rfl ?_
    repeat (first
    | (apply draw_pl rfl rfl rfl rfl ?_ rfl rfl ?_; rotate_left; focus first | exact (.bld rfl rfl rfl rfl) | exact (.cat rfl rfl rfl (by first | (simp; done) | (simp; omega))) | exact (.neSelf rfl rfl rfl rfl) | exact (.eqSelf rfl rfl rfl rfl) | exact (.wr64 rfl rfl (by omega) (by omega)) | exact (.p rfl rfl) | exact (.cv64 rfl (fun _ => rfl) (by omega) (by omega)) | exact (.l rfl (fun _ _ => rfl)) | exact (.l rfl (look_own 0 rfl rfl rfl rfl)) | exact (.l rfl (look_own 1 rfl rfl rfl rfl)) | exact (.l rfl (look_own 2 rfl rfl rfl rfl)) | exact (.l rfl (look_own 3 rfl rfl rfl rfl)) | exact (.l rfl (look_own 4 rfl rfl rfl rfl)) | exact (.l rfl (look_own 5 rfl rfl rfl rfl)) | exact (.l rfl (look_agg 0 rfl rfl rfl rfl)) | exact (.l rfl (look_agg 1 rfl rfl rfl rfl)) | exact (.l rfl (look_agg 2 rfl rfl rfl rfl)) | exact (.l rfl (look_agg 3 rfl rfl rfl rfl)) | exact (.l rfl (look_agg 4 rfl rfl rfl rfl)) | exact (.l rfl (look_agg 5 rfl rfl rfl rfl)))
    | refine draw_skip rfl rfl rfl rfl ?_
    | refine draw_nil ?_)
    refine draw_w rfl rfl rfl rfl rfl rfl (step_store 4 rfl rfl rfl rfl rfl rfl rfl rfl rfl ⟨by repeat (first | exact True.intro | refine And.intro (.inl rfl) ?_ | refine And.intro (.inr ⟨veq_refl rfl, (fun _ _ => rfl)⟩) ?_ | refine And.intro (.inr ⟨veq_refl rfl, (look_scut (l := 1) (h := s.length) rfl rfl rfl rfl rfl rfl rfl rfl (by omega) (by omega))⟩) ?_ | refine And.intro (.inr ⟨veq_refl rfl, (look_agg 0 rfl rfl rfl rfl)⟩) ?_ | refine And.intro (.inr ⟨veq_refl rfl, (look_agg 1 rfl rfl rfl rfl)⟩) ?_), ?_⟩)
    repeat (first
    | (apply draw_pl rfl rfl rfl rfl ?_ rfl rfl ?_; rotate_left; focus first | exact (.bld rfl rfl rfl rfl) | exact (.cat rfl rfl rfl (by first | (simp; done) | (simp; omega))) | exact (.neSelf rfl rfl rfl rfl) | exact (.eqSelf rfl rfl rfl rfl) | exact (.wr64 rfl rfl (by omega) (by omega)) | exact (.p rfl rfl) | exact (.cv64 rfl (fun _ => rfl) (by omega) (by omega)) | exact (.l rfl (fun _ _ => rfl)) | exact (.l rfl (look_own 0 rfl rfl rfl rfl)) | exact (.l rfl (look_own 1 rfl rfl rfl rfl)) | exact (.l rfl (look_own 2 rfl rfl rfl rfl)) | exact (.l rfl (look_own 3 rfl rfl rfl rfl)) | exact (.l rfl (look_own 4 rfl rfl rfl rfl)) | exact (.l rfl (look_own 5 rfl rfl rfl rfl)) | exact (.l rfl (look_agg 0 rfl rfl rfl rfl)) | exact (.l rfl (look_agg 1 rfl rfl rfl rfl)) | exact (.l rfl (look_agg 2 rfl rfl rfl rfl)) | exact (.l rfl (look_agg 3 rfl rfl rfl rfl)) | exact (.l rfl (look_agg 4 rfl rfl rfl rfl)) | exact (.l rfl (look_agg 5 rfl rfl rfl rfl)))
    | refine draw_skip rfl rfl rfl rfl ?_
    | refine draw_nil ?_)
    repeat (first
    | refine exec_seq ?_
    | refine exec_region ?_
    | refine exec_block ?_
    | refine exec_skip ?_
    | refine exec_exit ?_
    | refine exec_ret ?_
    | refine exec_true rfl ?_
    | refine exec_false rfl ?_
    | refine ops_nil ?_
    | (apply ops_pl rfl rfl rfl ?_ rfl ?_; rotate_left; focus first | exact (.bld rfl rfl rfl rfl) | exact (.cat rfl rfl rfl (by first | (simp; done) | (simp; omega))) | exact (.neSelf rfl rfl rfl rfl) | exact (.eqSelf rfl rfl rfl rfl) | exact (.wr64 rfl rfl (by omega) (by omega)) | exact (.p rfl rfl) | exact (.cv64 rfl (fun _ => rfl) (by omega) (by omega)) | exact (.l rfl (fun _ _ => rfl)) | exact (.l rfl (look_own 0 rfl rfl rfl rfl)) | exact (.l rfl (look_own 1 rfl rfl rfl rfl)) | exact (.l rfl (look_own 2 rfl rfl rfl rfl)) | exact (.l rfl (look_own 3 rfl rfl rfl rfl)) | exact (.l rfl (look_own 4 rfl rfl rfl rfl)) | exact (.l rfl (look_own 5 rfl rfl rfl rfl)) | exact (.l rfl (look_agg 0 rfl rfl rfl rfl)) | exact (.l rfl (look_agg 1 rfl rfl rfl rfl)) | exact (.l rfl (look_agg 2 rfl rfl rfl rfl)) | exact (.l rfl (look_agg 3 rfl rfl rfl rfl)) | exact (.l rfl (look_agg 4 rfl rfl rfl rfl)) | exact (.l rfl (look_agg 5 rfl rfl rfl rfl)))
    | refine ops_skip rfl rfl rfl ?_
    | (refine ops_step rfl rfl rfl ?_; first | (refine step_box rfl rfl rfl (fun _ => ?_)) | (refine step_alloc rfl rfl rfl rfl (fun _ => ?_)) | (refine step_buildSlice rfl rfl rfl rfl rfl (fun _ => ?_)) | (refine step_map rfl (fun _ => ?_)) | (refine step_store 0 rfl rfl rfl rfl rfl rfl rfl rfl rfl ?_) | (refine step_store 1 rfl rfl rfl rfl rfl rfl rfl rfl rfl ?_) | (refine step_store 2 rfl rfl rfl rfl rfl rfl rfl rfl rfl ?_) | (refine step_store 3 rfl rfl rfl rfl rfl rfl rfl rfl rfl ?_) | (refine step_store 4 rfl rfl rfl rfl rfl rfl rfl rfl rfl ?_) | (refine step_store 5 rfl rfl rfl rfl rfl rfl rfl rfl rfl ?_)))
    refine ⟨trivial, [_, _, _], ⟨look_agg 4 rfl rfl rfl rfl, rfl, rfl, trivial⟩, ?_⟩
    rw [show fstC s = ((3, []), s.drop 1, true) from by rw [fstC, if_neg h1, if_neg h2, if_pos e1], List.take_length]
    rfl
  have h3 := of_decide_eq_false h3
  repeat (first
  | refine exec_seq ?_
  | refine exec_region ?_
  | refine exec_block ?_
  | refine exec_skip ?_
  | refine exec_exit ?_
  | refine exec_ret ?_
  | refine exec_true rfl ?_
  | refine exec_false rfl ?_
  | refine ops_nil ?_
  | (apply ops_pl rfl rfl rfl ?_ rfl ?_; rotate_left; focus first | exact (.bld rfl rfl rfl rfl) | exact (.cat rfl rfl rfl (by first | (simp; done) | (simp; omega))) | exact (.neSelf rfl rfl rfl rfl) | exact (.eqSelf rfl rfl rfl rfl) | exact (.wr64 rfl rfl (by omega) (by omega)) | exact (.p rfl rfl) | exact (.cv64 rfl (fun _ => rfl) (by omega) (by omega)) | exact (.l rfl (fun _ _ => rfl)) | exact (.l rfl (look_own 0 rfl rfl rfl rfl)) | exact (.l rfl (look_own 1 rfl rfl rfl rfl)) | exact (.l rfl (look_own 2 rfl rfl rfl rfl)) | exact (.l rfl (look_own 3 rfl rfl rfl rfl)) | exact (.l rfl (look_own 4 rfl rfl rfl rfl)) | exact (.l rfl (look_own 5 rfl rfl rfl rfl)) | exact (.l rfl (look_agg 0 rfl rfl rfl rfl)) | exact (.l rfl (look_agg 1 rfl rfl rfl rfl)) | exact (.l rfl (look_agg 2 rfl rfl rfl rfl)) | exact (.l rfl (look_agg 3 rfl rfl rfl rfl)) | exact (.l rfl (look_agg 4 rfl rfl rfl rfl)) | exact (.l rfl (look_agg 5 rfl rfl rfl rfl)))
  | refine ops_skip rfl rfl rfl ?_
  | (refine ops_step rfl rfl rfl ?_; first | (refine step_box rfl rfl rfl (fun _ => ?_)) | (refine step_alloc rfl rfl rfl rfl (fun _ => ?_)) | (refine step_buildSlice rfl rfl rfl rfl rfl (fun _ => ?_)) | (refine step_map rfl (fun _ => ?_)) | (refine step_store 0 rfl rfl rfl rfl rfl rfl rfl rfl rfl ?_) | (refine step_store 1 rfl rfl rfl rfl rfl rfl rfl rfl rfl ?_) | (refine step_store 2 rfl rfl rfl rfl rfl rfl rfl rfl rfl ?_) | (refine step_store 3 rfl rfl rfl rfl rfl rfl rfl rfl rfl ?_) | (refine step_store 4 rfl rfl rfl rfl rfl rfl rfl rfl rfl ?_) | (refine step_store 5 rfl rfl rfl rfl rfl rfl rfl rfl rfl ?_)))
  refine exec_loop_step ?_
  repeat (first
  | refine exec_seq ?_
  | refine exec_region ?_
  | refine exec_block ?_
  | refine exec_skip ?_
  | refine exec_exit ?_
  | refine exec_ret ?_
  | refine exec_true rfl ?_
  | refine exec_false rfl ?_
  | refine ops_nil ?_
  | (apply ops_pl rfl rfl rfl ?_ rfl ?_; rotate_left; focus first | exact (.bld rfl rfl rfl rfl) | exact (.cat rfl rfl rfl (by first | (simp; done) | (simp; omega))) | exact (.neSelf rfl rfl rfl rfl) | exact (.eqSelf rfl rfl rfl rfl) | exact (.wr64 rfl rfl (by omega) (by omega)) | exact (.p rfl rfl) | exact (.cv64 rfl (fun _ => rfl) (by omega) (by omega)) | exact (.l rfl (fun _ _ => rfl)) | exact (.l rfl (look_own 0 rfl rfl rfl rfl)) | exact (.l rfl (look_own 1 rfl rfl rfl rfl)) | exact (.l rfl (look_own 2 rfl rfl rfl rfl)) | exact (.l rfl (look_own 3 rfl rfl rfl rfl)) | exact (.l rfl (look_own 4 rfl rfl rfl rfl)) | exact (.l rfl (look_own 5 rfl rfl rfl rfl)) | exact (.l rfl (look_agg 0 rfl rfl rfl rfl)) | exact (.l rfl (look_agg 1 rfl rfl rfl rfl)) | exact (.l rfl (look_agg 2 rfl rfl rfl rfl)) | exact (.l rfl (look_agg 3 rfl rfl rfl rfl)) | exact (.l rfl (look_agg 4 rfl rfl rfl rfl)) | exact (.l rfl (look_agg 5 rfl rfl rfl rfl)))
  | refine ops_skip rfl rfl rfl ?_
  | (refine ops_step rfl rfl rfl ?_; first | (refine step_box rfl rfl rfl (fun _ => ?_)) | (refine step_alloc rfl rfl rfl rfl (fun _ => ?_)) | (refine step_buildSlice rfl rfl rfl rfl rfl (fun _ => ?_)) | (refine step_map rfl (fun _ => ?_)) | (refine step_store 0 rfl rfl rfl rfl rfl rfl rfl rfl rfl ?_) | (refine step_store 1 rfl rfl rfl rfl rfl rfl rfl rfl rfl ?_) | (refine step_store 2 rfl rfl rfl rfl rfl rfl rfl rfl rfl ?_) | (refine step_store 3 rfl rfl rfl rfl rfl rfl rfl rfl rfl ?_) | (refine step_store 4 rfl rfl rfl rfl rfl rfl rfl rfl rfl ?_) | (refine step_store 5 rfl rfl rfl rfl rfl rfl rfl rfl rfl ?_)))
  refine ops_step rfl rfl rfl (step_call_pure rfl rfl rfl (fun H hs => type_ok (k := 5) (cl := []) (by simp)) ?_)
  refine ops_step rfl rfl rfl (step_call_pure rfl rfl rfl (fun H hs => hasPrefix_ok (s := s) (c := 86)) ?_)
  cases h4 : decide (s.take 1 = [86])
  rotate_left
  · have e1 := of_decide_eq_true h4
    have hl := len1 e1
    repeat (first
    | refine exec_seq ?_
    | refine exec_region ?_
    | refine exec_block ?_
    | refine exec_skip ?_
    | refine exec_exit ?_
    | refine exec_ret ?_
    | refine exec_true rfl ?_
    | refine exec_false rfl ?_
    | refine ops_nil ?_
    | (apply ops_pl rfl rfl rfl ?_ rfl ?_; rotate_left; focus first | exact (.bld rfl rfl rfl rfl) | exact (.cat rfl rfl rfl (by first | (simp; done) | (simp; omega))) | exact (.neSelf rfl rfl rfl rfl) | exact (.eqSelf rfl rfl rfl rfl) | exact (.wr64 rfl rfl (by omega) (by omega)) | exact (.p rfl rfl) | exact (.cv64 rfl (fun _ => rfl) (by omega) (by omega)) | exact (.l rfl (fun _ _ => rfl)) | exact (.l rfl (look_own 0 rfl rfl rfl rfl)) | exact (.l rfl (look_own 1 rfl rfl rfl rfl)) | exact (.l rfl (look_own 2 rfl rfl rfl rfl)) | exact (.l rfl (look_own 3 rfl rfl rfl rfl)) | exact (.l rfl (look_own 4 rfl rfl rfl rfl)) | exact (.l rfl (look_own 5 rfl rfl rfl rfl)) | exact (.l rfl (look_agg 0 rfl rfl rfl rfl)) | exact (.l rfl (look_agg 1 rfl rfl rfl rfl)) | exact (.l rfl (look_agg 2 rfl rfl rfl rfl)) | exact (.l rfl (look_agg 3 rfl rfl rfl rfl)) | exact (.l rfl (look_agg 4 rfl rfl rfl rfl)) | exact (.l rfl (look_agg 5 rfl rfl rfl rfl)))
    | refine ops_skip rfl rfl rfl ?_
    | (refine ops_step rfl rfl rfl ?_; first | (refine step_box rfl rfl rfl (fun _ => ?_)) | (refine step_alloc rfl rfl rfl rfl (fun _ => ?_)) | (refine step_buildSlice rfl rfl rfl rfl rfl (fun _ => ?_)) | (refine step_map rfl (fun _ => ?_)) | (refine step_store 0 rfl rfl rfl rfl rfl rfl rfl rfl rfl ?_) | (refine step_store 1 rfl rfl rfl rfl rfl rfl rfl rfl rfl ?_) | (refine step_store 2 rfl rfl rfl rfl rfl rfl rfl rfl rfl ?_) | (refine step_store 3 rfl rfl rfl rfl rfl rfl rfl rfl rfl ?_) | (refine step_store 4 rfl rfl rfl rfl rfl rfl rfl rfl rfl ?_) | (refine step_store 5 rfl rfl rfl rfl rfl rfl rfl rfl rfl ?_)))
    refine exec_draw (lst := [(0, 0), (1, 0), (2, 2), (3, 1), (4, 15), (5, 31)]) (full := 63) (by kernel_rfl) (by kernel_rfl) (by kernel_rfl) (by kernel_rfl) ?_
    repeat (first
    | (apply draw_pl rfl rfl rfl rfl ?_ rfl rfl ?_; rotate_left; focus first | exact (.bld rfl rfl rfl rfl) | exact (.cat rfl rfl rfl (by first | (simp; done) | (simp; omega))) | exact (.neSelf rfl rfl rfl rfl) | exact (.eqSelf rfl rfl rfl rfl) | exact (.wr64 rfl rfl (by omega) (by omega)) | exact (.p rfl rfl) | exact (.cv64 rfl (fun _ => rfl) (by omega) (by omega)) | exact (.l rfl (fun _ _ => rfl)) | exact (.l rfl (look_own 0 rfl rfl rfl rfl)) | exact (.l rfl (look_own 1 rfl rfl rfl rfl)) | exact (.l rfl (look_own 2 rfl rfl rfl rfl)) | exact (.l rfl (look_own 3 rfl rfl rfl rfl)) | exact (.l rfl (look_own 4 rfl rfl rfl rfl)) | exact (.l rfl (look_own 5 rfl rfl rfl rfl)) | exact (.l rfl (look_agg 0 rfl rfl rfl rfl)) | exact (.l rfl (look_agg 1 rfl rfl rfl rfl)) | exact (.l rfl (look_agg 2 rfl rfl rfl rfl)) | exact (.l rfl (look_agg 3 rfl rfl rfl rfl)) | exact (.l rfl (look_agg 4 rfl rfl rfl rfl)) | exact (.l rfl (look_agg 5 rfl rfl rfl rfl)))
    | refine draw_skip rfl rfl rfl rfl ?_
    | refine draw_nil ?_)
    first | refine ops_pl rfl rfl rfl (.l rfl (look_scut (l := 1) (h := s.length) rfl rfl rfl rfl (by first | rfl | omega | exact hw) rfl (by first | rfl | omega | exact hw) rfl (by omega) (by omega))) rfl ?_ | refine draw_pl rfl rfl rfl rfl (.l rfl (look_scut (l := 1) (h := s.length) rfl rfl rfl rfl (by first | rfl | omega | exact hw) rfl (by first | rfl | omega | exact hw) rfl (by omega) (by omega))) rfl rfl ?_
    repeat (first
    | (apply draw_pl rfl rfl rfl rfl ?_ rfl rfl ?_; rotate_left; focus first | exact (.bld rfl rfl rfl rfl) | exact (.cat rfl rfl rfl (by first | (simp; done) | (simp; omega))) | exact (.neSelf rfl rfl rfl rfl) | exact (.eqSelf rfl rfl rfl rfl) | exact (.wr64 rfl rfl (by omega) (by omega)) | exact (.p rfl rfl) | exact (.cv64 rfl (fun _ => rfl) (by omega) (by omega)) | exact (.l rfl (fun _ _ => rfl)) | exact (.l rfl (look_own 0 rfl rfl rfl rfl)) | exact (.l rfl (look_own 1 rfl rfl rfl rfl)) | exact (.l rfl (look_own 2 rfl rfl rfl rfl)) | exact (.l rfl (look_own 3 rfl rfl rfl rfl)) | exact (.l rfl (look_own 4 rfl rfl rfl rfl)) | exact (.l rfl (look_own 5 rfl rfl rfl rfl)) | exact (.l rfl (look_agg 0 rfl rfl rfl rfl)) | exact (.l rfl (look_agg 1 rfl rfl rfl rfl)) | exact (.l rfl (look_agg 2 rfl rfl rfl rfl)) | exact (.l rfl (look_agg 3 rfl rfl rfl rfl)) | exact (.l rfl (look_agg 4 rfl rfl rfl rfl)) | exact (.l rfl (look_agg 5 rfl rfl rfl rfl)))
    | refine draw_skip rfl rfl rfl rfl ?_
    | refine draw_nil ?_)
    refine draw_w rfl rfl rfl rfl rfl rfl (step_store 5 rfl rfl rfl rfl rfl rfl rfl rfl rfl ⟨by repeat (first | exact True.intro | refine And.intro (.inl rfl) ?_ | refine And.intro (.inr ⟨veq_refl rfl, (fun _ _ => rfl)⟩) ?_ | refine And.intro (.inr ⟨veq_refl rfl, (look_scut (l := 1) (h := s.length) rfl rfl rfl rfl rfl rfl rfl rfl (by omega) (by omega))⟩) ?_ | refine And.intro (.inr ⟨veq_refl rfl, (look_agg 0 rfl rfl rfl rfl)⟩) ?_ | refine And.intro (.inr ⟨veq_refl rfl, (look_agg 1 rfl rfl rfl rfl)⟩) ?_), ?_⟩)
    repeat (first
    | (apply draw_pl rfl rfl rfl rfl ?_ rfl rfl ?_; rotate_left; focus first | exact (.bld rfl rfl rfl rfl) | exact (.cat rfl rfl rfl (by first | (simp; done) | (simp; omega))) | exact (.neSelf rfl rfl rfl rfl) | exact (.eqSelf rfl rfl rfl rfl) | exact (.wr64 rfl rfl (by omega) (by omega)) | exact (.p rfl rfl) | exact (.cv64 rfl (fun _ => rfl) (by omega) (by omega)) | exact (.l rfl (fun _ _ => rfl)) | exact (.l rfl (look_own 0 rfl rfl rfl rfl)) | exact (.l rfl (look_own 1 rfl rfl rfl rfl)) | exact (.l rfl (look_own 2 rfl rfl rfl rfl)) | exact (.l rfl (look_own 3 rfl rfl rfl rfl)) | exact (.l rfl (look_own 4 rfl rfl rfl rfl)) | exact (.l rfl (look_own 5 rfl rfl rfl rfl)) | exact (.l rfl (look_agg 0 rfl rfl rfl rfl)) | exact (.l rfl (look_agg 1 rfl rfl rfl rfl)) | exact (.l rfl (look_agg 2 rfl rfl rfl rfl)) | exact (.l rfl (look_agg 3 rfl rfl rfl rfl)) | exact (.l rfl (look_agg 4 rfl rfl rfl rfl)) | exact (.l rfl (look_agg 5 rfl rfl rfl rfl)))
    | refine draw_skip rfl rfl rfl rfl ?_
    | refine draw_nil ?_)
    repeat (first
    | refine exec_seq ?_
    | refine exec_region ?_
    | refine exec_block ?_
    | refine exec_skip ?_
    | refine exec_exit ?_
    | refine exec_ret ?_
    | refine exec_true rfl ?_
    | refine exec_false rfl ?_
    | refine ops_nil ?_
    | (apply ops_pl rfl rfl rfl ?_ rfl ?_; rotate_left; focus first | exact (.bld rfl rfl rfl rfl) | exact (.cat rfl rfl rfl (by first | (simp; done) | (simp; omega))) | exact (.neSelf rfl rfl rfl rfl) | exact (.eqSelf rfl rfl rfl rfl) | exact (.wr64 rfl rfl (by omega) (by omega)) | exact (.p rfl rfl) | exact (.cv64 rfl (fun _ => rfl) (by omega) (by omega)) | exact (.l rfl (fun _ _ => rfl)) | exact (.l rfl (look_own 0 rfl rfl rfl rfl)) | exact (.l rfl (look_own 1 rfl rfl rfl rfl)) | exact (.l rfl (look_own 2 rfl rfl rfl rfl)) | exact (.l rfl (look_own 3 rfl rfl rfl rfl)) | exact (.l rfl (look_own 4 rfl rfl rfl rfl)) | exact (.l rfl (look_own 5 rfl rfl rfl rfl)) | exact (.l rfl (look_agg 0 rfl rfl rfl rfl)) | exact (.l rfl (look_agg 1 rfl rfl rfl rfl)) | exact (.l rfl (look_agg 2 rfl rfl rfl rfl)) | exact (.l rfl (look_agg 3 rfl rfl rfl rfl)) | exact (.l rfl (look_agg 4 rfl rfl rfl rfl)) | exact (.l rfl (look_agg 5 rfl rfl rfl rfl)))
    | refine ops_skip rfl rfl rfl ?_
    | (refine ops_step rfl rfl rfl ?_; first | (refine step_box rfl rfl rfl (fun _ => ?_)) | (refine step_alloc rfl rfl rfl rfl (fun _ => ?_)) | (refine step_buildSlice rfl rfl rfl rfl rfl (fun _ => ?_)) | (refine step_map rfl (fun _ => ?_)) | (refine step_store 0 rfl rfl rfl rfl rfl rfl rfl rfl rfl ?_) | (refine step_store 1 rfl rfl rfl rfl rfl rfl rfl rfl rfl ?_) | (refine step_store 2 rfl rfl rfl rfl rfl rfl rfl rfl rfl ?_) | (refine step_store 3 rfl rfl rfl rfl rfl rfl rfl rfl rfl ?_) | (refine step_store 4 rfl rfl rfl rfl rfl rfl rfl rfl rfl ?_) | (refine step_store 5 rfl rfl rfl rfl rfl rfl rfl rfl rfl ?_)))
    refine ⟨trivial, [_, _, _], ⟨look_agg 5 rfl rfl rfl rfl, rfl, rfl, trivial⟩, ?_⟩
    rw [show fstC s = ((5, []), s.drop 1, true) from by rw [fstC, if_neg h1, if_neg h2, if_neg h3, if_pos e1], List.take_length]
    rfl
  have h4 := of_decide_eq_false h4
  repeat (first
  | refine exec_seq ?_
  | refine exec_region ?_
  | refine exec_block ?_
  | refine exec_skip ?_
  | refine exec_exit ?_
  | refine exec_ret ?_
  | refine exec_true rfl ?_
  | refine exec_false rfl ?_
  | refine ops_nil ?_
  | (apply ops_pl rfl rfl rfl ?_ rfl ?_; rotate_left; focus first | exact (.bld rfl rfl rfl rfl) | exact (.cat rfl rfl rfl (by first | (simp; done) | (simp; omega))) | exact (.neSelf rfl rfl rfl rfl) | exact (.eqSelf rfl rfl rfl rfl) | exact (.wr64 rfl rfl (by omega) (by omega)) | exact (.p rfl rfl) | exact (.cv64 rfl (fun _ => rfl) (by omega) (by omega)) | exact (.l rfl (fun _ _ => rfl)) | exact (.l rfl (look_own 0 rfl rfl rfl rfl)) | exact (.l rfl (look_own 1 rfl rfl rfl rfl)) | exact (.l rfl (look_own 2 rfl rfl rfl rfl)) | exact (.l rfl (look_own 3 rfl rfl rfl rfl)) | exact (.l rfl (look_own 4 rfl rfl rfl rfl)) | exact (.l rfl (look_own 5 rfl rfl rfl rfl)) | exact (.l rfl (look_agg 0 rfl rfl rfl rfl)) | exact (.l rfl (look_agg 1 rfl rfl rfl rfl)) | exact (.l rfl (look_agg 2 rfl rfl rfl rfl)) | exact (.l rfl (look_agg 3 rfl rfl rfl rfl)) | exact (.l rfl (look_agg 4 rfl rfl rfl rfl)) | exact (.l rfl (look_agg 5 rfl rfl rfl rfl)))
  | refine ops_skip rfl rfl rfl ?_
  | (refine ops_step rfl rfl rfl ?_; first | (refine step_box rfl rfl rfl (fun _ => ?_)) | (refine step_alloc rfl rfl rfl rfl (fun _ => ?_)) | (refine step_buildSlice rfl rfl rfl rfl rfl (fun _ => ?_)) | (refine step_map rfl (fun _ => ?_)) | (refine step_store 0 rfl rfl rfl rfl rfl rfl rfl rfl rfl ?_) | (refine step_store 1 rfl rfl rfl rfl rfl rfl rfl rfl rfl ?_) | (refine step_store 2 rfl rfl rfl rfl rfl rfl rfl rfl rfl ?_) | (refine step_store 3 rfl rfl rfl rfl rfl rfl rfl rfl rfl ?_) | (refine step_store 4 rfl rfl rfl rfl rfl rfl rfl rfl rfl ?_) | (refine step_store 5 rfl rfl rfl rfl rfl rfl rfl rfl rfl ?_)))
  refine exec_loop_step ?_
  repeat (first
  | refine exec_seq ?_
  | refine exec_region ?_
  | refine exec_block ?_
  | refine exec_skip ?_
  | refine exec_exit ?_
  | refine exec_ret ?_
  | refine exec_true rfl ?_
  | refine exec_false rfl ?_
  | refine ops_nil ?_
  | (apply ops_pl rfl rfl rfl ?_ rfl ?_; rotate_left; focus first | exact (.bld rfl rfl rfl rfl) | exact (.cat rfl rfl rfl (by first | (simp; done) | (simp; omega))) | exact (.neSelf rfl rfl rfl rfl) | exact (.eqSelf rfl rfl rfl rfl) | exact (.wr64 rfl rfl (by omega) (by omega)) | exact (.p rfl rfl) | exact (.cv64 rfl (fun _ => rfl) (by omega) (by omega)) | exact (.l rfl (fun _ _ => rfl)) | exact (.l rfl (look_own 0 rfl rfl rfl rfl)) | exact (.l rfl (look_own 1 rfl rfl rfl rfl)) | exact (.l rfl (look_own 2 rfl rfl rfl rfl)) | exact (.l rfl (look_own 3 rfl rfl rfl rfl)) | exact (.l rfl (look_own 4 rfl rfl rfl rfl)) | exact (.l rfl (look_own 5 rfl rfl rfl rfl)) | exact (.l rfl (look_agg 0 rfl rfl rfl rfl)) | exact (.l rfl (look_agg 1 rfl rfl rfl rfl)) | exact (.l rfl (look_agg 2 rfl rfl rfl rfl)) | exact (.l rfl (look_agg 3 rfl rfl rfl rfl)) | exact (.l rfl (look_agg 4 rfl rfl rfl rfl)) | exact (.l rfl (look_agg 5 rfl rfl rfl rfl)))
  | refine ops_skip rfl rfl rfl ?_
  | (refine ops_step rfl rfl rfl ?_; first | (refine step_box rfl rfl rfl (fun _ => ?_)) | (refine step_alloc rfl rfl rfl rfl (fun _ => ?_)) | (refine step_buildSlice rfl rfl rfl rfl rfl (fun _ => ?_)) | (refine step_map rfl (fun _ => ?_)) | (refine step_store 0 rfl rfl rfl rfl rfl rfl rfl rfl rfl ?_) | (refine step_store 1 rfl rfl rfl rfl rfl rfl rfl rfl rfl ?_) | (refine step_store 2 rfl rfl rfl rfl rfl rfl rfl rfl rfl ?_) | (refine step_store 3 rfl rfl rfl rfl rfl rfl rfl rfl rfl ?_) | (refine step_store 4 rfl rfl rfl rfl rfl rfl rfl rfl rfl ?_) | (refine step_store 5 rfl rfl rfl rfl rfl rfl rfl rfl rfl ?_)))
  refine ops_step rfl rfl rfl (step_call_pure rfl rfl rfl (fun H hs => cut_ok hs0) ?_)
  repeat (first
  | refine exec_seq ?_
  | refine exec_region ?_
  | refine exec_block ?_
  | refine exec_skip ?_
  | refine exec_exit ?_
  | refine exec_ret ?_
  | refine exec_true rfl ?_
  | refine exec_false rfl ?_
  | refine ops_nil ?_
  | (apply ops_pl rfl rfl rfl ?_ rfl ?_; rotate_left; focus first | exact (.bld rfl rfl rfl rfl) | exact (.cat rfl rfl rfl (by first | (simp; done) | (simp; omega))) | exact (.neSelf rfl rfl rfl rfl) | exact (.eqSelf rfl rfl rfl rfl) | exact (.wr64 rfl rfl (by omega) (by omega)) | exact (.p rfl rfl) | exact (.cv64 rfl (fun _ => rfl) (by omega) (by omega)) | exact (.l rfl (fun _ _ => rfl)) | exact (.l rfl (look_own 0 rfl rfl rfl rfl)) | exact (.l rfl (look_own 1 rfl rfl rfl rfl)) | exact (.l rfl (look_own 2 rfl rfl rfl rfl)) | exact (.l rfl (look_own 3 rfl rfl rfl rfl)) | exact (.l rfl (look_own 4 rfl rfl rfl rfl)) | exact (.l rfl (look_own 5 rfl rfl rfl rfl)) | exact (.l rfl (look_agg 0 rfl rfl rfl rfl)) | exact (.l rfl (look_agg 1 rfl rfl rfl rfl)) | exact (.l rfl (look_agg 2 rfl rfl rfl rfl)) | exact (.l rfl (look_agg 3 rfl rfl rfl rfl)) | exact (.l rfl (look_agg 4 rfl rfl rfl rfl)) | exact (.l rfl (look_agg 5 rfl rfl rfl rfl)))
  | refine ops_skip rfl rfl rfl ?_
  | (refine ops_step rfl rfl rfl ?_; first | (refine step_box rfl rfl rfl (fun _ => ?_)) | (refine step_alloc rfl rfl rfl rfl (fun _ => ?_)) | (refine step_buildSlice rfl rfl rfl rfl rfl (fun _ => ?_)) | (refine step_map rfl (fun _ => ?_)) | (refine step_store 0 rfl rfl rfl rfl rfl rfl rfl rfl rfl ?_) | (refine step_store 1 rfl rfl rfl rfl rfl rfl rfl rfl rfl ?_) | (refine step_store 2 rfl rfl rfl rfl rfl rfl rfl rfl rfl ?_) | (refine step_store 3 rfl rfl rfl rfl rfl rfl rfl rfl rfl ?_) | (refine step_store 4 rfl rfl rfl rfl rfl rfl rfl rfl rfl ?_) | (refine step_store 5 rfl rfl rfl rfl rfl rfl rfl rfl rfl ?_)))
  refine ops_step rfl rfl rfl (step_call_pure rfl rfl rfl (fun H hs => cutPrefix_ok (s := (cutL s).1) (c := 76)) ?_)
  repeat (first
  | refine exec_seq ?_
  | refine exec_region ?_
  | refine exec_block ?_
  | refine exec_skip ?_
  | refine exec_exit ?_
  | refine exec_ret ?_
  | refine exec_true rfl ?_
  | refine exec_false rfl ?_
  | refine ops_nil ?_
  | (apply ops_pl rfl rfl rfl ?_ rfl ?_; rotate_left; focus first | exact (.bld rfl rfl rfl rfl) | exact (.cat rfl rfl rfl (by first | (simp; done) | (simp; omega))) | exact (.neSelf rfl rfl rfl rfl) | exact (.eqSelf rfl rfl rfl rfl) | exact (.wr64 rfl rfl (by omega) (by omega)) | exact (.p rfl rfl) | exact (.cv64 rfl (fun _ => rfl) (by omega) (by omega)) | exact (.l rfl (fun _ _ => rfl)) | exact (.l rfl (look_own 0 rfl rfl rfl rfl)) | exact (.l rfl (look_own 1 rfl rfl rfl rfl)) | exact (.l rfl (look_own 2 rfl rfl rfl rfl)) | exact (.l rfl (look_own 3 rfl rfl rfl rfl)) | exact (.l rfl (look_own 4 rfl rfl rfl rfl)) | exact (.l rfl (look_own 5 rfl rfl rfl rfl)) | exact (.l rfl (look_agg 0 rfl rfl rfl rfl)) | exact (.l rfl (look_agg 1 rfl rfl rfl rfl)) | exact (.l rfl (look_agg 2 rfl rfl rfl rfl)) | exact (.l rfl (look_agg 3 rfl rfl rfl rfl)) | exact (.l rfl (look_agg 4 rfl rfl rfl rfl)) | exact (.l rfl (look_agg 5 rfl rfl rfl rfl)))
  | refine ops_skip rfl rfl rfl ?_
  | (refine ops_step rfl rfl rfl ?_; first | (refine step_box rfl rfl rfl (fun _ => ?_)) | (refine step_alloc rfl rfl rfl rfl (fun _ => ?_)) | (refine step_buildSlice rfl rfl rfl rfl rfl (fun _ => ?_)) | (refine step_map rfl (fun _ => ?_)) | (refine step_store 0 rfl rfl rfl rfl rfl rfl rfl rfl rfl ?_) | (refine step_store 1 rfl rfl rfl rfl rfl rfl rfl rfl rfl ?_) | (refine step_store 2 rfl rfl rfl rfl rfl rfl rfl rfl rfl ?_) | (refine step_store 3 rfl rfl rfl rfl rfl rfl rfl rfl rfl ?_) | (refine step_store 4 rfl rfl rfl rfl rfl rfl rfl rfl rfl ?_) | (refine step_store 5 rfl rfl rfl rfl rfl rfl rfl rfl rfl ?_)))
  cases hf : (cutL s).2.2
  · repeat (first
    | refine exec_seq ?_
    | refine exec_region ?_
    | refine exec_block ?_
    | refine exec_skip ?_
    | refine exec_exit ?_
    | refine exec_ret ?_
    | refine exec_true rfl ?_
    | refine exec_false rfl ?_
    | refine ops_nil ?_
    | (apply ops_pl rfl rfl rfl ?_ rfl ?_; rotate_left; focus first | exact (.bld rfl rfl rfl rfl) | exact (.cat rfl rfl rfl (by first | (simp; done) | (simp; omega))) | exact (.neSelf rfl rfl rfl rfl) | exact (.eqSelf rfl rfl rfl rfl) | exact (.wr64 rfl rfl (by omega) (by omega)) | exact (.p rfl rfl) | exact (.cv64 rfl (fun _ => rfl) (by omega) (by omega)) | exact (.l rfl (fun _ _ => rfl)) | exact (.l rfl (look_own 0 rfl rfl rfl rfl)) | exact (.l rfl (look_own 1 rfl rfl rfl rfl)) | exact (.l rfl (look_own 2 rfl rfl rfl rfl)) | exact (.l rfl (look_own 3 rfl rfl rfl rfl)) | exact (.l rfl (look_own 4 rfl rfl rfl rfl)) | exact (.l rfl (look_own 5 rfl rfl rfl rfl)) | exact (.l rfl (look_agg 0 rfl rfl rfl rfl)) | exact (.l rfl (look_agg 1 rfl rfl rfl rfl)) | exact (.l rfl (look_agg 2 rfl rfl rfl rfl)) | exact (.l rfl (look_agg 3 rfl rfl rfl rfl)) | exact (.l rfl (look_agg 4 rfl rfl rfl rfl)) | exact (.l rfl (look_agg 5 rfl rfl rfl rfl)))
    | refine ops_skip rfl rfl rfl ?_
    | (refine ops_step rfl rfl rfl ?_; first | (refine step_box rfl rfl rfl (fun _ => ?_)) | (refine step_alloc rfl rfl rfl rfl (fun _ => ?_)) | (refine step_buildSlice rfl rfl rfl rfl rfl (fun _ => ?_)) | (refine step_map rfl (fun _ => ?_)) | (refine step_store 0 rfl rfl rfl rfl rfl rfl rfl rfl rfl ?_) | (refine step_store 1 rfl rfl rfl rfl rfl rfl rfl rfl rfl ?_) | (refine step_store 2 rfl rfl rfl rfl rfl rfl rfl rfl rfl ?_) | (refine step_store 3 rfl rfl rfl rfl rfl rfl rfl rfl rfl ?_) | (refine step_store 4 rfl rfl rfl rfl rfl rfl rfl rfl rfl ?_) | (refine step_store 5 rfl rfl rfl rfl rfl rfl rfl rfl rfl ?_)))
    refine ⟨trivial, [_, _, _], ⟨look_agg 5 rfl rfl rfl rfl, rfl, rfl, trivial⟩, ?_⟩
    rw [show fstC s = ((4, cpL (cutL s).1 76), (cutL s).2.1, (cutL s).2.2 && (decide ((cutL s).1.take 1 = [76]) && nameL (cpL (cutL s).1 76))) from by rw [fstC, if_neg h1, if_neg h2, if_neg h3, if_neg h4], hf]
    rfl
  repeat (first
  | refine exec_seq ?_
  | refine exec_region ?_
  | refine exec_block ?_
  | refine exec_skip ?_
  | refine exec_exit ?_
  | refine exec_ret ?_
  | refine exec_true rfl ?_
  | refine exec_false rfl ?_
  | refine ops_nil ?_
  | (apply ops_pl rfl rfl rfl ?_ rfl ?_; rotate_left; focus first | exact (.bld rfl rfl rfl rfl) | exact (.cat rfl rfl rfl (by first | (simp; done) | (simp; omega))) | exact (.neSelf rfl rfl rfl rfl) | exact (.eqSelf rfl rfl rfl rfl) | exact (.wr64 rfl rfl (by omega) (by omega)) | exact (.p rfl rfl) | exact (.cv64 rfl (fun _ => rfl) (by omega) (by omega)) | exact (.l rfl (fun _ _ => rfl)) | exact (.l rfl (look_own 0 rfl rfl rfl rfl)) | exact (.l rfl (look_own 1 rfl rfl rfl rfl)) | exact (.l rfl (look_own 2 rfl rfl rfl rfl)) | exact (.l rfl (look_own 3 rfl rfl rfl rfl)) | exact (.l rfl (look_own 4 rfl rfl rfl rfl)) | exact (.l rfl (look_own 5 rfl rfl rfl rfl)) | exact (.l rfl (look_agg 0 rfl rfl rfl rfl)) | exact (.l rfl (look_agg 1 rfl rfl rfl rfl)) | exact (.l rfl (look_agg 2 rfl rfl rfl rfl)) | exact (.l rfl (look_agg 3 rfl rfl rfl rfl)) | exact (.l rfl (look_agg 4 rfl rfl rfl rfl)) | exact (.l rfl (look_agg 5 rfl rfl rfl rfl)))
  | refine ops_skip rfl rfl rfl ?_
  | (refine ops_step rfl rfl rfl ?_; first | (refine step_box rfl rfl rfl (fun _ => ?_)) | (refine step_alloc rfl rfl rfl rfl (fun _ => ?_)) | (refine step_buildSlice rfl rfl rfl rfl rfl (fun _ => ?_)) | (refine step_map rfl (fun _ => ?_)) | (refine step_store 0 rfl rfl rfl rfl rfl rfl rfl rfl rfl ?_) | (refine step_store 1 rfl rfl rfl rfl rfl rfl rfl rfl rfl ?_) | (refine step_store 2 rfl rfl rfl rfl rfl rfl rfl rfl rfl ?_) | (refine step_store 3 rfl rfl rfl rfl rfl rfl rfl rfl rfl ?_) | (refine step_store 4 rfl rfl rfl rfl rfl rfl rfl rfl rfl ?_) | (refine step_store 5 rfl rfl rfl rfl rfl rfl rfl rfl rfl ?_)))
  cases hg : decide ((cutL s).1.take 1 = [76])
  · repeat (first
    | refine exec_seq ?_
    | refine exec_region ?_
    | refine exec_block ?_
    | refine exec_skip ?_
    | refine exec_exit ?_
    | refine exec_ret ?_
    | refine exec_true rfl ?_
    | refine exec_false rfl ?_
    | refine ops_nil ?_
    | (apply ops_pl rfl rfl rfl ?_ rfl ?_; rotate_left; focus first | exact (.bld rfl rfl rfl rfl) | exact (.cat rfl rfl rfl (by first | (simp; done) | (simp; omega))) | exact (.neSelf rfl rfl rfl rfl) | exact (.eqSelf rfl rfl rfl rfl) | exact (.wr64 rfl rfl (by omega) (by omega)) | exact (.p rfl rfl) | exact (.cv64 rfl (fun _ => rfl) (by omega) (by omega)) | exact (.l rfl (fun _ _ => rfl)) | exact (.l rfl (look_own 0 rfl rfl rfl rfl)) | exact (.l rfl (look_own 1 rfl rfl rfl rfl)) | exact (.l rfl (look_own 2 rfl rfl rfl rfl)) | exact (.l rfl (look_own 3 rfl rfl rfl rfl)) | exact (.l rfl (look_own 4 rfl rfl rfl rfl)) | exact (.l rfl (look_own 5 rfl rfl rfl rfl)) | exact (.l rfl (look_agg 0 rfl rfl rfl rfl)) | exact (.l rfl (look_agg 1 rfl rfl rfl rfl)) | exact (.l rfl (look_agg 2 rfl rfl rfl rfl)) | exact (.l rfl (look_agg 3 rfl rfl rfl rfl)) | exact (.l rfl (look_agg 4 rfl rfl rfl rfl)) | exact (.l rfl (look_agg 5 rfl rfl rfl rfl)))
    | refine ops_skip rfl rfl rfl ?_
    | (refine ops_step rfl rfl rfl ?_; first | (refine step_box rfl rfl rfl (fun _ => ?_)) | (refine step_alloc rfl rfl rfl rfl (fun _ => ?_)) | (refine step_buildSlice rfl rfl rfl rfl rfl (fun _ => ?_)) | (refine step_map rfl (fun _ => ?_)) | (refine step_store 0 rfl rfl rfl rfl rfl rfl rfl rfl rfl ?_) | (refine step_store 1 rfl rfl rfl rfl rfl rfl rfl rfl rfl ?_) | (refine step_store 2 rfl rfl rfl rfl rfl rfl rfl rfl rfl ?_) | (refine step_store 3 rfl rfl rfl rfl rfl rfl rfl rfl rfl ?_) | (refine step_store 4 rfl rfl rfl rfl rfl rfl rfl rfl rfl ?_) | (refine step_store 5 rfl rfl rfl rfl rfl rfl rfl rfl rfl ?_)))
    refine ⟨trivial, [_, _, _], ⟨look_agg 5 rfl rfl rfl rfl, rfl, rfl, trivial⟩, ?_⟩
    rw [show fstC s = ((4, cpL (cutL s).1 76), (cutL s).2.1, (cutL s).2.2 && (decide ((cutL s).1.take 1 = [76]) && nameL (cpL (cutL s).1 76))) from by rw [fstC, if_neg h1, if_neg h2, if_neg h3, if_neg h4], hf, hg]
    rfl
  repeat (first
  | refine exec_seq ?_
  | refine exec_region ?_
  | refine exec_block ?_
  | refine exec_skip ?_
  | refine exec_exit ?_
  | refine exec_ret ?_
  | refine exec_true rfl ?_
  | refine exec_false rfl ?_
  | refine ops_nil ?_
  | (apply ops_pl rfl rfl rfl ?_ rfl ?_; rotate_left; focus first | exact (.bld rfl rfl rfl rfl) | exact (.cat rfl rfl rfl (by first | (simp; done) | (simp; omega))) | exact (.neSelf rfl rfl rfl rfl) | exact (.eqSelf rfl rfl rfl rfl) | exact (.wr64 rfl rfl (by omega) (by omega)) | exact (.p rfl rfl) | exact (.cv64 rfl (fun _ => rfl) (by omega) (by omega)) | exact (.l rfl (fun _ _ => rfl)) | exact (.l rfl (look_own 0 rfl rfl rfl rfl)) | exact (.l rfl (look_own 1 rfl rfl rfl rfl)) | exact (.l rfl (look_own 2 rfl rfl rfl rfl)) | exact (.l rfl (look_own 3 rfl rfl rfl rfl)) | exact (.l rfl (look_own 4 rfl rfl rfl rfl)) | exact (.l rfl (look_own 5 rfl rfl rfl rfl)) | exact (.l rfl (look_agg 0 rfl rfl rfl rfl)) | exact (.l rfl (look_agg 1 rfl rfl rfl rfl)) | exact (.l rfl (look_agg 2 rfl rfl rfl rfl)) | exact (.l rfl (look_agg 3 rfl rfl rfl rfl)) | exact (.l rfl (look_agg 4 rfl rfl rfl rfl)) | exact (.l rfl (look_agg 5 rfl rfl rfl rfl)))
  | refine ops_skip rfl rfl rfl ?_
  | (refine ops_step rfl rfl rfl ?_; first | (refine step_box rfl rfl rfl (fun _ => ?_)) | (refine step_alloc rfl rfl rfl rfl (fun _ => ?_)) | (refine step_buildSlice rfl rfl rfl rfl rfl (fun _ => ?_)) | (refine step_map rfl (fun _ => ?_)) | (refine step_store 0 rfl rfl rfl rfl rfl rfl rfl rfl rfl ?_) | (refine step_store 1 rfl rfl rfl rfl rfl rfl rfl rfl rfl ?_) | (refine step_store 2 rfl rfl rfl rfl rfl rfl rfl rfl rfl ?_) | (refine step_store 3 rfl rfl rfl rfl rfl rfl rfl rfl rfl ?_) | (refine step_store 4 rfl rfl rfl rfl rfl rfl rfl rfl rfl ?_) | (refine step_store 5 rfl rfl rfl rfl rfl rfl rfl rfl rfl ?_)))
  refine ops_step rfl rfl rfl (step_call_pure rfl rfl rfl (fun H hs => name_ok) ?_)
  repeat (first
  | refine exec_seq ?_
  | refine exec_region ?_
  | refine exec_block ?_
  | refine exec_skip ?_
  | refine exec_exit ?_
  | refine exec_ret ?_
  | refine exec_true rfl ?_
  | refine exec_false rfl ?_
  | refine ops_nil ?_
  | (apply ops_pl rfl rfl rfl ?_ rfl ?_; rotate_left; focus first | exact (.bld rfl rfl rfl rfl) | exact (.cat rfl rfl rfl (by first | (simp; done) | (simp; omega))) | exact (.neSelf rfl rfl rfl rfl) | exact (.eqSelf rfl rfl rfl rfl) | exact (.wr64 rfl rfl (by omega) (by omega)) | exact (.p rfl rfl) | exact (.cv64 rfl (fun _ => rfl) (by omega) (by omega)) | exact (.l rfl (fun _ _ => rfl)) | exact (.l rfl (look_own 0 rfl rfl rfl rfl)) | exact (.l rfl (look_own 1 rfl rfl rfl rfl)) | exact (.l rfl (look_own 2 rfl rfl rfl rfl)) | exact (.l rfl (look_own 3 rfl rfl rfl rfl)) | exact (.l rfl (look_own 4 rfl rfl rfl rfl)) | exact (.l rfl (look_own 5 rfl rfl rfl rfl)) | exact (.l rfl (look_agg 0 rfl rfl rfl rfl)) | exact (.l rfl (look_agg 1 rfl rfl rfl rfl)) | exact (.l rfl (look_agg 2 rfl rfl rfl rfl)) | exact (.l rfl (look_agg 3 rfl rfl rfl rfl)) | exact (.l rfl (look_agg 4 rfl rfl rfl rfl)) | exact (.l rfl (look_agg 5 rfl rfl rfl rfl)))
  | refine ops_skip rfl rfl rfl ?_
  | (refine ops_step rfl rfl rfl ?_; first | (refine step_box rfl rfl rfl (fun _ => ?_)) | (refine step_alloc rfl rfl rfl rfl (fun _ => ?_)) | (refine step_buildSlice rfl rfl rfl rfl rfl (fun _ => ?_)) | (refine step_map rfl (fun _ => ?_)) | (refine step_store 0 rfl rfl rfl rfl rfl rfl rfl rfl rfl ?_) | (refine step_store 1 rfl rfl rfl rfl rfl rfl rfl rfl rfl ?_) | (refine step_store 2 rfl rfl rfl rfl rfl rfl rfl rfl rfl ?_) | (refine step_store 3 rfl rfl rfl rfl rfl rfl rfl rfl rfl ?_) | (refine step_store 4 rfl rfl rfl rfl rfl rfl rfl rfl rfl ?_) | (refine step_store 5 rfl rfl rfl rfl rfl rfl rfl rfl rfl ?_)))
  refine ⟨trivial, [_, _, _], ⟨look_agg 5 rfl rfl rfl rfl, rfl, rfl, trivial⟩, ?_⟩
  rw [show fstC s = ((4, cpL (cutL s).1 76), (cutL s).2.1, (cutL s).2.2 && (decide ((cutL s).1.take 1 = [76]) && nameL (cpL (cutL s).1 76))) from by rw [fstC, if_neg h1, if_neg h2, if_neg h3, if_neg h4], hf, hg]
  rfl

/-- what 'One' says -/
def oneC (s : List UInt8) : (Int × List UInt8) × Bool := if (fstC s).2.2 = true ∧ (fstC s).2.1 = [] then ((fstC s).1, true) else ((0, []), false)

set_option maxHeartbeats 8000000 in
set_option maxRecDepth 100000 in
theorem one_ok {H : Heap} {s : List UInt8} (hs0 : s.length ≤ 1000000) : CallC TT O 13 [str s] H fun v H' => v = .tuple #[typW (oneC s).1, .bool (oneC s).2] ∧ Ext H H' := by
  refine call_pureM rfl rfl rfl rfl rfl ?_
  repeat (first
  | refine exec_seq ?_
  | refine exec_region ?_
  | refine exec_block ?_
  | refine exec_skip ?_
  | refine exec_exit ?_
  | refine exec_ret ?_
  | refine exec_true rfl ?_
  | refine exec_false rfl ?_
  | refine ops_nil ?_
  | (apply ops_pl rfl rfl rfl ?_ rfl ?_; rotate_left; focus first | exact (.bld rfl rfl rfl rfl) | exact (.cat rfl rfl rfl (by first | (simp; done) | (simp; omega))) | exact (.neSelf rfl rfl rfl rfl) | exact (.eqSelf rfl rfl rfl rfl) | exact (.wr64 rfl rfl (by omega) (by omega)) | exact (.p rfl rfl) | exact (.cv64 rfl (fun _ => rfl) (by omega) (by omega)) | exact (.l rfl (fun _ _ => rfl)) | exact (.l rfl (look_own 0 rfl rfl rfl rfl)) | exact (.l rfl (look_own 1 rfl rfl rfl rfl)) | exact (.l rfl (look_own 2 rfl rfl rfl rfl)) | exact (.l rfl (look_own 3 rfl rfl rfl rfl)) | exact (.l rfl (look_own 4 rfl rfl rfl rfl)) | exact (.l rfl (look_own 5 rfl rfl rfl rfl)) | exact (.l rfl (look_agg 0 rfl rfl rfl rfl)) | exact (.l rfl (look_agg 1 rfl rfl rfl rfl)) | exact (.l rfl (look_agg 2 rfl rfl rfl rfl)) | exact (.l rfl (look_agg 3 rfl rfl rfl rfl)) | exact (.l rfl (look_agg 4 rfl rfl rfl rfl)) | exact (.l rfl (look_agg 5 rfl rfl rfl rfl)))
  | refine ops_skip rfl rfl rfl ?_
  | (refine ops_step rfl rfl rfl ?_; first | (refine step_box rfl rfl rfl (fun _ => ?_)) | (refine step_alloc rfl rfl rfl rfl (fun _ => ?_)) | (refine step_buildSlice rfl rfl rfl rfl rfl (fun _ => ?_)) | (refine step_map rfl (fun _ => ?_)) | (refine step_store 0 rfl rfl rfl rfl rfl rfl rfl rfl rfl ?_) | (refine step_store 1 rfl rfl rfl rfl rfl rfl rfl rfl rfl ?_) | (refine step_store 2 rfl rfl rfl rfl rfl rfl rfl rfl rfl ?_) | (refine step_store 3 rfl rfl rfl rfl rfl rfl rfl rfl rfl ?_) | (refine step_store 4 rfl rfl rfl rfl rfl rfl rfl rfl rfl ?_) | (refine step_store 5 rfl rfl rfl rfl rfl rfl rfl rfl rfl ?_)))
  refine ops_step rfl rfl rfl (step_call_pure rfl rfl rfl (fun H hs => first_ok hs0) ?_)
  repeat (first
  | refine exec_seq ?_
  | refine exec_region ?_
  | refine exec_block ?_
  | refine exec_skip ?_
  | refine exec_exit ?_
  | refine exec_ret ?_
  | refine exec_true rfl ?_
  | refine exec_false rfl ?_
  | refine ops_nil ?_
  | (apply ops_pl rfl rfl rfl ?_ rfl ?_; rotate_left; focus first | exact (.bld rfl rfl rfl rfl) | exact (.cat rfl rfl rfl (by first | (simp; done) | (simp; omega))) | exact (.neSelf rfl rfl rfl rfl) | exact (.eqSelf rfl rfl rfl rfl) | exact (.wr64 rfl rfl (by omega) (by omega)) | exact (.p rfl rfl) | exact (.cv64 rfl (fun _ => rfl) (by omega) (by omega)) | exact (.l rfl (fun _ _ => rfl)) | exact (.l rfl (look_own 0 rfl rfl rfl rfl)) | exact (.l rfl (look_own 1 rfl rfl rfl rfl)) | exact (.l rfl (look_own 2 rfl rfl rfl rfl)) | exact (.l rfl (look_own 3 rfl rfl rfl rfl)) | exact (.l rfl (look_own 4 rfl rfl rfl rfl)) | exact (.l rfl (look_own 5 rfl rfl rfl rfl)) | exact (.l rfl (look_agg 0 rfl rfl rfl rfl)) | exact (.l rfl (look_agg 1 rfl rfl rfl rfl)) | exact (.l rfl (look_agg 2 rfl rfl rfl rfl)) | exact (.l rfl (look_agg 3 rfl rfl rfl rfl)) | exact (.l rfl (look_agg 4 rfl rfl rfl rfl)) | exact (.l rfl (look_agg 5 rfl rfl rfl rfl)))
  | refine ops_skip rfl rfl rfl ?_
  | (refine ops_step rfl rfl rfl ?_; first | (refine step_box rfl rfl rfl (fun _ => ?_)) | (refine step_alloc rfl rfl rfl rfl (fun _ => ?_)) | (refine step_buildSlice rfl rfl rfl rfl rfl (fun _ => ?_)) | (refine step_map rfl (fun _ => ?_)) | (refine step_store 0 rfl rfl rfl rfl rfl rfl rfl rfl rfl ?_) | (refine step_store 1 rfl rfl rfl rfl rfl rfl rfl rfl rfl ?_) | (refine step_store 2 rfl rfl rfl rfl rfl rfl rfl rfl rfl ?_) | (refine step_store 3 rfl rfl rfl rfl rfl rfl rfl rfl rfl ?_) | (refine step_store 4 rfl rfl rfl rfl rfl rfl rfl rfl rfl ?_) | (refine step_store 5 rfl rfl rfl rfl rfl rfl rfl rfl rfl ?_)))
  cases hf : (fstC s).2.2
  · repeat (first
    | refine exec_seq ?_
    | refine exec_region ?_
    | refine exec_block ?_
    | refine exec_skip ?_
    | refine exec_exit ?_
    | refine exec_ret ?_
    | refine exec_true rfl ?_
    | refine exec_false rfl ?_
    | refine ops_nil ?_
    | (apply ops_pl rfl rfl rfl ?_ rfl ?_; rotate_left; focus first | exact (.bld rfl rfl rfl rfl) | exact (.cat rfl rfl rfl (by first | (simp; done) | (simp; omega))) | exact (.neSelf rfl rfl rfl rfl) | exact (.eqSelf rfl rfl rfl rfl) | exact (.wr64 rfl rfl (by omega) (by omega)) | exact (.p rfl rfl) | exact (.cv64 rfl (fun _ => rfl) (by omega) (by omega)) | exact (.l rfl (fun _ _ => rfl)) | exact (.l rfl (look_own 0 rfl rfl rfl rfl)) | exact (.l rfl (look_own 1 rfl rfl rfl rfl)) | exact (.l rfl (look_own 2 rfl rfl rfl rfl)) | exact (.l rfl (look_own 3 rfl rfl rfl rfl)) | exact (.l rfl (look_own 4 rfl rfl rfl rfl)) | exact (.l rfl (look_own 5 rfl rfl rfl rfl)) | exact (.l rfl (look_agg 0 rfl rfl rfl rfl)) | exact (.l rfl (look_agg 1 rfl rfl rfl rfl)) | exact (.l rfl (look_agg 2 rfl rfl rfl rfl)) | exact (.l rfl (look_agg 3 rfl rfl rfl rfl)) | exact (.l rfl (look_agg 4 rfl rfl rfl rfl)) | exact (.l rfl (look_agg 5 rfl rfl rfl rfl)))
    | refine ops_skip rfl rfl rfl ?_
    | (refine ops_step rfl rfl rfl ?_; first | (refine step_box rfl rfl rfl (fun _ => ?_)) | (refine step_alloc rfl rfl rfl rfl (fun _ => ?_)) | (refine step_buildSlice rfl rfl rfl rfl rfl (fun _ => ?_)) | (refine step_map rfl (fun _ => ?_)) | (refine step_store 0 rfl rfl rfl rfl rfl rfl rfl rfl rfl ?_) | (refine step_store 1 rfl rfl rfl rfl rfl rfl rfl rfl rfl ?_) | (refine step_store 2 rfl rfl rfl rfl rfl rfl rfl rfl rfl ?_) | (refine step_store 3 rfl rfl rfl rfl rfl rfl rfl rfl rfl ?_) | (refine step_store 4 rfl rfl rfl rfl rfl rfl rfl rfl rfl ?_) | (refine step_store 5 rfl rfl rfl rfl rfl rfl rfl rfl rfl ?_)))
    refine ⟨trivial, [_, _], ⟨look_agg 1 rfl rfl rfl rfl, rfl, trivial⟩, ?_⟩
    rw [oneC, if_neg (by rw [hf]; simp)]
    rfl
  · repeat (first
    | refine exec_seq ?_
    | refine exec_region ?_
    | refine exec_block ?_
    | refine exec_skip ?_
    | refine exec_exit ?_
    | refine exec_ret ?_
    | refine exec_true rfl ?_
    | refine exec_false rfl ?_
    | refine ops_nil ?_
    | (apply ops_pl rfl rfl rfl ?_ rfl ?_; rotate_left; focus first | exact (.bld rfl rfl rfl rfl) | exact (.cat rfl rfl rfl (by first | (simp; done) | (simp; omega))) | exact (.neSelf rfl rfl rfl rfl) | exact (.eqSelf rfl rfl rfl rfl) | exact (.wr64 rfl rfl (by omega) (by omega)) | exact (.p rfl rfl) | exact (.cv64 rfl (fun _ => rfl) (by omega) (by omega)) | exact (.l rfl (fun _ _ => rfl)) | exact (.l rfl (look_own 0 rfl rfl rfl rfl)) | exact (.l rfl (look_own 1 rfl rfl rfl rfl)) | exact (.l rfl (look_own 2 rfl rfl rfl rfl)) | exact (.l rfl (look_own 3 rfl rfl rfl rfl)) | exact (.l rfl (look_own 4 rfl rfl rfl rfl)) | exact (.l rfl (look_own 5 rfl rfl rfl rfl)) | exact (.l rfl (look_agg 0 rfl rfl rfl rfl)) | exact (.l rfl (look_agg 1 rfl rfl rfl rfl)) | exact (.l rfl (look_agg 2 rfl rfl rfl rfl)) | exact (.l rfl (look_agg 3 rfl rfl rfl rfl)) | exact (.l rfl (look_agg 4 rfl rfl rfl rfl)) | exact (.l rfl (look_agg 5 rfl rfl rfl rfl)))
    | refine ops_skip rfl rfl rfl ?_
    | (refine ops_step rfl rfl rfl ?_; first | (refine step_box rfl rfl rfl (fun _ => ?_)) | (refine step_alloc rfl rfl rfl rfl (fun _ => ?_)) | (refine step_buildSlice rfl rfl rfl rfl rfl (fun _ => ?_)) | (refine step_map rfl (fun _ => ?_)) | (refine step_store 0 rfl rfl rfl rfl rfl rfl rfl rfl rfl ?_) | (refine step_store 1 rfl rfl rfl rfl rfl rfl rfl rfl rfl ?_) | (refine step_store 2 rfl rfl rfl rfl rfl rfl rfl rfl rfl ?_) | (refine step_store 3 rfl rfl rfl rfl rfl rfl rfl rfl rfl ?_) | (refine step_store 4 rfl rfl rfl rfl rfl rfl rfl rfl rfl ?_) | (refine step_store 5 rfl rfl rfl rfl rfl rfl rfl rfl rfl ?_)))
    refine exec_cond rfl (fun hne => ?_) (fun heq => ?_)
    · repeat (first
      | refine exec_seq ?_
      | refine exec_region ?_
      | refine exec_block ?_
      | refine exec_skip ?_
      | refine exec_exit ?_
      | refine exec_ret ?_
      | refine exec_true rfl ?_
      | refine exec_false rfl ?_
      | refine ops_nil ?_
      | (apply ops_pl rfl rfl rfl ?_ rfl ?_; rotate_left; focus first | exact (.bld rfl rfl rfl rfl) | exact (.cat rfl rfl rfl (by first | (simp; done) | (simp; omega))) | exact (.neSelf rfl rfl rfl rfl) | exact (.eqSelf rfl rfl rfl rfl) | exact (.wr64 rfl rfl (by omega) (by omega)) | exact (.p rfl rfl) | exact (.cv64 rfl (fun _ => rfl) (by omega) (by omega)) | exact (.l rfl (fun _ _ => rfl)) | exact (.l rfl (look_own 0 rfl rfl rfl rfl)) | exact (.l rfl (look_own 1 rfl rfl rfl rfl)) | exact (.l rfl (look_own 2 rfl rfl rfl rfl)) | exact (.l rfl (look_own 3 rfl rfl rfl rfl)) | exact (.l rfl (look_own 4 rfl rfl rfl rfl)) | exact (.l rfl (look_own 5 rfl rfl rfl rfl)) | exact (.l rfl (look_agg 0 rfl rfl rfl rfl)) | exact (.l rfl (look_agg 1 rfl rfl rfl rfl)) | exact (.l rfl (look_agg 2 rfl rfl rfl rfl)) | exact (.l rfl (look_agg 3 rfl rfl rfl rfl)) | exact (.l rfl (look_agg 4 rfl rfl rfl rfl)) | exact (.l rfl (look_agg 5 rfl rfl rfl rfl)))
      | refine ops_skip rfl rfl rfl ?_
      | (refine ops_step rfl rfl rfl ?_; first | (refine step_box rfl rfl rfl (fun _ => ?_)) | (refine step_alloc rfl rfl rfl rfl (fun _ => ?_)) | (refine step_buildSlice rfl rfl rfl rfl rfl (fun _ => ?_)) | (refine step_map rfl (fun _ => ?_)) | (refine step_store 0 rfl rfl rfl rfl rfl rfl rfl rfl rfl ?_) | (refine step_store 1 rfl rfl rfl rfl rfl rfl rfl rfl rfl ?_) | (refine step_store 2 rfl rfl rfl rfl rfl rfl rfl rfl rfl ?_) | (refine step_store 3 rfl rfl rfl rfl rfl rfl rfl rfl rfl ?_) | (refine step_store 4 rfl rfl rfl rfl rfl rfl rfl rfl rfl ?_) | (refine step_store 5 rfl rfl rfl rfl rfl rfl rfl rfl rfl ?_)))
      refine ⟨trivial, [_, _], ⟨look_agg 1 rfl rfl rfl rfl, rfl, trivial⟩, ?_⟩
      have hne : ¬ (fstC s).2.1 = [] := by intro h; rw [h] at hne; simp at hne
      rw [oneC, if_neg (fun h => hne h.2)]
      rfl
    · repeat (first
      | refine exec_seq ?_
      | refine exec_region ?_
      | refine exec_block ?_
      | refine exec_skip ?_
      | refine exec_exit ?_
      | refine exec_ret ?_
      | refine exec_true rfl ?_
      | refine exec_false rfl ?_
      | refine ops_nil ?_
      | (apply ops_pl rfl rfl rfl ?_ rfl ?_; rotate_left; focus first | exact (.bld rfl rfl rfl rfl) | exact (.cat rfl rfl rfl (by first | (simp; done) | (simp; omega))) | exact (.neSelf rfl rfl rfl rfl) | exact (.eqSelf rfl rfl rfl rfl) | exact (.wr64 rfl rfl (by omega) (by omega)) | exact (.p rfl rfl) | exact (.cv64 rfl (fun _ => rfl) (by omega) (by omega)) | exact (.l rfl (fun _ _ => rfl)) | exact (.l rfl (look_own 0 rfl rfl rfl rfl)) | exact (.l rfl (look_own 1 rfl rfl rfl rfl)) | exact (.l rfl (look_own 2 rfl rfl rfl rfl)) | exact (.l rfl (look_own 3 rfl rfl rfl rfl)) | exact (.l rfl (look_own 4 rfl rfl rfl rfl)) | exact (.l rfl (look_own 5 rfl rfl rfl rfl)) | exact (.l rfl (look_agg 0 rfl rfl rfl rfl)) | exact (.l rfl (look_agg 1 rfl rfl rfl rfl)) | exact (.l rfl (look_agg 2 rfl rfl rfl rfl)) | exact (.l rfl (look_agg 3 rfl rfl rfl rfl)) | exact (.l rfl (look_agg 4 rfl rfl rfl rfl)) | exact (.l rfl (look_agg 5 rfl rfl rfl rfl)))
      | refine ops_skip rfl rfl rfl ?_
      | (refine ops_step rfl rfl rfl ?_; first | (refine step_box rfl rfl rfl (fun _ => ?_)) | (refine step_alloc rfl rfl rfl rfl (fun _ => ?_)) | (refine step_buildSlice rfl rfl rfl rfl rfl (fun _ => ?_)) | (refine step_map rfl (fun _ => ?_)) | (refine step_store 0 rfl rfl rfl rfl rfl rfl rfl rfl rfl ?_) | (refine step_store 1 rfl rfl rfl rfl rfl rfl rfl rfl rfl ?_) | (refine step_store 2 rfl rfl rfl rfl rfl rfl rfl rfl rfl ?_) | (refine step_store 3 rfl rfl rfl rfl rfl rfl rfl rfl rfl ?_) | (refine step_store 4 rfl rfl rfl rfl rfl rfl rfl rfl rfl ?_) | (refine step_store 5 rfl rfl rfl rfl rfl rfl rfl rfl rfl ?_)))
      refine ⟨trivial, [_, _], ⟨look_agg 1 rfl rfl rfl rfl, rfl, trivial⟩, ?_⟩
      have heq : (fstC s).2.1 = [] := by simpa using heq
      rw [oneC, if_pos ⟨hf, heq⟩]
      rfl
end Go.Proofs.Ytceoheliineobaa

