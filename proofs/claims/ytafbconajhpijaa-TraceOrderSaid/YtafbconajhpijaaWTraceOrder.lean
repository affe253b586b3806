/-
  'bonsailaw17.TraceOrder' is true at every input: the walk.
-/
import Derived.Test.YtafbconajhpijaaWTrace2
namespace Go.Proofs.Ytafbconajhpijaa
open Go.Ev Go.Ev.Wk
set_option linter.unusedVariables false
set_option linter.unusedSimpArgs false
variable {O : Old}

theorem pre_take {l : List (List UInt8)} {x y : Nat} (hx : x ≤ l.length) (hy : y ≤ l.length) : pre (l.take x) (l.take y) = decide ((x : Int) ≤ (y : Int)) := by
  unfold pre
  rw [decide_eq_decide, List.length_take, Nat.min_eq_left hx, List.take_take]
  constructor
  · intro h
    have := congrArg List.length h
    simp at this
    omega
  · intro h
    rw [Nat.min_eq_left (by omega)]

theorem pre_snoc {l : List (List UInt8)} {x y : Nat} {w : List UInt8} (hx : x ≤ l.length) (hy : y < x) : pre (l.take y ++ [w]) (l.take x) = ((l.take x)[y]'(by simp; omega) == w) := by
  unfold pre
  have h1 : (l.take y ++ [w]).length = y + 1 := by simp; omega
  have h2 : (l.take x).take (y + 1) = l.take y ++ [(l.take x)[y]'(by simp; omega)] := by
    rw [List.take_take, Nat.min_eq_left (by omega)]
    rw [List.take_succ_eq_append_getElem (by omega)]
    simp
  rw [h1, h2]
  generalize (l.take x)[y]'(by simp; omega) = v
  simp only [List.append_cancel_left_eq, List.cons.injEq, and_true]
  by_cases h : v = w
  · simp [h]
  · have h3 : (v == w) = false := by simpa using h
    rw [h3]
    simp
    exact fun e => h e.symm

set_option maxHeartbeats 8000000 in
set_option maxRecDepth 100000 in
theorem traceOrder_walk {al : Option Addr} {n cl : Nat} {l : List (List UInt8)} (hl : ∀ H, Sl O H (.slice al n cl) 1 n (l.map str)) {a b c : Int} (ha : 0 ≤ a ∧ a ≤ 255) (hb : 0 ≤ b ∧ b ≤ 255) (hc : 0 ≤ c ∧ c ≤ 255) :
    CallC TT O 5 [.slice al n cl, .int .u8 a, .int .u8 b, .int .u8 c] .empty fun v H' => v = .bool true ∧ Ext .empty H' := by
  have hln : l.length = n := by have := (hl .empty).1; simpa using this
  refine call_pure rfl rfl rfl rfl rfl ?_
  repeat (first
      | refine exec_seq ?_
      | refine exec_region ?_
      | refine exec_block ?_
      | refine exec_skip ?_
      | refine exec_exit ?_
      | refine exec_ret ?_
      | refine exec_true rfl ?_
      | refine exec_false rfl ?_
      | refine ops_nil ?_
      | refine ops_pl rfl rfl rfl (.wr64 rfl rfl (by omega) (by omega)) rfl ?_
      | refine ops_pl rfl rfl rfl (.wr8 rfl rfl (by omega) (by omega)) rfl ?_
      | refine ops_pl rfl rfl rfl (.p rfl rfl) rfl ?_
      | refine ops_pl rfl rfl rfl (.cv64 rfl (fun _ => rfl) (by omega) (by omega)) rfl ?_
      | refine ops_pl rfl rfl rfl (.cv8 rfl (fun _ => rfl) (by omega) (by omega)) rfl ?_
      | refine ops_pl rfl rfl rfl (.l rfl (fun _ _ => rfl)) rfl ?_
      | refine ops_pl rfl rfl rfl (.l rfl (look_own 0 rfl rfl rfl rfl)) rfl ?_
      | refine ops_pl rfl rfl rfl (.l rfl (look_own 1 rfl rfl rfl rfl)) rfl ?_
      | refine ops_pl rfl rfl rfl (.l rfl (look_own 2 rfl rfl rfl rfl)) rfl ?_
      | refine ops_pl rfl rfl rfl (.l rfl (look_own 3 rfl rfl rfl rfl)) rfl ?_
      | refine ops_pl rfl rfl rfl (.l rfl (look_own 4 rfl rfl rfl rfl)) rfl ?_
      | refine ops_pl rfl rfl rfl (.l rfl (look_own 5 rfl rfl rfl rfl)) rfl ?_
      | refine ops_pl rfl rfl rfl (.l rfl (look_own 6 rfl rfl rfl rfl)) rfl ?_
      | refine ops_pl rfl rfl rfl (.l rfl (look_own 7 rfl rfl rfl rfl)) rfl ?_
      | refine ops_pl rfl rfl rfl (.l rfl (look_agg 0 rfl rfl rfl rfl)) rfl ?_
      | refine ops_pl rfl rfl rfl (.l rfl (look_agg 1 rfl rfl rfl rfl)) rfl ?_
      | refine ops_pl rfl rfl rfl (.l rfl (look_agg 2 rfl rfl rfl rfl)) rfl ?_
      | refine ops_pl rfl rfl rfl (.l rfl (look_agg 3 rfl rfl rfl rfl)) rfl ?_
      | refine ops_pl rfl rfl rfl (.l rfl (look_agg 4 rfl rfl rfl rfl)) rfl ?_
      | refine ops_pl rfl rfl rfl (.l rfl (look_agg 5 rfl rfl rfl rfl)) rfl ?_
      | refine ops_pl rfl rfl rfl (.l rfl (look_agg 6 rfl rfl rfl rfl)) rfl ?_
      | refine ops_pl rfl rfl rfl (.l rfl (look_agg 7 rfl rfl rfl rfl)) rfl ?_
      | refine ops_skip rfl rfl rfl ?_
      | (refine ops_step rfl rfl rfl ?_; first | (refine step_box rfl rfl rfl (fun _ => ?_)) | (refine step_alloc rfl rfl rfl rfl (fun _ => ?_)) | (refine step_buildSlice rfl rfl rfl rfl rfl (fun _ => ?_)) | (refine step_store 0 rfl rfl rfl rfl rfl rfl rfl rfl rfl ?_) | (refine step_store 1 rfl rfl rfl rfl rfl rfl rfl rfl rfl ?_) | (refine step_store 2 rfl rfl rfl rfl rfl rfl rfl rfl rfl ?_) | (refine step_store 3 rfl rfl rfl rfl rfl rfl rfl rfl rfl ?_) | (refine step_store 4 rfl rfl rfl rfl rfl rfl rfl rfl rfl ?_) | (refine step_store 5 rfl rfl rfl rfl rfl rfl rfl rfl rfl ?_) | (refine step_store 6 rfl rfl rfl rfl rfl rfl rfl rfl rfl ?_) | (refine step_store 7 rfl rfl rfl rfl rfl rfl rfl rfl rfl ?_)))
  refine ops_step rfl rfl rfl (step_call_pure rfl rfl rfl (fun H hs => call_known rfl) ?_)
  repeat (first
      | refine exec_seq ?_
      | refine exec_region ?_
      | refine exec_block ?_
      | refine exec_skip ?_
      | refine exec_exit ?_
      | refine exec_ret ?_
      | refine exec_true rfl ?_
      | refine exec_false rfl ?_
      | refine ops_nil ?_
      | refine ops_pl rfl rfl rfl (.wr64 rfl rfl (by omega) (by omega)) rfl ?_
      | refine ops_pl rfl rfl rfl (.wr8 rfl rfl (by omega) (by omega)) rfl ?_
      | refine ops_pl rfl rfl rfl (.p rfl rfl) rfl ?_
      | refine ops_pl rfl rfl rfl (.cv64 rfl (fun _ => rfl) (by omega) (by omega)) rfl ?_
      | refine ops_pl rfl rfl rfl (.cv8 rfl (fun _ => rfl) (by omega) (by omega)) rfl ?_
      | refine ops_pl rfl rfl rfl (.l rfl (fun _ _ => rfl)) rfl ?_
      | refine ops_pl rfl rfl rfl (.l rfl (look_own 0 rfl rfl rfl rfl)) rfl ?_
      | refine ops_pl rfl rfl rfl (.l rfl (look_own 1 rfl rfl rfl rfl)) rfl ?_
      | refine ops_pl rfl rfl rfl (.l rfl (look_own 2 rfl rfl rfl rfl)) rfl ?_
      | refine ops_pl rfl rfl rfl (.l rfl (look_own 3 rfl rfl rfl rfl)) rfl ?_
      | refine ops_pl rfl rfl rfl (.l rfl (look_own 4 rfl rfl rfl rfl)) rfl ?_
      | refine ops_pl rfl rfl rfl (.l rfl (look_own 5 rfl rfl rfl rfl)) rfl ?_
      | refine ops_pl rfl rfl rfl (.l rfl (look_own 6 rfl rfl rfl rfl)) rfl ?_
      | refine ops_pl rfl rfl rfl (.l rfl (look_own 7 rfl rfl rfl rfl)) rfl ?_
      | refine ops_pl rfl rfl rfl (.l rfl (look_agg 0 rfl rfl rfl rfl)) rfl ?_
      | refine ops_pl rfl rfl rfl (.l rfl (look_agg 1 rfl rfl rfl rfl)) rfl ?_
      | refine ops_pl rfl rfl rfl (.l rfl (look_agg 2 rfl rfl rfl rfl)) rfl ?_
      | refine ops_pl rfl rfl rfl (.l rfl (look_agg 3 rfl rfl rfl rfl)) rfl ?_
      | refine ops_pl rfl rfl rfl (.l rfl (look_agg 4 rfl rfl rfl rfl)) rfl ?_
      | refine ops_pl rfl rfl rfl (.l rfl (look_agg 5 rfl rfl rfl rfl)) rfl ?_
      | refine ops_pl rfl rfl rfl (.l rfl (look_agg 6 rfl rfl rfl rfl)) rfl ?_
      | refine ops_pl rfl rfl rfl (.l rfl (look_agg 7 rfl rfl rfl rfl)) rfl ?_
      | refine ops_skip rfl rfl rfl ?_
      | (refine ops_step rfl rfl rfl ?_; first | (refine step_box rfl rfl rfl (fun _ => ?_)) | (refine step_alloc rfl rfl rfl rfl (fun _ => ?_)) | (refine step_buildSlice rfl rfl rfl rfl rfl (fun _ => ?_)) | (refine step_store 0 rfl rfl rfl rfl rfl rfl rfl rfl rfl ?_) | (refine step_store 1 rfl rfl rfl rfl rfl rfl rfl rfl rfl ?_) | (refine step_store 2 rfl rfl rfl rfl rfl rfl rfl rfl rfl ?_) | (refine step_store 3 rfl rfl rfl rfl rfl rfl rfl rfl rfl ?_) | (refine step_store 4 rfl rfl rfl rfl rfl rfl rfl rfl rfl ?_) | (refine step_store 5 rfl rfl rfl rfl rfl rfl rfl rfl rfl ?_) | (refine step_store 6 rfl rfl rfl rfl rfl rfl rfl rfl rfl ?_) | (refine step_store 7 rfl rfl rfl rfl rfl rfl rfl rfl rfl ?_)))
  refine exec_cond rfl (fun hgt => ?_) (fun hle => ?_)
  · repeat (first
        | refine exec_seq ?_
        | refine exec_region ?_
        | refine exec_block ?_
        | refine exec_skip ?_
        | refine exec_exit ?_
        | refine exec_ret ?_
        | refine exec_true rfl ?_
        | refine exec_false rfl ?_
        | refine ops_nil ?_
        | refine ops_pl rfl rfl rfl (.wr64 rfl rfl (by omega) (by omega)) rfl ?_
        | refine ops_pl rfl rfl rfl (.wr8 rfl rfl (by omega) (by omega)) rfl ?_
        | refine ops_pl rfl rfl rfl (.p rfl rfl) rfl ?_
        | refine ops_pl rfl rfl rfl (.cv64 rfl (fun _ => rfl) (by omega) (by omega)) rfl ?_
        | refine ops_pl rfl rfl rfl (.cv8 rfl (fun _ => rfl) (by omega) (by omega)) rfl ?_
        | refine ops_pl rfl rfl rfl (.l rfl (fun _ _ => rfl)) rfl ?_
        | refine ops_pl rfl rfl rfl (.l rfl (look_own 0 rfl rfl rfl rfl)) rfl ?_
        | refine ops_pl rfl rfl rfl (.l rfl (look_own 1 rfl rfl rfl rfl)) rfl ?_
        | refine ops_pl rfl rfl rfl (.l rfl (look_own 2 rfl rfl rfl rfl)) rfl ?_
        | refine ops_pl rfl rfl rfl (.l rfl (look_own 3 rfl rfl rfl rfl)) rfl ?_
        | refine ops_pl rfl rfl rfl (.l rfl (look_own 4 rfl rfl rfl rfl)) rfl ?_
        | refine ops_pl rfl rfl rfl (.l rfl (look_own 5 rfl rfl rfl rfl)) rfl ?_
        | refine ops_pl rfl rfl rfl (.l rfl (look_own 6 rfl rfl rfl rfl)) rfl ?_
        | refine ops_pl rfl rfl rfl (.l rfl (look_own 7 rfl rfl rfl rfl)) rfl ?_
        | refine ops_pl rfl rfl rfl (.l rfl (look_agg 0 rfl rfl rfl rfl)) rfl ?_
        | refine ops_pl rfl rfl rfl (.l rfl (look_agg 1 rfl rfl rfl rfl)) rfl ?_
        | refine ops_pl rfl rfl rfl (.l rfl (look_agg 2 rfl rfl rfl rfl)) rfl ?_
        | refine ops_pl rfl rfl rfl (.l rfl (look_agg 3 rfl rfl rfl rfl)) rfl ?_
        | refine ops_pl rfl rfl rfl (.l rfl (look_agg 4 rfl rfl rfl rfl)) rfl ?_
        | refine ops_pl rfl rfl rfl (.l rfl (look_agg 5 rfl rfl rfl rfl)) rfl ?_
        | refine ops_pl rfl rfl rfl (.l rfl (look_agg 6 rfl rfl rfl rfl)) rfl ?_
        | refine ops_pl rfl rfl rfl (.l rfl (look_agg 7 rfl rfl rfl rfl)) rfl ?_
        | refine ops_skip rfl rfl rfl ?_
        | (refine ops_step rfl rfl rfl ?_; first | (refine step_box rfl rfl rfl (fun _ => ?_)) | (refine step_alloc rfl rfl rfl rfl (fun _ => ?_)) | (refine step_buildSlice rfl rfl rfl rfl rfl (fun _ => ?_)) | (refine step_store 0 rfl rfl rfl rfl rfl rfl rfl rfl rfl ?_) | (refine step_store 1 rfl rfl rfl rfl rfl rfl rfl rfl rfl ?_) | (refine step_store 2 rfl rfl rfl rfl rfl rfl rfl rfl rfl ?_) | (refine step_store 3 rfl rfl rfl rfl rfl rfl rfl rfl rfl ?_) | (refine step_store 4 rfl rfl rfl rfl rfl rfl rfl rfl rfl ?_) | (refine step_store 5 rfl rfl rfl rfl rfl rfl rfl rfl rfl ?_) | (refine step_store 6 rfl rfl rfl rfl rfl rfl rfl rfl rfl ?_) | (refine step_store 7 rfl rfl rfl rfl rfl rfl rfl rfl rfl ?_)))
    exact ⟨trivial, _, rfl, rfl⟩
  have hn : n ≤ 20 := by simp at hle; omega
  obtain ⟨ha1, ha2⟩ := ha
  obtain ⟨hb1, hb2⟩ := hb
  obtain ⟨hc1, hc2⟩ := hc
  repeat (first
      | refine exec_seq ?_
      | refine exec_region ?_
      | refine exec_block ?_
      | refine exec_skip ?_
      | refine exec_exit ?_
      | refine exec_ret ?_
      | refine exec_true rfl ?_
      | refine exec_false rfl ?_
      | refine ops_nil ?_
      | refine ops_pl rfl rfl rfl (.wr64 rfl rfl (by omega) (by omega)) rfl ?_
      | refine ops_pl rfl rfl rfl (.wr8 rfl rfl (by omega) (by omega)) rfl ?_
      | refine ops_pl rfl rfl rfl (.p rfl rfl) rfl ?_
      | refine ops_pl rfl rfl rfl (.cv64 rfl (fun _ => rfl) (by omega) (by omega)) rfl ?_
      | refine ops_pl rfl rfl rfl (.cv8 rfl (fun _ => rfl) (by omega) (by omega)) rfl ?_
      | refine ops_pl rfl rfl rfl (.l rfl (fun _ _ => rfl)) rfl ?_
      | refine ops_pl rfl rfl rfl (.l rfl (look_own 0 rfl rfl rfl rfl)) rfl ?_
      | refine ops_pl rfl rfl rfl (.l rfl (look_own 1 rfl rfl rfl rfl)) rfl ?_
      | refine ops_pl rfl rfl rfl (.l rfl (look_own 2 rfl rfl rfl rfl)) rfl ?_
      | refine ops_pl rfl rfl rfl (.l rfl (look_own 3 rfl rfl rfl rfl)) rfl ?_
      | refine ops_pl rfl rfl rfl (.l rfl (look_own 4 rfl rfl rfl rfl)) rfl ?_
      | refine ops_pl rfl rfl rfl (.l rfl (look_own 5 rfl rfl rfl rfl)) rfl ?_
      | refine ops_pl rfl rfl rfl (.l rfl (look_own 6 rfl rfl rfl rfl)) rfl ?_
      | refine ops_pl rfl rfl rfl (.l rfl (look_own 7 rfl rfl rfl rfl)) rfl ?_
      | refine ops_pl rfl rfl rfl (.l rfl (look_agg 0 rfl rfl rfl rfl)) rfl ?_
      | refine ops_pl rfl rfl rfl (.l rfl (look_agg 1 rfl rfl rfl rfl)) rfl ?_
      | refine ops_pl rfl rfl rfl (.l rfl (look_agg 2 rfl rfl rfl rfl)) rfl ?_
      | refine ops_pl rfl rfl rfl (.l rfl (look_agg 3 rfl rfl rfl rfl)) rfl ?_
      | refine ops_pl rfl rfl rfl (.l rfl (look_agg 4 rfl rfl rfl rfl)) rfl ?_
      | refine ops_pl rfl rfl rfl (.l rfl (look_agg 5 rfl rfl rfl rfl)) rfl ?_
      | refine ops_pl rfl rfl rfl (.l rfl (look_agg 6 rfl rfl rfl rfl)) rfl ?_
      | refine ops_pl rfl rfl rfl (.l rfl (look_agg 7 rfl rfl rfl rfl)) rfl ?_
      | refine ops_skip rfl rfl rfl ?_
      | (refine ops_step rfl rfl rfl ?_; first | (refine step_box rfl rfl rfl (fun _ => ?_)) | (refine step_alloc rfl rfl rfl rfl (fun _ => ?_)) | (refine step_buildSlice rfl rfl rfl rfl rfl (fun _ => ?_)) | (refine step_store 0 rfl rfl rfl rfl rfl rfl rfl rfl rfl ?_) | (refine step_store 1 rfl rfl rfl rfl rfl rfl rfl rfl rfl ?_) | (refine step_store 2 rfl rfl rfl rfl rfl rfl rfl rfl rfl ?_) | (refine step_store 3 rfl rfl rfl rfl rfl rfl rfl rfl rfl ?_) | (refine step_store 4 rfl rfl rfl rfl rfl rfl rfl rfl rfl ?_) | (refine step_store 5 rfl rfl rfl rfl rfl rfl rfl rfl rfl ?_) | (refine step_store 6 rfl rfl rfl rfl rfl rfl rfl rfl rfl ?_) | (refine step_store 7 rfl rfl rfl rfl rfl rfl rfl rfl rfl ?_)))
  refine exec_draw (lst := [0, 1, 2, 3, 4, 5, 6, 7, 8, 9, 10, 11, 12, 13, 14, 15, 16, 17, 18, 19, 20, 21, 22, 23, 24, 25, 26]) (full := 134217727) (by kernel_rfl) (by kernel_rfl) (by kernel_rfl) ?_
  repeat (first
      | refine draw_pl rfl rfl rfl rfl rfl (.wr64 rfl rfl (by omega) (by omega)) rfl ?_
      | refine draw_pl rfl rfl rfl rfl rfl (.wr8 rfl rfl (by omega) (by omega)) rfl ?_
      | refine draw_pl rfl rfl rfl rfl rfl (.p rfl rfl) rfl ?_
      | refine draw_pl rfl rfl rfl rfl rfl (.cv64 rfl (fun _ => rfl) (by omega) (by omega)) rfl ?_
      | refine draw_pl rfl rfl rfl rfl rfl (.cv8 rfl (fun _ => rfl) (by omega) (by omega)) rfl ?_
      | refine draw_pl rfl rfl rfl rfl rfl (.l rfl (fun _ _ => rfl)) rfl ?_
      | refine draw_pl rfl rfl rfl rfl rfl (.l rfl (look_own 0 rfl rfl rfl rfl)) rfl ?_
      | refine draw_pl rfl rfl rfl rfl rfl (.l rfl (look_own 1 rfl rfl rfl rfl)) rfl ?_
      | refine draw_pl rfl rfl rfl rfl rfl (.l rfl (look_own 2 rfl rfl rfl rfl)) rfl ?_
      | refine draw_pl rfl rfl rfl rfl rfl (.l rfl (look_own 3 rfl rfl rfl rfl)) rfl ?_
      | refine draw_pl rfl rfl rfl rfl rfl (.l rfl (look_own 4 rfl rfl rfl rfl)) rfl ?_
      | refine draw_pl rfl rfl rfl rfl rfl (.l rfl (look_own 5 rfl rfl rfl rfl)) rfl ?_
      | refine draw_pl rfl rfl rfl rfl rfl (.l rfl (look_own 6 rfl rfl rfl rfl)) rfl ?_
      | refine draw_pl rfl rfl rfl rfl rfl (.l rfl (look_own 7 rfl rfl rfl rfl)) rfl ?_
      | refine draw_pl rfl rfl rfl rfl rfl (.l rfl (look_agg 0 rfl rfl rfl rfl)) rfl ?_
      | refine draw_pl rfl rfl rfl rfl rfl (.l rfl (look_agg 1 rfl rfl rfl rfl)) rfl ?_
      | refine draw_pl rfl rfl rfl rfl rfl (.l rfl (look_agg 2 rfl rfl rfl rfl)) rfl ?_
      | refine draw_pl rfl rfl rfl rfl rfl (.l rfl (look_agg 3 rfl rfl rfl rfl)) rfl ?_
      | refine draw_pl rfl rfl rfl rfl rfl (.l rfl (look_agg 4 rfl rfl rfl rfl)) rfl ?_
      | refine draw_pl rfl rfl rfl rfl rfl (.l rfl (look_agg 5 rfl rfl rfl rfl)) rfl ?_
      | refine draw_pl rfl rfl rfl rfl rfl (.l rfl (look_agg 6 rfl rfl rfl rfl)) rfl ?_
      | refine draw_pl rfl rfl rfl rfl rfl (.l rfl (look_agg 7 rfl rfl rfl rfl)) rfl ?_
      | refine draw_skip rfl rfl rfl rfl rfl ?_
      | refine draw_nil rfl ?_)
  rw [tmodN (m := n + 1) (by omega) (by omega)]
  generalize hx : a.toNat % (n + 1) = x
  have hxn : x ≤ n := by have := Nat.mod_lt a.toNat (show 0 < n + 1 by omega); omega
  first | refine ops_pl rfl rfl rfl (.l rfl (look_cut0 (h := x) rfl rfl rfl rfl (by omega) rfl (by omega) (fun H hs => hl H) rfl rfl (by omega))) rfl ?_ | refine draw_pl rfl rfl rfl rfl rfl (.l rfl (look_cut0 (h := x) rfl rfl rfl rfl (by omega) rfl (by omega) (fun H hs => hl H) rfl rfl (by omega))) rfl ?_
  repeat (first
      | refine draw_pl rfl rfl rfl rfl rfl (.wr64 rfl rfl (by omega) (by omega)) rfl ?_
      | refine draw_pl rfl rfl rfl rfl rfl (.wr8 rfl rfl (by omega) (by omega)) rfl ?_
      | refine draw_pl rfl rfl rfl rfl rfl (.p rfl rfl) rfl ?_
      | refine draw_pl rfl rfl rfl rfl rfl (.cv64 rfl (fun _ => rfl) (by omega) (by omega)) rfl ?_
      | refine draw_pl rfl rfl rfl rfl rfl (.cv8 rfl (fun _ => rfl) (by omega) (by omega)) rfl ?_
      | refine draw_pl rfl rfl rfl rfl rfl (.l rfl (fun _ _ => rfl)) rfl ?_
      | refine draw_pl rfl rfl rfl rfl rfl (.l rfl (look_own 0 rfl rfl rfl rfl)) rfl ?_
      | refine draw_pl rfl rfl rfl rfl rfl (.l rfl (look_own 1 rfl rfl rfl rfl)) rfl ?_
      | refine draw_pl rfl rfl rfl rfl rfl (.l rfl (look_own 2 rfl rfl rfl rfl)) rfl ?_
      | refine draw_pl rfl rfl rfl rfl rfl (.l rfl (look_own 3 rfl rfl rfl rfl)) rfl ?_
      | refine draw_pl rfl rfl rfl rfl rfl (.l rfl (look_own 4 rfl rfl rfl rfl)) rfl ?_
      | refine draw_pl rfl rfl rfl rfl rfl (.l rfl (look_own 5 rfl rfl rfl rfl)) rfl ?_
      | refine draw_pl rfl rfl rfl rfl rfl (.l rfl (look_own 6 rfl rfl rfl rfl)) rfl ?_
      | refine draw_pl rfl rfl rfl rfl rfl (.l rfl (look_own 7 rfl rfl rfl rfl)) rfl ?_
      | refine draw_pl rfl rfl rfl rfl rfl (.l rfl (look_agg 0 rfl rfl rfl rfl)) rfl ?_
      | refine draw_pl rfl rfl rfl rfl rfl (.l rfl (look_agg 1 rfl rfl rfl rfl)) rfl ?_
      | refine draw_pl rfl rfl rfl rfl rfl (.l rfl (look_agg 2 rfl rfl rfl rfl)) rfl ?_
      | refine draw_pl rfl rfl rfl rfl rfl (.l rfl (look_agg 3 rfl rfl rfl rfl)) rfl ?_
      | refine draw_pl rfl rfl rfl rfl rfl (.l rfl (look_agg 4 rfl rfl rfl rfl)) rfl ?_
      | refine draw_pl rfl rfl rfl rfl rfl (.l rfl (look_agg 5 rfl rfl rfl rfl)) rfl ?_
      | refine draw_pl rfl rfl rfl rfl rfl (.l rfl (look_agg 6 rfl rfl rfl rfl)) rfl ?_
      | refine draw_pl rfl rfl rfl rfl rfl (.l rfl (look_agg 7 rfl rfl rfl rfl)) rfl ?_
      | refine draw_skip rfl rfl rfl rfl rfl ?_
      | refine draw_nil rfl ?_)
  rw [tmodN (m := n + 1) (by omega) (by omega)]
  generalize hy : b.toNat % (n + 1) = y
  have hyn : y ≤ n := by have := Nat.mod_lt b.toNat (show 0 < n + 1 by omega); omega
  first | refine ops_pl rfl rfl rfl (.l rfl (look_cut0 (h := y) rfl rfl rfl rfl (by omega) rfl (by omega) (fun H hs => hl H) rfl rfl (by omega))) rfl ?_ | refine draw_pl rfl rfl rfl rfl rfl (.l rfl (look_cut0 (h := y) rfl rfl rfl rfl (by omega) rfl (by omega) (fun H hs => hl H) rfl rfl (by omega))) rfl ?_
  repeat (first
      | refine draw_pl rfl rfl rfl rfl rfl (.wr64 rfl rfl (by omega) (by omega)) rfl ?_
      | refine draw_pl rfl rfl rfl rfl rfl (.wr8 rfl rfl (by omega) (by omega)) rfl ?_
      | refine draw_pl rfl rfl rfl rfl rfl (.p rfl rfl) rfl ?_
      | refine draw_pl rfl rfl rfl rfl rfl (.cv64 rfl (fun _ => rfl) (by omega) (by omega)) rfl ?_
      | refine draw_pl rfl rfl rfl rfl rfl (.cv8 rfl (fun _ => rfl) (by omega) (by omega)) rfl ?_
      | refine draw_pl rfl rfl rfl rfl rfl (.l rfl (fun _ _ => rfl)) rfl ?_
      | refine draw_pl rfl rfl rfl rfl rfl (.l rfl (look_own 0 rfl rfl rfl rfl)) rfl ?_
      | refine draw_pl rfl rfl rfl rfl rfl (.l rfl (look_own 1 rfl rfl rfl rfl)) rfl ?_
      | refine draw_pl rfl rfl rfl rfl rfl (.l rfl (look_own 2 rfl rfl rfl rfl)) rfl ?_
      | refine draw_pl rfl rfl rfl rfl rfl (.l rfl (look_own 3 rfl rfl rfl rfl)) rfl ?_
      | refine draw_pl rfl rfl rfl rfl rfl (.l rfl (look_own 4 rfl rfl rfl rfl)) rfl ?_
      | refine draw_pl rfl rfl rfl rfl rfl (.l rfl (look_own 5 rfl rfl rfl rfl)) rfl ?_
      | refine draw_pl rfl rfl rfl rfl rfl (.l rfl (look_own 6 rfl rfl rfl rfl)) rfl ?_
      | refine draw_pl rfl rfl rfl rfl rfl (.l rfl (look_own 7 rfl rfl rfl rfl)) rfl ?_
      | refine draw_pl rfl rfl rfl rfl rfl (.l rfl (look_agg 0 rfl rfl rfl rfl)) rfl ?_
      | refine draw_pl rfl rfl rfl rfl rfl (.l rfl (look_agg 1 rfl rfl rfl rfl)) rfl ?_
      | refine draw_pl rfl rfl rfl rfl rfl (.l rfl (look_agg 2 rfl rfl rfl rfl)) rfl ?_
      | refine draw_pl rfl rfl rfl rfl rfl (.l rfl (look_agg 3 rfl rfl rfl rfl)) rfl ?_
      | refine draw_pl rfl rfl rfl rfl rfl (.l rfl (look_agg 4 rfl rfl rfl rfl)) rfl ?_
      | refine draw_pl rfl rfl rfl rfl rfl (.l rfl (look_agg 5 rfl rfl rfl rfl)) rfl ?_
      | refine draw_pl rfl rfl rfl rfl rfl (.l rfl (look_agg 6 rfl rfl rfl rfl)) rfl ?_
      | refine draw_pl rfl rfl rfl rfl rfl (.l rfl (look_agg 7 rfl rfl rfl rfl)) rfl ?_
      | refine draw_skip rfl rfl rfl rfl rfl ?_
      | refine draw_nil rfl ?_)
  rw [tmodN (m := n + 1) (by omega) (by omega)]
  generalize hz : c.toNat % (n + 1) = z
  have hzn : z ≤ n := by have := Nat.mod_lt c.toNat (show 0 < n + 1 by omega); omega
  first | refine ops_pl rfl rfl rfl (.l rfl (look_cut0 (h := z) rfl rfl rfl rfl (by omega) rfl (by omega) (fun H hs => hl H) rfl rfl (by omega))) rfl ?_ | refine draw_pl rfl rfl rfl rfl rfl (.l rfl (look_cut0 (h := z) rfl rfl rfl rfl (by omega) rfl (by omega) (fun H hs => hl H) rfl rfl (by omega))) rfl ?_
  repeat (first
      | refine draw_pl rfl rfl rfl rfl rfl (.wr64 rfl rfl (by omega) (by omega)) rfl ?_
      | refine draw_pl rfl rfl rfl rfl rfl (.wr8 rfl rfl (by omega) (by omega)) rfl ?_
      | refine draw_pl rfl rfl rfl rfl rfl (.p rfl rfl) rfl ?_
      | refine draw_pl rfl rfl rfl rfl rfl (.cv64 rfl (fun _ => rfl) (by omega) (by omega)) rfl ?_
      | refine draw_pl rfl rfl rfl rfl rfl (.cv8 rfl (fun _ => rfl) (by omega) (by omega)) rfl ?_
      | refine draw_pl rfl rfl rfl rfl rfl (.l rfl (fun _ _ => rfl)) rfl ?_
      | refine draw_pl rfl rfl rfl rfl rfl (.l rfl (look_own 0 rfl rfl rfl rfl)) rfl ?_
      | refine draw_pl rfl rfl rfl rfl rfl (.l rfl (look_own 1 rfl rfl rfl rfl)) rfl ?_
      | refine draw_pl rfl rfl rfl rfl rfl (.l rfl (look_own 2 rfl rfl rfl rfl)) rfl ?_
      | refine draw_pl rfl rfl rfl rfl rfl (.l rfl (look_own 3 rfl rfl rfl rfl)) rfl ?_
      | refine draw_pl rfl rfl rfl rfl rfl (.l rfl (look_own 4 rfl rfl rfl rfl)) rfl ?_
      | refine draw_pl rfl rfl rfl rfl rfl (.l rfl (look_own 5 rfl rfl rfl rfl)) rfl ?_
      | refine draw_pl rfl rfl rfl rfl rfl (.l rfl (look_own 6 rfl rfl rfl rfl)) rfl ?_
      | refine draw_pl rfl rfl rfl rfl rfl (.l rfl (look_own 7 rfl rfl rfl rfl)) rfl ?_
      | refine draw_pl rfl rfl rfl rfl rfl (.l rfl (look_agg 0 rfl rfl rfl rfl)) rfl ?_
      | refine draw_pl rfl rfl rfl rfl rfl (.l rfl (look_agg 1 rfl rfl rfl rfl)) rfl ?_
      | refine draw_pl rfl rfl rfl rfl rfl (.l rfl (look_agg 2 rfl rfl rfl rfl)) rfl ?_
      | refine draw_pl rfl rfl rfl rfl rfl (.l rfl (look_agg 3 rfl rfl rfl rfl)) rfl ?_
      | refine draw_pl rfl rfl rfl rfl rfl (.l rfl (look_agg 4 rfl rfl rfl rfl)) rfl ?_
      | refine draw_pl rfl rfl rfl rfl rfl (.l rfl (look_agg 5 rfl rfl rfl rfl)) rfl ?_
      | refine draw_pl rfl rfl rfl rfl rfl (.l rfl (look_agg 6 rfl rfl rfl rfl)) rfl ?_
      | refine draw_pl rfl rfl rfl rfl rfl (.l rfl (look_agg 7 rfl rfl rfl rfl)) rfl ?_
      | refine draw_skip rfl rfl rfl rfl rfl ?_
      | refine draw_nil rfl ?_)
  have sx := fun H => (hl H).cutM0 hxn
  have sy := fun H => (hl H).cutM0 hyn
  have sz := fun H => (hl H).cutM0 hzn
  repeat (first
      | refine exec_seq ?_
      | refine exec_region ?_
      | refine exec_block ?_
      | refine exec_skip ?_
      | refine exec_exit ?_
      | refine exec_ret ?_
      | refine exec_true rfl ?_
      | refine exec_false rfl ?_
      | refine ops_nil ?_
      | refine ops_pl rfl rfl rfl (.wr64 rfl rfl (by omega) (by omega)) rfl ?_
      | refine ops_pl rfl rfl rfl (.wr8 rfl rfl (by omega) (by omega)) rfl ?_
      | refine ops_pl rfl rfl rfl (.p rfl rfl) rfl ?_
      | refine ops_pl rfl rfl rfl (.cv64 rfl (fun _ => rfl) (by omega) (by omega)) rfl ?_
      | refine ops_pl rfl rfl rfl (.cv8 rfl (fun _ => rfl) (by omega) (by omega)) rfl ?_
      | refine ops_pl rfl rfl rfl (.l rfl (fun _ _ => rfl)) rfl ?_
      | refine ops_pl rfl rfl rfl (.l rfl (look_own 0 rfl rfl rfl rfl)) rfl ?_
      | refine ops_pl rfl rfl rfl (.l rfl (look_own 1 rfl rfl rfl rfl)) rfl ?_
      | refine ops_pl rfl rfl rfl (.l rfl (look_own 2 rfl rfl rfl rfl)) rfl ?_
      | refine ops_pl rfl rfl rfl (.l rfl (look_own 3 rfl rfl rfl rfl)) rfl ?_
      | refine ops_pl rfl rfl rfl (.l rfl (look_own 4 rfl rfl rfl rfl)) rfl ?_
      | refine ops_pl rfl rfl rfl (.l rfl (look_own 5 rfl rfl rfl rfl)) rfl ?_
      | refine ops_pl rfl rfl rfl (.l rfl (look_own 6 rfl rfl rfl rfl)) rfl ?_
      | refine ops_pl rfl rfl rfl (.l rfl (look_own 7 rfl rfl rfl rfl)) rfl ?_
      | refine ops_pl rfl rfl rfl (.l rfl (look_agg 0 rfl rfl rfl rfl)) rfl ?_
      | refine ops_pl rfl rfl rfl (.l rfl (look_agg 1 rfl rfl rfl rfl)) rfl ?_
      | refine ops_pl rfl rfl rfl (.l rfl (look_agg 2 rfl rfl rfl rfl)) rfl ?_
      | refine ops_pl rfl rfl rfl (.l rfl (look_agg 3 rfl rfl rfl rfl)) rfl ?_
      | refine ops_pl rfl rfl rfl (.l rfl (look_agg 4 rfl rfl rfl rfl)) rfl ?_
      | refine ops_pl rfl rfl rfl (.l rfl (look_agg 5 rfl rfl rfl rfl)) rfl ?_
      | refine ops_pl rfl rfl rfl (.l rfl (look_agg 6 rfl rfl rfl rfl)) rfl ?_
      | refine ops_pl rfl rfl rfl (.l rfl (look_agg 7 rfl rfl rfl rfl)) rfl ?_
      | refine ops_skip rfl rfl rfl ?_
      | (refine ops_step rfl rfl rfl ?_; first | (refine step_box rfl rfl rfl (fun _ => ?_)) | (refine step_alloc rfl rfl rfl rfl (fun _ => ?_)) | (refine step_buildSlice rfl rfl rfl rfl rfl (fun _ => ?_)) | (refine step_store 0 rfl rfl rfl rfl rfl rfl rfl rfl rfl ?_) | (refine step_store 1 rfl rfl rfl rfl rfl rfl rfl rfl rfl ?_) | (refine step_store 2 rfl rfl rfl rfl rfl rfl rfl rfl rfl ?_) | (refine step_store 3 rfl rfl rfl rfl rfl rfl rfl rfl rfl ?_) | (refine step_store 4 rfl rfl rfl rfl rfl rfl rfl rfl rfl ?_) | (refine step_store 5 rfl rfl rfl rfl rfl rfl rfl rfl rfl ?_) | (refine step_store 6 rfl rfl rfl rfl rfl rfl rfl rfl rfl ?_) | (refine step_store 7 rfl rfl rfl rfl rfl rfl rfl rfl rfl ?_)))
  refine OpsS.ghost ?_
  refine ops_step rfl rfl rfl (step_append 0 1 rfl rfl rfl rfl rfl rfl rfl rfl (.nil _) (fun H hs => (sy H).src) rfl (by first | rfl | exact allCell_map (fun _ => rfl) _) (by first | rfl | (simp; done) | (simp; omega)) (by omega) (fun a1 c1 p1 own1 => ?_))
  repeat (first
      | refine exec_seq ?_
      | refine exec_region ?_
      | refine exec_block ?_
      | refine exec_skip ?_
      | refine exec_exit ?_
      | refine exec_ret ?_
      | refine exec_true rfl ?_
      | refine exec_false rfl ?_
      | refine ops_nil ?_
      | refine ops_pl rfl rfl rfl (.wr64 rfl rfl (by omega) (by omega)) rfl ?_
      | refine ops_pl rfl rfl rfl (.wr8 rfl rfl (by omega) (by omega)) rfl ?_
      | refine ops_pl rfl rfl rfl (.p rfl rfl) rfl ?_
      | refine ops_pl rfl rfl rfl (.cv64 rfl (fun _ => rfl) (by omega) (by omega)) rfl ?_
      | refine ops_pl rfl rfl rfl (.cv8 rfl (fun _ => rfl) (by omega) (by omega)) rfl ?_
      | refine ops_pl rfl rfl rfl (.l rfl (fun _ _ => rfl)) rfl ?_
      | refine ops_pl rfl rfl rfl (.l rfl (look_own 0 rfl rfl rfl rfl)) rfl ?_
      | refine ops_pl rfl rfl rfl (.l rfl (look_own 1 rfl rfl rfl rfl)) rfl ?_
      | refine ops_pl rfl rfl rfl (.l rfl (look_own 2 rfl rfl rfl rfl)) rfl ?_
      | refine ops_pl rfl rfl rfl (.l rfl (look_own 3 rfl rfl rfl rfl)) rfl ?_
      | refine ops_pl rfl rfl rfl (.l rfl (look_own 4 rfl rfl rfl rfl)) rfl ?_
      | refine ops_pl rfl rfl rfl (.l rfl (look_own 5 rfl rfl rfl rfl)) rfl ?_
      | refine ops_pl rfl rfl rfl (.l rfl (look_own 6 rfl rfl rfl rfl)) rfl ?_
      | refine ops_pl rfl rfl rfl (.l rfl (look_own 7 rfl rfl rfl rfl)) rfl ?_
      | refine ops_pl rfl rfl rfl (.l rfl (look_agg 0 rfl rfl rfl rfl)) rfl ?_
      | refine ops_pl rfl rfl rfl (.l rfl (look_agg 1 rfl rfl rfl rfl)) rfl ?_
      | refine ops_pl rfl rfl rfl (.l rfl (look_agg 2 rfl rfl rfl rfl)) rfl ?_
      | refine ops_pl rfl rfl rfl (.l rfl (look_agg 3 rfl rfl rfl rfl)) rfl ?_
      | refine ops_pl rfl rfl rfl (.l rfl (look_agg 4 rfl rfl rfl rfl)) rfl ?_
      | refine ops_pl rfl rfl rfl (.l rfl (look_agg 5 rfl rfl rfl rfl)) rfl ?_
      | refine ops_pl rfl rfl rfl (.l rfl (look_agg 6 rfl rfl rfl rfl)) rfl ?_
      | refine ops_pl rfl rfl rfl (.l rfl (look_agg 7 rfl rfl rfl rfl)) rfl ?_
      | refine ops_skip rfl rfl rfl ?_
      | (refine ops_step rfl rfl rfl ?_; first | (refine step_box rfl rfl rfl (fun _ => ?_)) | (refine step_alloc rfl rfl rfl rfl (fun _ => ?_)) | (refine step_buildSlice rfl rfl rfl rfl rfl (fun _ => ?_)) | (refine step_store 0 rfl rfl rfl rfl rfl rfl rfl rfl rfl ?_) | (refine step_store 1 rfl rfl rfl rfl rfl rfl rfl rfl rfl ?_) | (refine step_store 2 rfl rfl rfl rfl rfl rfl rfl rfl rfl ?_) | (refine step_store 3 rfl rfl rfl rfl rfl rfl rfl rfl rfl ?_) | (refine step_store 4 rfl rfl rfl rfl rfl rfl rfl rfl rfl ?_) | (refine step_store 5 rfl rfl rfl rfl rfl rfl rfl rfl rfl ?_) | (refine step_store 6 rfl rfl rfl rfl rfl rfl rfl rfl rfl ?_) | (refine step_store 7 rfl rfl rfl rfl rfl rfl rfl rfl rfl ?_)))
  refine ops_step rfl rfl rfl (step_append 1 1 rfl rfl rfl rfl rfl rfl rfl rfl own1 (fun H hs => src_own (j := 0) hs rfl rfl 1) rfl (by first | rfl | exact allCell_map (fun _ => rfl) _) (by first | rfl | (simp; done) | (simp; omega)) (by omega) (fun a2 c2 p2 own2 => ?_))
  repeat (first
      | refine exec_seq ?_
      | refine exec_region ?_
      | refine exec_block ?_
      | refine exec_skip ?_
      | refine exec_exit ?_
      | refine exec_ret ?_
      | refine exec_true rfl ?_
      | refine exec_false rfl ?_
      | refine ops_nil ?_
      | refine ops_pl rfl rfl rfl (.wr64 rfl rfl (by omega) (by omega)) rfl ?_
      | refine ops_pl rfl rfl rfl (.wr8 rfl rfl (by omega) (by omega)) rfl ?_
      | refine ops_pl rfl rfl rfl (.p rfl rfl) rfl ?_
      | refine ops_pl rfl rfl rfl (.cv64 rfl (fun _ => rfl) (by omega) (by omega)) rfl ?_
      | refine ops_pl rfl rfl rfl (.cv8 rfl (fun _ => rfl) (by omega) (by omega)) rfl ?_
      | refine ops_pl rfl rfl rfl (.l rfl (fun _ _ => rfl)) rfl ?_
      | refine ops_pl rfl rfl rfl (.l rfl (look_own 0 rfl rfl rfl rfl)) rfl ?_
      | refine ops_pl rfl rfl rfl (.l rfl (look_own 1 rfl rfl rfl rfl)) rfl ?_
      | refine ops_pl rfl rfl rfl (.l rfl (look_own 2 rfl rfl rfl rfl)) rfl ?_
      | refine ops_pl rfl rfl rfl (.l rfl (look_own 3 rfl rfl rfl rfl)) rfl ?_
      | refine ops_pl rfl rfl rfl (.l rfl (look_own 4 rfl rfl rfl rfl)) rfl ?_
      | refine ops_pl rfl rfl rfl (.l rfl (look_own 5 rfl rfl rfl rfl)) rfl ?_
      | refine ops_pl rfl rfl rfl (.l rfl (look_own 6 rfl rfl rfl rfl)) rfl ?_
      | refine ops_pl rfl rfl rfl (.l rfl (look_own 7 rfl rfl rfl rfl)) rfl ?_
      | refine ops_pl rfl rfl rfl (.l rfl (look_agg 0 rfl rfl rfl rfl)) rfl ?_
      | refine ops_pl rfl rfl rfl (.l rfl (look_agg 1 rfl rfl rfl rfl)) rfl ?_
      | refine ops_pl rfl rfl rfl (.l rfl (look_agg 2 rfl rfl rfl rfl)) rfl ?_
      | refine ops_pl rfl rfl rfl (.l rfl (look_agg 3 rfl rfl rfl rfl)) rfl ?_
      | refine ops_pl rfl rfl rfl (.l rfl (look_agg 4 rfl rfl rfl rfl)) rfl ?_
      | refine ops_pl rfl rfl rfl (.l rfl (look_agg 5 rfl rfl rfl rfl)) rfl ?_
      | refine ops_pl rfl rfl rfl (.l rfl (look_agg 6 rfl rfl rfl rfl)) rfl ?_
      | refine ops_pl rfl rfl rfl (.l rfl (look_agg 7 rfl rfl rfl rfl)) rfl ?_
      | refine ops_skip rfl rfl rfl ?_
      | (refine ops_step rfl rfl rfl ?_; first | (refine step_box rfl rfl rfl (fun _ => ?_)) | (refine step_alloc rfl rfl rfl rfl (fun _ => ?_)) | (refine step_buildSlice rfl rfl rfl rfl rfl (fun _ => ?_)) | (refine step_store 0 rfl rfl rfl rfl rfl rfl rfl rfl rfl ?_) | (refine step_store 1 rfl rfl rfl rfl rfl rfl rfl rfl rfl ?_) | (refine step_store 2 rfl rfl rfl rfl rfl rfl rfl rfl rfl ?_) | (refine step_store 3 rfl rfl rfl rfl rfl rfl rfl rfl rfl ?_) | (refine step_store 4 rfl rfl rfl rfl rfl rfl rfl rfl rfl ?_) | (refine step_store 5 rfl rfl rfl rfl rfl rfl rfl rfl rfl ?_) | (refine step_store 6 rfl rfl rfl rfl rfl rfl rfl rfl rfl ?_) | (refine step_store 7 rfl rfl rfl rfl rfl rfl rfl rfl rfl ?_)))
  generalize hp : (l.take y ++ [[111, 116, 104, 101, 114]]) = lp
  have hpl : ∀ {L : Atoms} {H : Heap}, St [] Heap.empty H L → L[1]? = some p2 → Sl O H (.slice a2 (0 + y + 1) c2) 1 (0 + y + 1) (lp.map str) := fun hs hi => (own2.sl hs hi).cast (by subst hp; simp) rfl
  refine ops_step rfl rfl rfl (step_call_pure rfl rfl rfl (fun H hs => callB_eq (r' := true) (by rw [pre_take (by omega) (by omega)]; simp) (prefixP_ok (sx H) (sx H) (by omega))) ?_)
  repeat (first
      | refine exec_seq ?_
      | refine exec_region ?_
      | refine exec_block ?_
      | refine exec_skip ?_
      | refine exec_exit ?_
      | refine exec_ret ?_
      | refine exec_true rfl ?_
      | refine exec_false rfl ?_
      | refine ops_nil ?_
      | refine ops_pl rfl rfl rfl (.wr64 rfl rfl (by omega) (by omega)) rfl ?_
      | refine ops_pl rfl rfl rfl (.wr8 rfl rfl (by omega) (by omega)) rfl ?_
      | refine ops_pl rfl rfl rfl (.p rfl rfl) rfl ?_
      | refine ops_pl rfl rfl rfl (.cv64 rfl (fun _ => rfl) (by omega) (by omega)) rfl ?_
      | refine ops_pl rfl rfl rfl (.cv8 rfl (fun _ => rfl) (by omega) (by omega)) rfl ?_
      | refine ops_pl rfl rfl rfl (.l rfl (fun _ _ => rfl)) rfl ?_
      | refine ops_pl rfl rfl rfl (.l rfl (look_own 0 rfl rfl rfl rfl)) rfl ?_
      | refine ops_pl rfl rfl rfl (.l rfl (look_own 1 rfl rfl rfl rfl)) rfl ?_
      | refine ops_pl rfl rfl rfl (.l rfl (look_own 2 rfl rfl rfl rfl)) rfl ?_
      | refine ops_pl rfl rfl rfl (.l rfl (look_own 3 rfl rfl rfl rfl)) rfl ?_
      | refine ops_pl rfl rfl rfl (.l rfl (look_own 4 rfl rfl rfl rfl)) rfl ?_
      | refine ops_pl rfl rfl rfl (.l rfl (look_own 5 rfl rfl rfl rfl)) rfl ?_
      | refine ops_pl rfl rfl rfl (.l rfl (look_own 6 rfl rfl rfl rfl)) rfl ?_
      | refine ops_pl rfl rfl rfl (.l rfl (look_own 7 rfl rfl rfl rfl)) rfl ?_
      | refine ops_pl rfl rfl rfl (.l rfl (look_agg 0 rfl rfl rfl rfl)) rfl ?_
      | refine ops_pl rfl rfl rfl (.l rfl (look_agg 1 rfl rfl rfl rfl)) rfl ?_
      | refine ops_pl rfl rfl rfl (.l rfl (look_agg 2 rfl rfl rfl rfl)) rfl ?_
      | refine ops_pl rfl rfl rfl (.l rfl (look_agg 3 rfl rfl rfl rfl)) rfl ?_
      | refine ops_pl rfl rfl rfl (.l rfl (look_agg 4 rfl rfl rfl rfl)) rfl ?_
      | refine ops_pl rfl rfl rfl (.l rfl (look_agg 5 rfl rfl rfl rfl)) rfl ?_
      | refine ops_pl rfl rfl rfl (.l rfl (look_agg 6 rfl rfl rfl rfl)) rfl ?_
      | refine ops_pl rfl rfl rfl (.l rfl (look_agg 7 rfl rfl rfl rfl)) rfl ?_
      | refine ops_skip rfl rfl rfl ?_
      | (refine ops_step rfl rfl rfl ?_; first | (refine step_box rfl rfl rfl (fun _ => ?_)) | (refine step_alloc rfl rfl rfl rfl (fun _ => ?_)) | (refine step_buildSlice rfl rfl rfl rfl rfl (fun _ => ?_)) | (refine step_store 0 rfl rfl rfl rfl rfl rfl rfl rfl rfl ?_) | (refine step_store 1 rfl rfl rfl rfl rfl rfl rfl rfl rfl ?_) | (refine step_store 2 rfl rfl rfl rfl rfl rfl rfl rfl rfl ?_) | (refine step_store 3 rfl rfl rfl rfl rfl rfl rfl rfl rfl ?_) | (refine step_store 4 rfl rfl rfl rfl rfl rfl rfl rfl rfl ?_) | (refine step_store 5 rfl rfl rfl rfl rfl rfl rfl rfl rfl ?_) | (refine step_store 6 rfl rfl rfl rfl rfl rfl rfl rfl rfl ?_) | (refine step_store 7 rfl rfl rfl rfl rfl rfl rfl rfl rfl ?_)))
  refine ops_step rfl rfl rfl (step_call_pure rfl rfl rfl (fun H hs => callB_eq (r' := decide ((x : Int) ≤ (y : Int))) (pre_take (by omega) (by omega)) (prefixP_ok (sx H) (sy H) (by omega))) ?_)
  repeat (first
      | refine exec_seq ?_
      | refine exec_region ?_
      | refine exec_block ?_
      | refine exec_skip ?_
      | refine exec_exit ?_
      | refine exec_ret ?_
      | refine exec_true rfl ?_
      | refine exec_false rfl ?_
      | refine ops_nil ?_
      | refine ops_pl rfl rfl rfl (.wr64 rfl rfl (by omega) (by omega)) rfl ?_
      | refine ops_pl rfl rfl rfl (.wr8 rfl rfl (by omega) (by omega)) rfl ?_
      | refine ops_pl rfl rfl rfl (.p rfl rfl) rfl ?_
      | refine ops_pl rfl rfl rfl (.cv64 rfl (fun _ => rfl) (by omega) (by omega)) rfl ?_
      | refine ops_pl rfl rfl rfl (.cv8 rfl (fun _ => rfl) (by omega) (by omega)) rfl ?_
      | refine ops_pl rfl rfl rfl (.l rfl (fun _ _ => rfl)) rfl ?_
      | refine ops_pl rfl rfl rfl (.l rfl (look_own 0 rfl rfl rfl rfl)) rfl ?_
      | refine ops_pl rfl rfl rfl (.l rfl (look_own 1 rfl rfl rfl rfl)) rfl ?_
      | refine ops_pl rfl rfl rfl (.l rfl (look_own 2 rfl rfl rfl rfl)) rfl ?_
      | refine ops_pl rfl rfl rfl (.l rfl (look_own 3 rfl rfl rfl rfl)) rfl ?_
      | refine ops_pl rfl rfl rfl (.l rfl (look_own 4 rfl rfl rfl rfl)) rfl ?_
      | refine ops_pl rfl rfl rfl (.l rfl (look_own 5 rfl rfl rfl rfl)) rfl ?_
      | refine ops_pl rfl rfl rfl (.l rfl (look_own 6 rfl rfl rfl rfl)) rfl ?_
      | refine ops_pl rfl rfl rfl (.l rfl (look_own 7 rfl rfl rfl rfl)) rfl ?_
      | refine ops_pl rfl rfl rfl (.l rfl (look_agg 0 rfl rfl rfl rfl)) rfl ?_
      | refine ops_pl rfl rfl rfl (.l rfl (look_agg 1 rfl rfl rfl rfl)) rfl ?_
      | refine ops_pl rfl rfl rfl (.l rfl (look_agg 2 rfl rfl rfl rfl)) rfl ?_
      | refine ops_pl rfl rfl rfl (.l rfl (look_agg 3 rfl rfl rfl rfl)) rfl ?_
      | refine ops_pl rfl rfl rfl (.l rfl (look_agg 4 rfl rfl rfl rfl)) rfl ?_
      | refine ops_pl rfl rfl rfl (.l rfl (look_agg 5 rfl rfl rfl rfl)) rfl ?_
      | refine ops_pl rfl rfl rfl (.l rfl (look_agg 6 rfl rfl rfl rfl)) rfl ?_
      | refine ops_pl rfl rfl rfl (.l rfl (look_agg 7 rfl rfl rfl rfl)) rfl ?_
      | refine ops_skip rfl rfl rfl ?_
      | (refine ops_step rfl rfl rfl ?_; first | (refine step_box rfl rfl rfl (fun _ => ?_)) | (refine step_alloc rfl rfl rfl rfl (fun _ => ?_)) | (refine step_buildSlice rfl rfl rfl rfl rfl (fun _ => ?_)) | (refine step_store 0 rfl rfl rfl rfl rfl rfl rfl rfl rfl ?_) | (refine step_store 1 rfl rfl rfl rfl rfl rfl rfl rfl rfl ?_) | (refine step_store 2 rfl rfl rfl rfl rfl rfl rfl rfl rfl ?_) | (refine step_store 3 rfl rfl rfl rfl rfl rfl rfl rfl rfl ?_) | (refine step_store 4 rfl rfl rfl rfl rfl rfl rfl rfl rfl ?_) | (refine step_store 5 rfl rfl rfl rfl rfl rfl rfl rfl rfl ?_) | (refine step_store 6 rfl rfl rfl rfl rfl rfl rfl rfl rfl ?_) | (refine step_store 7 rfl rfl rfl rfl rfl rfl rfl rfl rfl ?_)))
  have e3 : pre (l.take y) lp = true := by
    subst hp
    unfold pre
    rw [decide_eq_true_eq, List.length_take, Nat.min_eq_left (by omega), List.take_left' (by simp; omega)]
  cases hd : decide ((x : Int) ≤ (y : Int))
  · have hxy : y < x := by simp at hd; omega
    repeat (first
        | refine exec_seq ?_
        | refine exec_region ?_
        | refine exec_block ?_
        | refine exec_skip ?_
        | refine exec_exit ?_
        | refine exec_ret ?_
        | refine exec_true rfl ?_
        | refine exec_false rfl ?_
        | refine ops_nil ?_
        | refine ops_pl rfl rfl rfl (.wr64 rfl rfl (by omega) (by omega)) rfl ?_
        | refine ops_pl rfl rfl rfl (.wr8 rfl rfl (by omega) (by omega)) rfl ?_
        | refine ops_pl rfl rfl rfl (.p rfl rfl) rfl ?_
        | refine ops_pl rfl rfl rfl (.cv64 rfl (fun _ => rfl) (by omega) (by omega)) rfl ?_
        | refine ops_pl rfl rfl rfl (.cv8 rfl (fun _ => rfl) (by omega) (by omega)) rfl ?_
        | refine ops_pl rfl rfl rfl (.l rfl (fun _ _ => rfl)) rfl ?_
        | refine ops_pl rfl rfl rfl (.l rfl (look_own 0 rfl rfl rfl rfl)) rfl ?_
        | refine ops_pl rfl rfl rfl (.l rfl (look_own 1 rfl rfl rfl rfl)) rfl ?_
        | refine ops_pl rfl rfl rfl (.l rfl (look_own 2 rfl rfl rfl rfl)) rfl ?_
        | refine ops_pl rfl rfl rfl (.l rfl (look_own 3 rfl rfl rfl rfl)) rfl ?_
        | refine ops_pl rfl rfl rfl (.l rfl (look_own 4 rfl rfl rfl rfl)) rfl ?_
        | refine ops_pl rfl rfl rfl (.l rfl (look_own 5 rfl rfl rfl rfl)) rfl ?_
        | refine ops_pl rfl rfl rfl (.l rfl (look_own 6 rfl rfl rfl rfl)) rfl ?_
        | refine ops_pl rfl rfl rfl (.l rfl (look_own 7 rfl rfl rfl rfl)) rfl ?_
        | refine ops_pl rfl rfl rfl (.l rfl (look_agg 0 rfl rfl rfl rfl)) rfl ?_
        | refine ops_pl rfl rfl rfl (.l rfl (look_agg 1 rfl rfl rfl rfl)) rfl ?_
        | refine ops_pl rfl rfl rfl (.l rfl (look_agg 2 rfl rfl rfl rfl)) rfl ?_
        | refine ops_pl rfl rfl rfl (.l rfl (look_agg 3 rfl rfl rfl rfl)) rfl ?_
        | refine ops_pl rfl rfl rfl (.l rfl (look_agg 4 rfl rfl rfl rfl)) rfl ?_
        | refine ops_pl rfl rfl rfl (.l rfl (look_agg 5 rfl rfl rfl rfl)) rfl ?_
        | refine ops_pl rfl rfl rfl (.l rfl (look_agg 6 rfl rfl rfl rfl)) rfl ?_
        | refine ops_pl rfl rfl rfl (.l rfl (look_agg 7 rfl rfl rfl rfl)) rfl ?_
        | refine ops_skip rfl rfl rfl ?_
        | (refine ops_step rfl rfl rfl ?_; first | (refine step_box rfl rfl rfl (fun _ => ?_)) | (refine step_alloc rfl rfl rfl rfl (fun _ => ?_)) | (refine step_buildSlice rfl rfl rfl rfl rfl (fun _ => ?_)) | (refine step_store 0 rfl rfl rfl rfl rfl rfl rfl rfl rfl ?_) | (refine step_store 1 rfl rfl rfl rfl rfl rfl rfl rfl rfl ?_) | (refine step_store 2 rfl rfl rfl rfl rfl rfl rfl rfl rfl ?_) | (refine step_store 3 rfl rfl rfl rfl rfl rfl rfl rfl rfl ?_) | (refine step_store 4 rfl rfl rfl rfl rfl rfl rfl rfl rfl ?_) | (refine step_store 5 rfl rfl rfl rfl rfl rfl rfl rfl rfl ?_) | (refine step_store 6 rfl rfl rfl rfl rfl rfl rfl rfl rfl ?_) | (refine step_store 7 rfl rfl rfl rfl rfl rfl rfl rfl rfl ?_)))
    refine ops_step rfl rfl rfl (step_call_pure rfl rfl rfl (fun H hs => callB_eq (r' := false) (by rw [pre_take (by omega) (by omega)]; exact hd) (prefixP_ok (sx H) (sy H) (by omega))) ?_)
    repeat (first
        | refine exec_seq ?_
        | refine exec_region ?_
        | refine exec_block ?_
        | refine exec_skip ?_
        | refine exec_exit ?_
        | refine exec_ret ?_
        | refine exec_true rfl ?_
        | refine exec_false rfl ?_
        | refine ops_nil ?_
        | refine ops_pl rfl rfl rfl (.wr64 rfl rfl (by omega) (by omega)) rfl ?_
        | refine ops_pl rfl rfl rfl (.wr8 rfl rfl (by omega) (by omega)) rfl ?_
        | refine ops_pl rfl rfl rfl (.p rfl rfl) rfl ?_
        | refine ops_pl rfl rfl rfl (.cv64 rfl (fun _ => rfl) (by omega) (by omega)) rfl ?_
        | refine ops_pl rfl rfl rfl (.cv8 rfl (fun _ => rfl) (by omega) (by omega)) rfl ?_
        | refine ops_pl rfl rfl rfl (.l rfl (fun _ _ => rfl)) rfl ?_
        | refine ops_pl rfl rfl rfl (.l rfl (look_own 0 rfl rfl rfl rfl)) rfl ?_
        | refine ops_pl rfl rfl rfl (.l rfl (look_own 1 rfl rfl rfl rfl)) rfl ?_
        | refine ops_pl rfl rfl rfl (.l rfl (look_own 2 rfl rfl rfl rfl)) rfl ?_
        | refine ops_pl rfl rfl rfl (.l rfl (look_own 3 rfl rfl rfl rfl)) rfl ?_
        | refine ops_pl rfl rfl rfl (.l rfl (look_own 4 rfl rfl rfl rfl)) rfl ?_
        | refine ops_pl rfl rfl rfl (.l rfl (look_own 5 rfl rfl rfl rfl)) rfl ?_
        | refine ops_pl rfl rfl rfl (.l rfl (look_own 6 rfl rfl rfl rfl)) rfl ?_
        | refine ops_pl rfl rfl rfl (.l rfl (look_own 7 rfl rfl rfl rfl)) rfl ?_
        | refine ops_pl rfl rfl rfl (.l rfl (look_agg 0 rfl rfl rfl rfl)) rfl ?_
        | refine ops_pl rfl rfl rfl (.l rfl (look_agg 1 rfl rfl rfl rfl)) rfl ?_
        | refine ops_pl rfl rfl rfl (.l rfl (look_agg 2 rfl rfl rfl rfl)) rfl ?_
        | refine ops_pl rfl rfl rfl (.l rfl (look_agg 3 rfl rfl rfl rfl)) rfl ?_
        | refine ops_pl rfl rfl rfl (.l rfl (look_agg 4 rfl rfl rfl rfl)) rfl ?_
        | refine ops_pl rfl rfl rfl (.l rfl (look_agg 5 rfl rfl rfl rfl)) rfl ?_
        | refine ops_pl rfl rfl rfl (.l rfl (look_agg 6 rfl rfl rfl rfl)) rfl ?_
        | refine ops_pl rfl rfl rfl (.l rfl (look_agg 7 rfl rfl rfl rfl)) rfl ?_
        | refine ops_skip rfl rfl rfl ?_
        | (refine ops_step rfl rfl rfl ?_; first | (refine step_box rfl rfl rfl (fun _ => ?_)) | (refine step_alloc rfl rfl rfl rfl (fun _ => ?_)) | (refine step_buildSlice rfl rfl rfl rfl rfl (fun _ => ?_)) | (refine step_store 0 rfl rfl rfl rfl rfl rfl rfl rfl rfl ?_) | (refine step_store 1 rfl rfl rfl rfl rfl rfl rfl rfl rfl ?_) | (refine step_store 2 rfl rfl rfl rfl rfl rfl rfl rfl rfl ?_) | (refine step_store 3 rfl rfl rfl rfl rfl rfl rfl rfl rfl ?_) | (refine step_store 4 rfl rfl rfl rfl rfl rfl rfl rfl rfl ?_) | (refine step_store 5 rfl rfl rfl rfl rfl rfl rfl rfl rfl ?_) | (refine step_store 6 rfl rfl rfl rfl rfl rfl rfl rfl rfl ?_) | (refine step_store 7 rfl rfl rfl rfl rfl rfl rfl rfl rfl ?_)))
    refine ops_step rfl rfl rfl (step_call_pure rfl rfl rfl (fun H hs => callB_eq e3 (prefixP_ok (sy H) (hpl hs rfl) (by omega))) ?_)
    repeat (first
        | refine exec_seq ?_
        | refine exec_region ?_
        | refine exec_block ?_
        | refine exec_skip ?_
        | refine exec_exit ?_
        | refine exec_ret ?_
        | refine exec_true rfl ?_
        | refine exec_false rfl ?_
        | refine ops_nil ?_
        | refine ops_pl rfl rfl rfl (.wr64 rfl rfl (by omega) (by omega)) rfl ?_
        | refine ops_pl rfl rfl rfl (.wr8 rfl rfl (by omega) (by omega)) rfl ?_
        | refine ops_pl rfl rfl rfl (.p rfl rfl) rfl ?_
        | refine ops_pl rfl rfl rfl (.cv64 rfl (fun _ => rfl) (by omega) (by omega)) rfl ?_
        | refine ops_pl rfl rfl rfl (.cv8 rfl (fun _ => rfl) (by omega) (by omega)) rfl ?_
        | refine ops_pl rfl rfl rfl (.l rfl (fun _ _ => rfl)) rfl ?_
        | refine ops_pl rfl rfl rfl (.l rfl (look_own 0 rfl rfl rfl rfl)) rfl ?_
        | refine ops_pl rfl rfl rfl (.l rfl (look_own 1 rfl rfl rfl rfl)) rfl ?_
        | refine ops_pl rfl rfl rfl (.l rfl (look_own 2 rfl rfl rfl rfl)) rfl ?_
        | refine ops_pl rfl rfl rfl (.l rfl (look_own 3 rfl rfl rfl rfl)) rfl ?_
        | refine ops_pl rfl rfl rfl (.l rfl (look_own 4 rfl rfl rfl rfl)) rfl ?_
        | refine ops_pl rfl rfl rfl (.l rfl (look_own 5 rfl rfl rfl rfl)) rfl ?_
        | refine ops_pl rfl rfl rfl (.l rfl (look_own 6 rfl rfl rfl rfl)) rfl ?_
        | refine ops_pl rfl rfl rfl (.l rfl (look_own 7 rfl rfl rfl rfl)) rfl ?_
        | refine ops_pl rfl rfl rfl (.l rfl (look_agg 0 rfl rfl rfl rfl)) rfl ?_
        | refine ops_pl rfl rfl rfl (.l rfl (look_agg 1 rfl rfl rfl rfl)) rfl ?_
        | refine ops_pl rfl rfl rfl (.l rfl (look_agg 2 rfl rfl rfl rfl)) rfl ?_
        | refine ops_pl rfl rfl rfl (.l rfl (look_agg 3 rfl rfl rfl rfl)) rfl ?_
        | refine ops_pl rfl rfl rfl (.l rfl (look_agg 4 rfl rfl rfl rfl)) rfl ?_
        | refine ops_pl rfl rfl rfl (.l rfl (look_agg 5 rfl rfl rfl rfl)) rfl ?_
        | refine ops_pl rfl rfl rfl (.l rfl (look_agg 6 rfl rfl rfl rfl)) rfl ?_
        | refine ops_pl rfl rfl rfl (.l rfl (look_agg 7 rfl rfl rfl rfl)) rfl ?_
        | refine ops_skip rfl rfl rfl ?_
        | (refine ops_step rfl rfl rfl ?_; first | (refine step_box rfl rfl rfl (fun _ => ?_)) | (refine step_alloc rfl rfl rfl rfl (fun _ => ?_)) | (refine step_buildSlice rfl rfl rfl rfl rfl (fun _ => ?_)) | (refine step_store 0 rfl rfl rfl rfl rfl rfl rfl rfl rfl ?_) | (refine step_store 1 rfl rfl rfl rfl rfl rfl rfl rfl rfl ?_) | (refine step_store 2 rfl rfl rfl rfl rfl rfl rfl rfl rfl ?_) | (refine step_store 3 rfl rfl rfl rfl rfl rfl rfl rfl rfl ?_) | (refine step_store 4 rfl rfl rfl rfl rfl rfl rfl rfl rfl ?_) | (refine step_store 5 rfl rfl rfl rfl rfl rfl rfl rfl rfl ?_) | (refine step_store 6 rfl rfl rfl rfl rfl rfl rfl rfl rfl ?_) | (refine step_store 7 rfl rfl rfl rfl rfl rfl rfl rfl rfl ?_)))
    rw [hd]
    repeat (first
        | refine exec_seq ?_
        | refine exec_region ?_
        | refine exec_block ?_
        | refine exec_skip ?_
        | refine exec_exit ?_
        | refine exec_ret ?_
        | refine exec_true rfl ?_
        | refine exec_false rfl ?_
        | refine ops_nil ?_
        | refine ops_pl rfl rfl rfl (.wr64 rfl rfl (by omega) (by omega)) rfl ?_
        | refine ops_pl rfl rfl rfl (.wr8 rfl rfl (by omega) (by omega)) rfl ?_
        | refine ops_pl rfl rfl rfl (.p rfl rfl) rfl ?_
        | refine ops_pl rfl rfl rfl (.cv64 rfl (fun _ => rfl) (by omega) (by omega)) rfl ?_
        | refine ops_pl rfl rfl rfl (.cv8 rfl (fun _ => rfl) (by omega) (by omega)) rfl ?_
        | refine ops_pl rfl rfl rfl (.l rfl (fun _ _ => rfl)) rfl ?_
        | refine ops_pl rfl rfl rfl (.l rfl (look_own 0 rfl rfl rfl rfl)) rfl ?_
        | refine ops_pl rfl rfl rfl (.l rfl (look_own 1 rfl rfl rfl rfl)) rfl ?_
        | refine ops_pl rfl rfl rfl (.l rfl (look_own 2 rfl rfl rfl rfl)) rfl ?_
        | refine ops_pl rfl rfl rfl (.l rfl (look_own 3 rfl rfl rfl rfl)) rfl ?_
        | refine ops_pl rfl rfl rfl (.l rfl (look_own 4 rfl rfl rfl rfl)) rfl ?_
        | refine ops_pl rfl rfl rfl (.l rfl (look_own 5 rfl rfl rfl rfl)) rfl ?_
        | refine ops_pl rfl rfl rfl (.l rfl (look_own 6 rfl rfl rfl rfl)) rfl ?_
        | refine ops_pl rfl rfl rfl (.l rfl (look_own 7 rfl rfl rfl rfl)) rfl ?_
        | refine ops_pl rfl rfl rfl (.l rfl (look_agg 0 rfl rfl rfl rfl)) rfl ?_
        | refine ops_pl rfl rfl rfl (.l rfl (look_agg 1 rfl rfl rfl rfl)) rfl ?_
        | refine ops_pl rfl rfl rfl (.l rfl (look_agg 2 rfl rfl rfl rfl)) rfl ?_
        | refine ops_pl rfl rfl rfl (.l rfl (look_agg 3 rfl rfl rfl rfl)) rfl ?_
        | refine ops_pl rfl rfl rfl (.l rfl (look_agg 4 rfl rfl rfl rfl)) rfl ?_
        | refine ops_pl rfl rfl rfl (.l rfl (look_agg 5 rfl rfl rfl rfl)) rfl ?_
        | refine ops_pl rfl rfl rfl (.l rfl (look_agg 6 rfl rfl rfl rfl)) rfl ?_
        | refine ops_pl rfl rfl rfl (.l rfl (look_agg 7 rfl rfl rfl rfl)) rfl ?_
        | refine ops_skip rfl rfl rfl ?_
        | (refine ops_step rfl rfl rfl ?_; first | (refine step_box rfl rfl rfl (fun _ => ?_)) | (refine step_alloc rfl rfl rfl rfl (fun _ => ?_)) | (refine step_buildSlice rfl rfl rfl rfl rfl (fun _ => ?_)) | (refine step_store 0 rfl rfl rfl rfl rfl rfl rfl rfl rfl ?_) | (refine step_store 1 rfl rfl rfl rfl rfl rfl rfl rfl rfl ?_) | (refine step_store 2 rfl rfl rfl rfl rfl rfl rfl rfl rfl ?_) | (refine step_store 3 rfl rfl rfl rfl rfl rfl rfl rfl rfl ?_) | (refine step_store 4 rfl rfl rfl rfl rfl rfl rfl rfl rfl ?_) | (refine step_store 5 rfl rfl rfl rfl rfl rfl rfl rfl rfl ?_) | (refine step_store 6 rfl rfl rfl rfl rfl rfl rfl rfl rfl ?_) | (refine step_store 7 rfl rfl rfl rfl rfl rfl rfl rfl rfl ?_)))
    have e4 : ((n : Int) == 0) = false := by simp; omega
    rw [e4]
    repeat (first
        | refine exec_seq ?_
        | refine exec_region ?_
        | refine exec_block ?_
        | refine exec_skip ?_
        | refine exec_exit ?_
        | refine exec_ret ?_
        | refine exec_true rfl ?_
        | refine exec_false rfl ?_
        | refine ops_nil ?_
        | refine ops_pl rfl rfl rfl (.wr64 rfl rfl (by omega) (by omega)) rfl ?_
        | refine ops_pl rfl rfl rfl (.wr8 rfl rfl (by omega) (by omega)) rfl ?_
        | refine ops_pl rfl rfl rfl (.p rfl rfl) rfl ?_
        | refine ops_pl rfl rfl rfl (.cv64 rfl (fun _ => rfl) (by omega) (by omega)) rfl ?_
        | refine ops_pl rfl rfl rfl (.cv8 rfl (fun _ => rfl) (by omega) (by omega)) rfl ?_
        | refine ops_pl rfl rfl rfl (.l rfl (fun _ _ => rfl)) rfl ?_
        | refine ops_pl rfl rfl rfl (.l rfl (look_own 0 rfl rfl rfl rfl)) rfl ?_
        | refine ops_pl rfl rfl rfl (.l rfl (look_own 1 rfl rfl rfl rfl)) rfl ?_
        | refine ops_pl rfl rfl rfl (.l rfl (look_own 2 rfl rfl rfl rfl)) rfl ?_
        | refine ops_pl rfl rfl rfl (.l rfl (look_own 3 rfl rfl rfl rfl)) rfl ?_
        | refine ops_pl rfl rfl rfl (.l rfl (look_own 4 rfl rfl rfl rfl)) rfl ?_
        | refine ops_pl rfl rfl rfl (.l rfl (look_own 5 rfl rfl rfl rfl)) rfl ?_
        | refine ops_pl rfl rfl rfl (.l rfl (look_own 6 rfl rfl rfl rfl)) rfl ?_
        | refine ops_pl rfl rfl rfl (.l rfl (look_own 7 rfl rfl rfl rfl)) rfl ?_
        | refine ops_pl rfl rfl rfl (.l rfl (look_agg 0 rfl rfl rfl rfl)) rfl ?_
        | refine ops_pl rfl rfl rfl (.l rfl (look_agg 1 rfl rfl rfl rfl)) rfl ?_
        | refine ops_pl rfl rfl rfl (.l rfl (look_agg 2 rfl rfl rfl rfl)) rfl ?_
        | refine ops_pl rfl rfl rfl (.l rfl (look_agg 3 rfl rfl rfl rfl)) rfl ?_
        | refine ops_pl rfl rfl rfl (.l rfl (look_agg 4 rfl rfl rfl rfl)) rfl ?_
        | refine ops_pl rfl rfl rfl (.l rfl (look_agg 5 rfl rfl rfl rfl)) rfl ?_
        | refine ops_pl rfl rfl rfl (.l rfl (look_agg 6 rfl rfl rfl rfl)) rfl ?_
        | refine ops_pl rfl rfl rfl (.l rfl (look_agg 7 rfl rfl rfl rfl)) rfl ?_
        | refine ops_skip rfl rfl rfl ?_
        | (refine ops_step rfl rfl rfl ?_; first | (refine step_box rfl rfl rfl (fun _ => ?_)) | (refine step_alloc rfl rfl rfl rfl (fun _ => ?_)) | (refine step_buildSlice rfl rfl rfl rfl rfl (fun _ => ?_)) | (refine step_store 0 rfl rfl rfl rfl rfl rfl rfl rfl rfl ?_) | (refine step_store 1 rfl rfl rfl rfl rfl rfl rfl rfl rfl ?_) | (refine step_store 2 rfl rfl rfl rfl rfl rfl rfl rfl rfl ?_) | (refine step_store 3 rfl rfl rfl rfl rfl rfl rfl rfl rfl ?_) | (refine step_store 4 rfl rfl rfl rfl rfl rfl rfl rfl rfl ?_) | (refine step_store 5 rfl rfl rfl rfl rfl rfl rfl rfl rfl ?_) | (refine step_store 6 rfl rfl rfl rfl rfl rfl rfl rfl rfl ?_) | (refine step_store 7 rfl rfl rfl rfl rfl rfl rfl rfl rfl ?_)))
    have hxl : y < (l.take x).length := by simp; omega
    refine ops_step rfl rfl rfl (step_call_pure rfl rfl rfl (fun H hs => callB_eq (r' := ((l.take x)[y]'hxl == [111, 116, 104, 101, 114])) (by subst hp; exact pre_snoc (by omega) (by omega)) (prefixP_ok (hpl hs rfl) (sx H) (by omega))) ?_)
    repeat (first
        | refine exec_seq ?_
        | refine exec_region ?_
        | refine exec_block ?_
        | refine exec_skip ?_
        | refine exec_exit ?_
        | refine exec_ret ?_
        | refine exec_true rfl ?_
        | refine exec_false rfl ?_
        | refine ops_nil ?_
        | refine ops_pl rfl rfl rfl (.wr64 rfl rfl (by omega) (by omega)) rfl ?_
        | refine ops_pl rfl rfl rfl (.wr8 rfl rfl (by omega) (by omega)) rfl ?_
        | refine ops_pl rfl rfl rfl (.p rfl rfl) rfl ?_
        | refine ops_pl rfl rfl rfl (.cv64 rfl (fun _ => rfl) (by omega) (by omega)) rfl ?_
        | refine ops_pl rfl rfl rfl (.cv8 rfl (fun _ => rfl) (by omega) (by omega)) rfl ?_
        | refine ops_pl rfl rfl rfl (.l rfl (fun _ _ => rfl)) rfl ?_
        | refine ops_pl rfl rfl rfl (.l rfl (look_own 0 rfl rfl rfl rfl)) rfl ?_
        | refine ops_pl rfl rfl rfl (.l rfl (look_own 1 rfl rfl rfl rfl)) rfl ?_
        | refine ops_pl rfl rfl rfl (.l rfl (look_own 2 rfl rfl rfl rfl)) rfl ?_
        | refine ops_pl rfl rfl rfl (.l rfl (look_own 3 rfl rfl rfl rfl)) rfl ?_
        | refine ops_pl rfl rfl rfl (.l rfl (look_own 4 rfl rfl rfl rfl)) rfl ?_
        | refine ops_pl rfl rfl rfl (.l rfl (look_own 5 rfl rfl rfl rfl)) rfl ?_
        | refine ops_pl rfl rfl rfl (.l rfl (look_own 6 rfl rfl rfl rfl)) rfl ?_
        | refine ops_pl rfl rfl rfl (.l rfl (look_own 7 rfl rfl rfl rfl)) rfl ?_
        | refine ops_pl rfl rfl rfl (.l rfl (look_agg 0 rfl rfl rfl rfl)) rfl ?_
        | refine ops_pl rfl rfl rfl (.l rfl (look_agg 1 rfl rfl rfl rfl)) rfl ?_
        | refine ops_pl rfl rfl rfl (.l rfl (look_agg 2 rfl rfl rfl rfl)) rfl ?_
        | refine ops_pl rfl rfl rfl (.l rfl (look_agg 3 rfl rfl rfl rfl)) rfl ?_
        | refine ops_pl rfl rfl rfl (.l rfl (look_agg 4 rfl rfl rfl rfl)) rfl ?_
        | refine ops_pl rfl rfl rfl (.l rfl (look_agg 5 rfl rfl rfl rfl)) rfl ?_
        | refine ops_pl rfl rfl rfl (.l rfl (look_agg 6 rfl rfl rfl rfl)) rfl ?_
        | refine ops_pl rfl rfl rfl (.l rfl (look_agg 7 rfl rfl rfl rfl)) rfl ?_
        | refine ops_skip rfl rfl rfl ?_
        | (refine ops_step rfl rfl rfl ?_; first | (refine step_box rfl rfl rfl (fun _ => ?_)) | (refine step_alloc rfl rfl rfl rfl (fun _ => ?_)) | (refine step_buildSlice rfl rfl rfl rfl rfl (fun _ => ?_)) | (refine step_store 0 rfl rfl rfl rfl rfl rfl rfl rfl rfl ?_) | (refine step_store 1 rfl rfl rfl rfl rfl rfl rfl rfl rfl ?_) | (refine step_store 2 rfl rfl rfl rfl rfl rfl rfl rfl rfl ?_) | (refine step_store 3 rfl rfl rfl rfl rfl rfl rfl rfl rfl ?_) | (refine step_store 4 rfl rfl rfl rfl rfl rfl rfl rfl rfl ?_) | (refine step_store 5 rfl rfl rfl rfl rfl rfl rfl rfl rfl ?_) | (refine step_store 6 rfl rfl rfl rfl rfl rfl rfl rfl rfl ?_) | (refine step_store 7 rfl rfl rfl rfl rfl rfl rfl rfl rfl ?_)))
    rw [show decide ((x : Int) > (y : Int)) = true from by simp; omega]
    repeat (first
        | refine exec_seq ?_
        | refine exec_region ?_
        | refine exec_block ?_
        | refine exec_skip ?_
        | refine exec_exit ?_
        | refine exec_ret ?_
        | refine exec_true rfl ?_
        | refine exec_false rfl ?_
        | refine ops_nil ?_
        | refine ops_pl rfl rfl rfl (.wr64 rfl rfl (by omega) (by omega)) rfl ?_
        | refine ops_pl rfl rfl rfl (.wr8 rfl rfl (by omega) (by omega)) rfl ?_
        | refine ops_pl rfl rfl rfl (.p rfl rfl) rfl ?_
        | refine ops_pl rfl rfl rfl (.cv64 rfl (fun _ => rfl) (by omega) (by omega)) rfl ?_
        | refine ops_pl rfl rfl rfl (.cv8 rfl (fun _ => rfl) (by omega) (by omega)) rfl ?_
        | refine ops_pl rfl rfl rfl (.l rfl (fun _ _ => rfl)) rfl ?_
        | refine ops_pl rfl rfl rfl (.l rfl (look_own 0 rfl rfl rfl rfl)) rfl ?_
        | refine ops_pl rfl rfl rfl (.l rfl (look_own 1 rfl rfl rfl rfl)) rfl ?_
        | refine ops_pl rfl rfl rfl (.l rfl (look_own 2 rfl rfl rfl rfl)) rfl ?_
        | refine ops_pl rfl rfl rfl (.l rfl (look_own 3 rfl rfl rfl rfl)) rfl ?_
        | refine ops_pl rfl rfl rfl (.l rfl (look_own 4 rfl rfl rfl rfl)) rfl ?_
        | refine ops_pl rfl rfl rfl (.l rfl (look_own 5 rfl rfl rfl rfl)) rfl ?_
        | refine ops_pl rfl rfl rfl (.l rfl (look_own 6 rfl rfl rfl rfl)) rfl ?_
        | refine ops_pl rfl rfl rfl (.l rfl (look_own 7 rfl rfl rfl rfl)) rfl ?_
        | refine ops_pl rfl rfl rfl (.l rfl (look_agg 0 rfl rfl rfl rfl)) rfl ?_
        | refine ops_pl rfl rfl rfl (.l rfl (look_agg 1 rfl rfl rfl rfl)) rfl ?_
        | refine ops_pl rfl rfl rfl (.l rfl (look_agg 2 rfl rfl rfl rfl)) rfl ?_
        | refine ops_pl rfl rfl rfl (.l rfl (look_agg 3 rfl rfl rfl rfl)) rfl ?_
        | refine ops_pl rfl rfl rfl (.l rfl (look_agg 4 rfl rfl rfl rfl)) rfl ?_
        | refine ops_pl rfl rfl rfl (.l rfl (look_agg 5 rfl rfl rfl rfl)) rfl ?_
        | refine ops_pl rfl rfl rfl (.l rfl (look_agg 6 rfl rfl rfl rfl)) rfl ?_
        | refine ops_pl rfl rfl rfl (.l rfl (look_agg 7 rfl rfl rfl rfl)) rfl ?_
        | refine ops_skip rfl rfl rfl ?_
        | (refine ops_step rfl rfl rfl ?_; first | (refine step_box rfl rfl rfl (fun _ => ?_)) | (refine step_alloc rfl rfl rfl rfl (fun _ => ?_)) | (refine step_buildSlice rfl rfl rfl rfl rfl (fun _ => ?_)) | (refine step_store 0 rfl rfl rfl rfl rfl rfl rfl rfl rfl ?_) | (refine step_store 1 rfl rfl rfl rfl rfl rfl rfl rfl rfl ?_) | (refine step_store 2 rfl rfl rfl rfl rfl rfl rfl rfl rfl ?_) | (refine step_store 3 rfl rfl rfl rfl rfl rfl rfl rfl rfl ?_) | (refine step_store 4 rfl rfl rfl rfl rfl rfl rfl rfl rfl ?_) | (refine step_store 5 rfl rfl rfl rfl rfl rfl rfl rfl rfl ?_) | (refine step_store 6 rfl rfl rfl rfl rfl rfl rfl rfl rfl ?_) | (refine step_store 7 rfl rfl rfl rfl rfl rfl rfl rfl rfl ?_)))
    first | refine ops_pl rfl rfl rfl (.p rfl (opP_idx rfl rfl (sx Heap.empty) rfl rfl (by omega) (by omega))) rfl ?_ | refine draw_pl rfl rfl rfl rfl rfl (.p rfl (opP_idx rfl rfl (sx Heap.empty) rfl rfl (by omega) (by omega))) rfl ?_
    first | refine ops_pl rfl rfl rfl (.l rfl (fun H hs => opL_load rfl (((sx Heap.empty).at hs).ld rfl (getMap (l := l.take x) (i := y) hxl rfl)))) rfl ?_ | refine draw_pl rfl rfl rfl rfl rfl (.l rfl (fun H hs => opL_load rfl (((sx Heap.empty).at hs).ld rfl (getMap (l := l.take x) (i := y) hxl rfl)))) rfl ?_
    repeat (first
        | refine exec_seq ?_
        | refine exec_region ?_
        | refine exec_block ?_
        | refine exec_skip ?_
        | refine exec_exit ?_
        | refine exec_ret ?_
        | refine exec_true rfl ?_
        | refine exec_false rfl ?_
        | refine ops_nil ?_
        | refine ops_pl rfl rfl rfl (.wr64 rfl rfl (by omega) (by omega)) rfl ?_
        | refine ops_pl rfl rfl rfl (.wr8 rfl rfl (by omega) (by omega)) rfl ?_
        | refine ops_pl rfl rfl rfl (.p rfl rfl) rfl ?_
        | refine ops_pl rfl rfl rfl (.cv64 rfl (fun _ => rfl) (by omega) (by omega)) rfl ?_
        | refine ops_pl rfl rfl rfl (.cv8 rfl (fun _ => rfl) (by omega) (by omega)) rfl ?_
        | refine ops_pl rfl rfl rfl (.l rfl (fun _ _ => rfl)) rfl ?_
        | refine ops_pl rfl rfl rfl (.l rfl (look_own 0 rfl rfl rfl rfl)) rfl ?_
        | refine ops_pl rfl rfl rfl (.l rfl (look_own 1 rfl rfl rfl rfl)) rfl ?_
        | refine ops_pl rfl rfl rfl (.l rfl (look_own 2 rfl rfl rfl rfl)) rfl ?_
        | refine ops_pl rfl rfl rfl (.l rfl (look_own 3 rfl rfl rfl rfl)) rfl ?_
        | refine ops_pl rfl rfl rfl (.l rfl (look_own 4 rfl rfl rfl rfl)) rfl ?_
        | refine ops_pl rfl rfl rfl (.l rfl (look_own 5 rfl rfl rfl rfl)) rfl ?_
        | refine ops_pl rfl rfl rfl (.l rfl (look_own 6 rfl rfl rfl rfl)) rfl ?_
        | refine ops_pl rfl rfl rfl (.l rfl (look_own 7 rfl rfl rfl rfl)) rfl ?_
        | refine ops_pl rfl rfl rfl (.l rfl (look_agg 0 rfl rfl rfl rfl)) rfl ?_
        | refine ops_pl rfl rfl rfl (.l rfl (look_agg 1 rfl rfl rfl rfl)) rfl ?_
        | refine ops_pl rfl rfl rfl (.l rfl (look_agg 2 rfl rfl rfl rfl)) rfl ?_
        | refine ops_pl rfl rfl rfl (.l rfl (look_agg 3 rfl rfl rfl rfl)) rfl ?_
        | refine ops_pl rfl rfl rfl (.l rfl (look_agg 4 rfl rfl rfl rfl)) rfl ?_
        | refine ops_pl rfl rfl rfl (.l rfl (look_agg 5 rfl rfl rfl rfl)) rfl ?_
        | refine ops_pl rfl rfl rfl (.l rfl (look_agg 6 rfl rfl rfl rfl)) rfl ?_
        | refine ops_pl rfl rfl rfl (.l rfl (look_agg 7 rfl rfl rfl rfl)) rfl ?_
        | refine ops_skip rfl rfl rfl ?_
        | (refine ops_step rfl rfl rfl ?_; first | (refine step_box rfl rfl rfl (fun _ => ?_)) | (refine step_alloc rfl rfl rfl rfl (fun _ => ?_)) | (refine step_buildSlice rfl rfl rfl rfl rfl (fun _ => ?_)) | (refine step_store 0 rfl rfl rfl rfl rfl rfl rfl rfl rfl ?_) | (refine step_store 1 rfl rfl rfl rfl rfl rfl rfl rfl rfl ?_) | (refine step_store 2 rfl rfl rfl rfl rfl rfl rfl rfl rfl ?_) | (refine step_store 3 rfl rfl rfl rfl rfl rfl rfl rfl rfl ?_) | (refine step_store 4 rfl rfl rfl rfl rfl rfl rfl rfl rfl ?_) | (refine step_store 5 rfl rfl rfl rfl rfl rfl rfl rfl rfl ?_) | (refine step_store 6 rfl rfl rfl rfl rfl rfl rfl rfl rfl ?_) | (refine step_store 7 rfl rfl rfl rfl rfl rfl rfl rfl rfl ?_)))
    exact ⟨trivial, _, rfl, by simp [oneOf]⟩
  · have hxy : x ≤ y := by simp at hd; omega
    repeat (first
        | refine exec_seq ?_
        | refine exec_region ?_
        | refine exec_block ?_
        | refine exec_skip ?_
        | refine exec_exit ?_
        | refine exec_ret ?_
        | refine exec_true rfl ?_
        | refine exec_false rfl ?_
        | refine ops_nil ?_
        | refine ops_pl rfl rfl rfl (.wr64 rfl rfl (by omega) (by omega)) rfl ?_
        | refine ops_pl rfl rfl rfl (.wr8 rfl rfl (by omega) (by omega)) rfl ?_
        | refine ops_pl rfl rfl rfl (.p rfl rfl) rfl ?_
        | refine ops_pl rfl rfl rfl (.cv64 rfl (fun _ => rfl) (by omega) (by omega)) rfl ?_
        | refine ops_pl rfl rfl rfl (.cv8 rfl (fun _ => rfl) (by omega) (by omega)) rfl ?_
        | refine ops_pl rfl rfl rfl (.l rfl (fun _ _ => rfl)) rfl ?_
        | refine ops_pl rfl rfl rfl (.l rfl (look_own 0 rfl rfl rfl rfl)) rfl ?_
        | refine ops_pl rfl rfl rfl (.l rfl (look_own 1 rfl rfl rfl rfl)) rfl ?_
        | refine ops_pl rfl rfl rfl (.l rfl (look_own 2 rfl rfl rfl rfl)) rfl ?_
        | refine ops_pl rfl rfl rfl (.l rfl (look_own 3 rfl rfl rfl rfl)) rfl ?_
        | refine ops_pl rfl rfl rfl (.l rfl (look_own 4 rfl rfl rfl rfl)) rfl ?_
        | refine ops_pl rfl rfl rfl (.l rfl (look_own 5 rfl rfl rfl rfl)) rfl ?_
        | refine ops_pl rfl rfl rfl (.l rfl (look_own 6 rfl rfl rfl rfl)) rfl ?_
        | refine ops_pl rfl rfl rfl (.l rfl (look_own 7 rfl rfl rfl rfl)) rfl ?_
        | refine ops_pl rfl rfl rfl (.l rfl (look_agg 0 rfl rfl rfl rfl)) rfl ?_
        | refine ops_pl rfl rfl rfl (.l rfl (look_agg 1 rfl rfl rfl rfl)) rfl ?_
        | refine ops_pl rfl rfl rfl (.l rfl (look_agg 2 rfl rfl rfl rfl)) rfl ?_
        | refine ops_pl rfl rfl rfl (.l rfl (look_agg 3 rfl rfl rfl rfl)) rfl ?_
        | refine ops_pl rfl rfl rfl (.l rfl (look_agg 4 rfl rfl rfl rfl)) rfl ?_
        | refine ops_pl rfl rfl rfl (.l rfl (look_agg 5 rfl rfl rfl rfl)) rfl ?_
        | refine ops_pl rfl rfl rfl (.l rfl (look_agg 6 rfl rfl rfl rfl)) rfl ?_
        | refine ops_pl rfl rfl rfl (.l rfl (look_agg 7 rfl rfl rfl rfl)) rfl ?_
        | refine ops_skip rfl rfl rfl ?_
        | (refine ops_step rfl rfl rfl ?_; first | (refine step_box rfl rfl rfl (fun _ => ?_)) | (refine step_alloc rfl rfl rfl rfl (fun _ => ?_)) | (refine step_buildSlice rfl rfl rfl rfl rfl (fun _ => ?_)) | (refine step_store 0 rfl rfl rfl rfl rfl rfl rfl rfl rfl ?_) | (refine step_store 1 rfl rfl rfl rfl rfl rfl rfl rfl rfl ?_) | (refine step_store 2 rfl rfl rfl rfl rfl rfl rfl rfl rfl ?_) | (refine step_store 3 rfl rfl rfl rfl rfl rfl rfl rfl rfl ?_) | (refine step_store 4 rfl rfl rfl rfl rfl rfl rfl rfl rfl ?_) | (refine step_store 5 rfl rfl rfl rfl rfl rfl rfl rfl rfl ?_) | (refine step_store 6 rfl rfl rfl rfl rfl rfl rfl rfl rfl ?_) | (refine step_store 7 rfl rfl rfl rfl rfl rfl rfl rfl rfl ?_)))
    refine ops_step rfl rfl rfl (step_call_pure rfl rfl rfl (fun H hs => callB_eq (r' := true) (by rw [pre_take (by omega) (by omega)]; exact hd) (prefixP_ok (sx H) (sy H) (by omega))) ?_)
    repeat (first
        | refine exec_seq ?_
        | refine exec_region ?_
        | refine exec_block ?_
        | refine exec_skip ?_
        | refine exec_exit ?_
        | refine exec_ret ?_
        | refine exec_true rfl ?_
        | refine exec_false rfl ?_
        | refine ops_nil ?_
        | refine ops_pl rfl rfl rfl (.wr64 rfl rfl (by omega) (by omega)) rfl ?_
        | refine ops_pl rfl rfl rfl (.wr8 rfl rfl (by omega) (by omega)) rfl ?_
        | refine ops_pl rfl rfl rfl (.p rfl rfl) rfl ?_
        | refine ops_pl rfl rfl rfl (.cv64 rfl (fun _ => rfl) (by omega) (by omega)) rfl ?_
        | refine ops_pl rfl rfl rfl (.cv8 rfl (fun _ => rfl) (by omega) (by omega)) rfl ?_
        | refine ops_pl rfl rfl rfl (.l rfl (fun _ _ => rfl)) rfl ?_
        | refine ops_pl rfl rfl rfl (.l rfl (look_own 0 rfl rfl rfl rfl)) rfl ?_
        | refine ops_pl rfl rfl rfl (.l rfl (look_own 1 rfl rfl rfl rfl)) rfl ?_
        | refine ops_pl rfl rfl rfl (.l rfl (look_own 2 rfl rfl rfl rfl)) rfl ?_
        | refine ops_pl rfl rfl rfl (.l rfl (look_own 3 rfl rfl rfl rfl)) rfl ?_
        | refine ops_pl rfl rfl rfl (.l rfl (look_own 4 rfl rfl rfl rfl)) rfl ?_
        | refine ops_pl rfl rfl rfl (.l rfl (look_own 5 rfl rfl rfl rfl)) rfl ?_
        | refine ops_pl rfl rfl rfl (.l rfl (look_own 6 rfl rfl rfl rfl)) rfl ?_
        | refine ops_pl rfl rfl rfl (.l rfl (look_own 7 rfl rfl rfl rfl)) rfl ?_
        | refine ops_pl rfl rfl rfl (.l rfl (look_agg 0 rfl rfl rfl rfl)) rfl ?_
        | refine ops_pl rfl rfl rfl (.l rfl (look_agg 1 rfl rfl rfl rfl)) rfl ?_
        | refine ops_pl rfl rfl rfl (.l rfl (look_agg 2 rfl rfl rfl rfl)) rfl ?_
        | refine ops_pl rfl rfl rfl (.l rfl (look_agg 3 rfl rfl rfl rfl)) rfl ?_
        | refine ops_pl rfl rfl rfl (.l rfl (look_agg 4 rfl rfl rfl rfl)) rfl ?_
        | refine ops_pl rfl rfl rfl (.l rfl (look_agg 5 rfl rfl rfl rfl)) rfl ?_
        | refine ops_pl rfl rfl rfl (.l rfl (look_agg 6 rfl rfl rfl rfl)) rfl ?_
        | refine ops_pl rfl rfl rfl (.l rfl (look_agg 7 rfl rfl rfl rfl)) rfl ?_
        | refine ops_skip rfl rfl rfl ?_
        | (refine ops_step rfl rfl rfl ?_; first | (refine step_box rfl rfl rfl (fun _ => ?_)) | (refine step_alloc rfl rfl rfl rfl (fun _ => ?_)) | (refine step_buildSlice rfl rfl rfl rfl rfl (fun _ => ?_)) | (refine step_store 0 rfl rfl rfl rfl rfl rfl rfl rfl rfl ?_) | (refine step_store 1 rfl rfl rfl rfl rfl rfl rfl rfl rfl ?_) | (refine step_store 2 rfl rfl rfl rfl rfl rfl rfl rfl rfl ?_) | (refine step_store 3 rfl rfl rfl rfl rfl rfl rfl rfl rfl ?_) | (refine step_store 4 rfl rfl rfl rfl rfl rfl rfl rfl rfl ?_) | (refine step_store 5 rfl rfl rfl rfl rfl rfl rfl rfl rfl ?_) | (refine step_store 6 rfl rfl rfl rfl rfl rfl rfl rfl rfl ?_) | (refine step_store 7 rfl rfl rfl rfl rfl rfl rfl rfl rfl ?_)))
    cases hd2 : decide ((y : Int) ≤ (z : Int))
    · refine ops_step rfl rfl rfl (step_call_pure rfl rfl rfl (fun H hs => callB_eq (r' := false) (by rw [pre_take (by omega) (by omega)]; exact hd2) (prefixP_ok (sy H) (sz H) (by omega))) ?_)
      repeat (first
          | refine exec_seq ?_
          | refine exec_region ?_
          | refine exec_block ?_
          | refine exec_skip ?_
          | refine exec_exit ?_
          | refine exec_ret ?_
          | refine exec_true rfl ?_
          | refine exec_false rfl ?_
          | refine ops_nil ?_
          | refine ops_pl rfl rfl rfl (.wr64 rfl rfl (by omega) (by omega)) rfl ?_
          | refine ops_pl rfl rfl rfl (.wr8 rfl rfl (by omega) (by omega)) rfl ?_
          | refine ops_pl rfl rfl rfl (.p rfl rfl) rfl ?_
          | refine ops_pl rfl rfl rfl (.cv64 rfl (fun _ => rfl) (by omega) (by omega)) rfl ?_
          | refine ops_pl rfl rfl rfl (.cv8 rfl (fun _ => rfl) (by omega) (by omega)) rfl ?_
          | refine ops_pl rfl rfl rfl (.l rfl (fun _ _ => rfl)) rfl ?_
          | refine ops_pl rfl rfl rfl (.l rfl (look_own 0 rfl rfl rfl rfl)) rfl ?_
          | refine ops_pl rfl rfl rfl (.l rfl (look_own 1 rfl rfl rfl rfl)) rfl ?_
          | refine ops_pl rfl rfl rfl (.l rfl (look_own 2 rfl rfl rfl rfl)) rfl ?_
          | refine ops_pl rfl rfl rfl (.l rfl (look_own 3 rfl rfl rfl rfl)) rfl ?_
          | refine ops_pl rfl rfl rfl (.l rfl (look_own 4 rfl rfl rfl rfl)) rfl ?_
          | refine ops_pl rfl rfl rfl (.l rfl (look_own 5 rfl rfl rfl rfl)) rfl ?_
          | refine ops_pl rfl rfl rfl (.l rfl (look_own 6 rfl rfl rfl rfl)) rfl ?_
          | refine ops_pl rfl rfl rfl (.l rfl (look_own 7 rfl rfl rfl rfl)) rfl ?_
          | refine ops_pl rfl rfl rfl (.l rfl (look_agg 0 rfl rfl rfl rfl)) rfl ?_
          | refine ops_pl rfl rfl rfl (.l rfl (look_agg 1 rfl rfl rfl rfl)) rfl ?_
          | refine ops_pl rfl rfl rfl (.l rfl (look_agg 2 rfl rfl rfl rfl)) rfl ?_
          | refine ops_pl rfl rfl rfl (.l rfl (look_agg 3 rfl rfl rfl rfl)) rfl ?_
          | refine ops_pl rfl rfl rfl (.l rfl (look_agg 4 rfl rfl rfl rfl)) rfl ?_
          | refine ops_pl rfl rfl rfl (.l rfl (look_agg 5 rfl rfl rfl rfl)) rfl ?_
          | refine ops_pl rfl rfl rfl (.l rfl (look_agg 6 rfl rfl rfl rfl)) rfl ?_
          | refine ops_pl rfl rfl rfl (.l rfl (look_agg 7 rfl rfl rfl rfl)) rfl ?_
          | refine ops_skip rfl rfl rfl ?_
          | (refine ops_step rfl rfl rfl ?_; first | (refine step_box rfl rfl rfl (fun _ => ?_)) | (refine step_alloc rfl rfl rfl rfl (fun _ => ?_)) | (refine step_buildSlice rfl rfl rfl rfl rfl (fun _ => ?_)) | (refine step_store 0 rfl rfl rfl rfl rfl rfl rfl rfl rfl ?_) | (refine step_store 1 rfl rfl rfl rfl rfl rfl rfl rfl rfl ?_) | (refine step_store 2 rfl rfl rfl rfl rfl rfl rfl rfl rfl ?_) | (refine step_store 3 rfl rfl rfl rfl rfl rfl rfl rfl rfl ?_) | (refine step_store 4 rfl rfl rfl rfl rfl rfl rfl rfl rfl ?_) | (refine step_store 5 rfl rfl rfl rfl rfl rfl rfl rfl rfl ?_) | (refine step_store 6 rfl rfl rfl rfl rfl rfl rfl rfl rfl ?_) | (refine step_store 7 rfl rfl rfl rfl rfl rfl rfl rfl rfl ?_)))
      refine ops_step rfl rfl rfl (step_call_pure rfl rfl rfl (fun H hs => callB_eq e3 (prefixP_ok (sy H) (hpl hs rfl) (by omega))) ?_)
      repeat (first
          | refine exec_seq ?_
          | refine exec_region ?_
          | refine exec_block ?_
          | refine exec_skip ?_
          | refine exec_exit ?_
          | refine exec_ret ?_
          | refine exec_true rfl ?_
          | refine exec_false rfl ?_
          | refine ops_nil ?_
          | refine ops_pl rfl rfl rfl (.wr64 rfl rfl (by omega) (by omega)) rfl ?_
          | refine ops_pl rfl rfl rfl (.wr8 rfl rfl (by omega) (by omega)) rfl ?_
          | refine ops_pl rfl rfl rfl (.p rfl rfl) rfl ?_
          | refine ops_pl rfl rfl rfl (.cv64 rfl (fun _ => rfl) (by omega) (by omega)) rfl ?_
          | refine ops_pl rfl rfl rfl (.cv8 rfl (fun _ => rfl) (by omega) (by omega)) rfl ?_
          | refine ops_pl rfl rfl rfl (.l rfl (fun _ _ => rfl)) rfl ?_
          | refine ops_pl rfl rfl rfl (.l rfl (look_own 0 rfl rfl rfl rfl)) rfl ?_
          | refine ops_pl rfl rfl rfl (.l rfl (look_own 1 rfl rfl rfl rfl)) rfl ?_
          | refine ops_pl rfl rfl rfl (.l rfl (look_own 2 rfl rfl rfl rfl)) rfl ?_
          | refine ops_pl rfl rfl rfl (.l rfl (look_own 3 rfl rfl rfl rfl)) rfl ?_
          | refine ops_pl rfl rfl rfl (.l rfl (look_own 4 rfl rfl rfl rfl)) rfl ?_
          | refine ops_pl rfl rfl rfl (.l rfl (look_own 5 rfl rfl rfl rfl)) rfl ?_
          | refine ops_pl rfl rfl rfl (.l rfl (look_own 6 rfl rfl rfl rfl)) rfl ?_
          | refine ops_pl rfl rfl rfl (.l rfl (look_own 7 rfl rfl rfl rfl)) rfl ?_
          | refine ops_pl rfl rfl rfl (.l rfl (look_agg 0 rfl rfl rfl rfl)) rfl ?_
          | refine ops_pl rfl rfl rfl (.l rfl (look_agg 1 rfl rfl rfl rfl)) rfl ?_
          | refine ops_pl rfl rfl rfl (.l rfl (look_agg 2 rfl rfl rfl rfl)) rfl ?_
          | refine ops_pl rfl rfl rfl (.l rfl (look_agg 3 rfl rfl rfl rfl)) rfl ?_
          | refine ops_pl rfl rfl rfl (.l rfl (look_agg 4 rfl rfl rfl rfl)) rfl ?_
          | refine ops_pl rfl rfl rfl (.l rfl (look_agg 5 rfl rfl rfl rfl)) rfl ?_
          | refine ops_pl rfl rfl rfl (.l rfl (look_agg 6 rfl rfl rfl rfl)) rfl ?_
          | refine ops_pl rfl rfl rfl (.l rfl (look_agg 7 rfl rfl rfl rfl)) rfl ?_
          | refine ops_skip rfl rfl rfl ?_
          | (refine ops_step rfl rfl rfl ?_; first | (refine step_box rfl rfl rfl (fun _ => ?_)) | (refine step_alloc rfl rfl rfl rfl (fun _ => ?_)) | (refine step_buildSlice rfl rfl rfl rfl rfl (fun _ => ?_)) | (refine step_store 0 rfl rfl rfl rfl rfl rfl rfl rfl rfl ?_) | (refine step_store 1 rfl rfl rfl rfl rfl rfl rfl rfl rfl ?_) | (refine step_store 2 rfl rfl rfl rfl rfl rfl rfl rfl rfl ?_) | (refine step_store 3 rfl rfl rfl rfl rfl rfl rfl rfl rfl ?_) | (refine step_store 4 rfl rfl rfl rfl rfl rfl rfl rfl rfl ?_) | (refine step_store 5 rfl rfl rfl rfl rfl rfl rfl rfl rfl ?_) | (refine step_store 6 rfl rfl rfl rfl rfl rfl rfl rfl rfl ?_) | (refine step_store 7 rfl rfl rfl rfl rfl rfl rfl rfl rfl ?_)))
      rw [hd]
      repeat (first
          | refine exec_seq ?_
          | refine exec_region ?_
          | refine exec_block ?_
          | refine exec_skip ?_
          | refine exec_exit ?_
          | refine exec_ret ?_
          | refine exec_true rfl ?_
          | refine exec_false rfl ?_
          | refine ops_nil ?_
          | refine ops_pl rfl rfl rfl (.wr64 rfl rfl (by omega) (by omega)) rfl ?_
          | refine ops_pl rfl rfl rfl (.wr8 rfl rfl (by omega) (by omega)) rfl ?_
          | refine ops_pl rfl rfl rfl (.p rfl rfl) rfl ?_
          | refine ops_pl rfl rfl rfl (.cv64 rfl (fun _ => rfl) (by omega) (by omega)) rfl ?_
          | refine ops_pl rfl rfl rfl (.cv8 rfl (fun _ => rfl) (by omega) (by omega)) rfl ?_
          | refine ops_pl rfl rfl rfl (.l rfl (fun _ _ => rfl)) rfl ?_
          | refine ops_pl rfl rfl rfl (.l rfl (look_own 0 rfl rfl rfl rfl)) rfl ?_
          | refine ops_pl rfl rfl rfl (.l rfl (look_own 1 rfl rfl rfl rfl)) rfl ?_
          | refine ops_pl rfl rfl rfl (.l rfl (look_own 2 rfl rfl rfl rfl)) rfl ?_
          | refine ops_pl rfl rfl rfl (.l rfl (look_own 3 rfl rfl rfl rfl)) rfl ?_
          | refine ops_pl rfl rfl rfl (.l rfl (look_own 4 rfl rfl rfl rfl)) rfl ?_
          | refine ops_pl rfl rfl rfl (.l rfl (look_own 5 rfl rfl rfl rfl)) rfl ?_
          | refine ops_pl rfl rfl rfl (.l rfl (look_own 6 rfl rfl rfl rfl)) rfl ?_
          | refine ops_pl rfl rfl rfl (.l rfl (look_own 7 rfl rfl rfl rfl)) rfl ?_
          | refine ops_pl rfl rfl rfl (.l rfl (look_agg 0 rfl rfl rfl rfl)) rfl ?_
          | refine ops_pl rfl rfl rfl (.l rfl (look_agg 1 rfl rfl rfl rfl)) rfl ?_
          | refine ops_pl rfl rfl rfl (.l rfl (look_agg 2 rfl rfl rfl rfl)) rfl ?_
          | refine ops_pl rfl rfl rfl (.l rfl (look_agg 3 rfl rfl rfl rfl)) rfl ?_
          | refine ops_pl rfl rfl rfl (.l rfl (look_agg 4 rfl rfl rfl rfl)) rfl ?_
          | refine ops_pl rfl rfl rfl (.l rfl (look_agg 5 rfl rfl rfl rfl)) rfl ?_
          | refine ops_pl rfl rfl rfl (.l rfl (look_agg 6 rfl rfl rfl rfl)) rfl ?_
          | refine ops_pl rfl rfl rfl (.l rfl (look_agg 7 rfl rfl rfl rfl)) rfl ?_
          | refine ops_skip rfl rfl rfl ?_
          | (refine ops_step rfl rfl rfl ?_; first | (refine step_box rfl rfl rfl (fun _ => ?_)) | (refine step_alloc rfl rfl rfl rfl (fun _ => ?_)) | (refine step_buildSlice rfl rfl rfl rfl rfl (fun _ => ?_)) | (refine step_store 0 rfl rfl rfl rfl rfl rfl rfl rfl rfl ?_) | (refine step_store 1 rfl rfl rfl rfl rfl rfl rfl rfl rfl ?_) | (refine step_store 2 rfl rfl rfl rfl rfl rfl rfl rfl rfl ?_) | (refine step_store 3 rfl rfl rfl rfl rfl rfl rfl rfl rfl ?_) | (refine step_store 4 rfl rfl rfl rfl rfl rfl rfl rfl rfl ?_) | (refine step_store 5 rfl rfl rfl rfl rfl rfl rfl rfl rfl ?_) | (refine step_store 6 rfl rfl rfl rfl rfl rfl rfl rfl rfl ?_) | (refine step_store 7 rfl rfl rfl rfl rfl rfl rfl rfl rfl ?_)))
      exact ⟨trivial, _, rfl, by simp [oneOf]⟩
    · refine ops_step rfl rfl rfl (step_call_pure rfl rfl rfl (fun H hs => callB_eq (r' := true) (by rw [pre_take (by omega) (by omega)]; exact hd2) (prefixP_ok (sy H) (sz H) (by omega))) ?_)
      repeat (first
          | refine exec_seq ?_
          | refine exec_region ?_
          | refine exec_block ?_
          | refine exec_skip ?_
          | refine exec_exit ?_
          | refine exec_ret ?_
          | refine exec_true rfl ?_
          | refine exec_false rfl ?_
          | refine ops_nil ?_
          | refine ops_pl rfl rfl rfl (.wr64 rfl rfl (by omega) (by omega)) rfl ?_
          | refine ops_pl rfl rfl rfl (.wr8 rfl rfl (by omega) (by omega)) rfl ?_
          | refine ops_pl rfl rfl rfl (.p rfl rfl) rfl ?_
          | refine ops_pl rfl rfl rfl (.cv64 rfl (fun _ => rfl) (by omega) (by omega)) rfl ?_
          | refine ops_pl rfl rfl rfl (.cv8 rfl (fun _ => rfl) (by omega) (by omega)) rfl ?_
          | refine ops_pl rfl rfl rfl (.l rfl (fun _ _ => rfl)) rfl ?_
          | refine ops_pl rfl rfl rfl (.l rfl (look_own 0 rfl rfl rfl rfl)) rfl ?_
          | refine ops_pl rfl rfl rfl (.l rfl (look_own 1 rfl rfl rfl rfl)) rfl ?_
          | refine ops_pl rfl rfl rfl (.l rfl (look_own 2 rfl rfl rfl rfl)) rfl ?_
          | refine ops_pl rfl rfl rfl (.l rfl (look_own 3 rfl rfl rfl rfl)) rfl ?_
          | refine ops_pl rfl rfl rfl (.l rfl (look_own 4 rfl rfl rfl rfl)) rfl ?_
          | refine ops_pl rfl rfl rfl (.l rfl (look_own 5 rfl rfl rfl rfl)) rfl ?_
          | refine ops_pl rfl rfl rfl (.l rfl (look_own 6 rfl rfl rfl rfl)) rfl ?_
          | refine ops_pl rfl rfl rfl (.l rfl (look_own 7 rfl rfl rfl rfl)) rfl ?_
          | refine ops_pl rfl rfl rfl (.l rfl (look_agg 0 rfl rfl rfl rfl)) rfl ?_
          | refine ops_pl rfl rfl rfl (.l rfl (look_agg 1 rfl rfl rfl rfl)) rfl ?_
          | refine ops_pl rfl rfl rfl (.l rfl (look_agg 2 rfl rfl rfl rfl)) rfl ?_
          | refine ops_pl rfl rfl rfl (.l rfl (look_agg 3 rfl rfl rfl rfl)) rfl ?_
          | refine ops_pl rfl rfl rfl (.l rfl (look_agg 4 rfl rfl rfl rfl)) rfl ?_
          | refine ops_pl rfl rfl rfl (.l rfl (look_agg 5 rfl rfl rfl rfl)) rfl ?_
          | refine ops_pl rfl rfl rfl (.l rfl (look_agg 6 rfl rfl rfl rfl)) rfl ?_
          | refine ops_pl rfl rfl rfl (.l rfl (look_agg 7 rfl rfl rfl rfl)) rfl ?_
          | refine ops_skip rfl rfl rfl ?_
          | (refine ops_step rfl rfl rfl ?_; first | (refine step_box rfl rfl rfl (fun _ => ?_)) | (refine step_alloc rfl rfl rfl rfl (fun _ => ?_)) | (refine step_buildSlice rfl rfl rfl rfl rfl (fun _ => ?_)) | (refine step_store 0 rfl rfl rfl rfl rfl rfl rfl rfl rfl ?_) | (refine step_store 1 rfl rfl rfl rfl rfl rfl rfl rfl rfl ?_) | (refine step_store 2 rfl rfl rfl rfl rfl rfl rfl rfl rfl ?_) | (refine step_store 3 rfl rfl rfl rfl rfl rfl rfl rfl rfl ?_) | (refine step_store 4 rfl rfl rfl rfl rfl rfl rfl rfl rfl ?_) | (refine step_store 5 rfl rfl rfl rfl rfl rfl rfl rfl rfl ?_) | (refine step_store 6 rfl rfl rfl rfl rfl rfl rfl rfl rfl ?_) | (refine step_store 7 rfl rfl rfl rfl rfl rfl rfl rfl rfl ?_)))
      refine ops_step rfl rfl rfl (step_call_pure rfl rfl rfl (fun H hs => callB_eq (r' := true) (by rw [pre_take (by omega) (by omega)]; simp at hd2 ⊢; omega) (prefixP_ok (sx H) (sz H) (by omega))) ?_)
      repeat (first
          | refine exec_seq ?_
          | refine exec_region ?_
          | refine exec_block ?_
          | refine exec_skip ?_
          | refine exec_exit ?_
          | refine exec_ret ?_
          | refine exec_true rfl ?_
          | refine exec_false rfl ?_
          | refine ops_nil ?_
          | refine ops_pl rfl rfl rfl (.wr64 rfl rfl (by omega) (by omega)) rfl ?_
          | refine ops_pl rfl rfl rfl (.wr8 rfl rfl (by omega) (by omega)) rfl ?_
          | refine ops_pl rfl rfl rfl (.p rfl rfl) rfl ?_
          | refine ops_pl rfl rfl rfl (.cv64 rfl (fun _ => rfl) (by omega) (by omega)) rfl ?_
          | refine ops_pl rfl rfl rfl (.cv8 rfl (fun _ => rfl) (by omega) (by omega)) rfl ?_
          | refine ops_pl rfl rfl rfl (.l rfl (fun _ _ => rfl)) rfl ?_
          | refine ops_pl rfl rfl rfl (.l rfl (look_own 0 rfl rfl rfl rfl)) rfl ?_
          | refine ops_pl rfl rfl rfl (.l rfl (look_own 1 rfl rfl rfl rfl)) rfl ?_
          | refine ops_pl rfl rfl rfl (.l rfl (look_own 2 rfl rfl rfl rfl)) rfl ?_
          | refine ops_pl rfl rfl rfl (.l rfl (look_own 3 rfl rfl rfl rfl)) rfl ?_
          | refine ops_pl rfl rfl rfl (.l rfl (look_own 4 rfl rfl rfl rfl)) rfl ?_
          | refine ops_pl rfl rfl rfl (.l rfl (look_own 5 rfl rfl rfl rfl)) rfl ?_
          | refine ops_pl rfl rfl rfl (.l rfl (look_own 6 rfl rfl rfl rfl)) rfl ?_
          | refine ops_pl rfl rfl rfl (.l rfl (look_own 7 rfl rfl rfl rfl)) rfl ?_
          | refine ops_pl rfl rfl rfl (.l rfl (look_agg 0 rfl rfl rfl rfl)) rfl ?_
          | refine ops_pl rfl rfl rfl (.l rfl (look_agg 1 rfl rfl rfl rfl)) rfl ?_
          | refine ops_pl rfl rfl rfl (.l rfl (look_agg 2 rfl rfl rfl rfl)) rfl ?_
          | refine ops_pl rfl rfl rfl (.l rfl (look_agg 3 rfl rfl rfl rfl)) rfl ?_
          | refine ops_pl rfl rfl rfl (.l rfl (look_agg 4 rfl rfl rfl rfl)) rfl ?_
          | refine ops_pl rfl rfl rfl (.l rfl (look_agg 5 rfl rfl rfl rfl)) rfl ?_
          | refine ops_pl rfl rfl rfl (.l rfl (look_agg 6 rfl rfl rfl rfl)) rfl ?_
          | refine ops_pl rfl rfl rfl (.l rfl (look_agg 7 rfl rfl rfl rfl)) rfl ?_
          | refine ops_skip rfl rfl rfl ?_
          | (refine ops_step rfl rfl rfl ?_; first | (refine step_box rfl rfl rfl (fun _ => ?_)) | (refine step_alloc rfl rfl rfl rfl (fun _ => ?_)) | (refine step_buildSlice rfl rfl rfl rfl rfl (fun _ => ?_)) | (refine step_store 0 rfl rfl rfl rfl rfl rfl rfl rfl rfl ?_) | (refine step_store 1 rfl rfl rfl rfl rfl rfl rfl rfl rfl ?_) | (refine step_store 2 rfl rfl rfl rfl rfl rfl rfl rfl rfl ?_) | (refine step_store 3 rfl rfl rfl rfl rfl rfl rfl rfl rfl ?_) | (refine step_store 4 rfl rfl rfl rfl rfl rfl rfl rfl rfl ?_) | (refine step_store 5 rfl rfl rfl rfl rfl rfl rfl rfl rfl ?_) | (refine step_store 6 rfl rfl rfl rfl rfl rfl rfl rfl rfl ?_) | (refine step_store 7 rfl rfl rfl rfl rfl rfl rfl rfl rfl ?_)))
      refine ops_step rfl rfl rfl (step_call_pure rfl rfl rfl (fun H hs => callB_eq e3 (prefixP_ok (sy H) (hpl hs rfl) (by omega))) ?_)
      repeat (first
          | refine exec_seq ?_
          | refine exec_region ?_
          | refine exec_block ?_
          | refine exec_skip ?_
          | refine exec_exit ?_
          | refine exec_ret ?_
          | refine exec_true rfl ?_
          | refine exec_false rfl ?_
          | refine ops_nil ?_
          | refine ops_pl rfl rfl rfl (.wr64 rfl rfl (by omega) (by omega)) rfl ?_
          | refine ops_pl rfl rfl rfl (.wr8 rfl rfl (by omega) (by omega)) rfl ?_
          | refine ops_pl rfl rfl rfl (.p rfl rfl) rfl ?_
          | refine ops_pl rfl rfl rfl (.cv64 rfl (fun _ => rfl) (by omega) (by omega)) rfl ?_
          | refine ops_pl rfl rfl rfl (.cv8 rfl (fun _ => rfl) (by omega) (by omega)) rfl ?_
          | refine ops_pl rfl rfl rfl (.l rfl (fun _ _ => rfl)) rfl ?_
          | refine ops_pl rfl rfl rfl (.l rfl (look_own 0 rfl rfl rfl rfl)) rfl ?_
          | refine ops_pl rfl rfl rfl (.l rfl (look_own 1 rfl rfl rfl rfl)) rfl ?_
          | refine ops_pl rfl rfl rfl (.l rfl (look_own 2 rfl rfl rfl rfl)) rfl ?_
          | refine ops_pl rfl rfl rfl (.l rfl (look_own 3 rfl rfl rfl rfl)) rfl ?_
          | refine ops_pl rfl rfl rfl (.l rfl (look_own 4 rfl rfl rfl rfl)) rfl ?_
          | refine ops_pl rfl rfl rfl (.l rfl (look_own 5 rfl rfl rfl rfl)) rfl ?_
          | refine ops_pl rfl rfl rfl (.l rfl (look_own 6 rfl rfl rfl rfl)) rfl ?_
          | refine ops_pl rfl rfl rfl (.l rfl (look_own 7 rfl rfl rfl rfl)) rfl ?_
          | refine ops_pl rfl rfl rfl (.l rfl (look_agg 0 rfl rfl rfl rfl)) rfl ?_
          | refine ops_pl rfl rfl rfl (.l rfl (look_agg 1 rfl rfl rfl rfl)) rfl ?_
          | refine ops_pl rfl rfl rfl (.l rfl (look_agg 2 rfl rfl rfl rfl)) rfl ?_
          | refine ops_pl rfl rfl rfl (.l rfl (look_agg 3 rfl rfl rfl rfl)) rfl ?_
          | refine ops_pl rfl rfl rfl (.l rfl (look_agg 4 rfl rfl rfl rfl)) rfl ?_
          | refine ops_pl rfl rfl rfl (.l rfl (look_agg 5 rfl rfl rfl rfl)) rfl ?_
          | refine ops_pl rfl rfl rfl (.l rfl (look_agg 6 rfl rfl rfl rfl)) rfl ?_
          | refine ops_pl rfl rfl rfl (.l rfl (look_agg 7 rfl rfl rfl rfl)) rfl ?_
          | refine ops_skip rfl rfl rfl ?_
          | (refine ops_step rfl rfl rfl ?_; first | (refine step_box rfl rfl rfl (fun _ => ?_)) | (refine step_alloc rfl rfl rfl rfl (fun _ => ?_)) | (refine step_buildSlice rfl rfl rfl rfl rfl (fun _ => ?_)) | (refine step_store 0 rfl rfl rfl rfl rfl rfl rfl rfl rfl ?_) | (refine step_store 1 rfl rfl rfl rfl rfl rfl rfl rfl rfl ?_) | (refine step_store 2 rfl rfl rfl rfl rfl rfl rfl rfl rfl ?_) | (refine step_store 3 rfl rfl rfl rfl rfl rfl rfl rfl rfl ?_) | (refine step_store 4 rfl rfl rfl rfl rfl rfl rfl rfl rfl ?_) | (refine step_store 5 rfl rfl rfl rfl rfl rfl rfl rfl rfl ?_) | (refine step_store 6 rfl rfl rfl rfl rfl rfl rfl rfl rfl ?_) | (refine step_store 7 rfl rfl rfl rfl rfl rfl rfl rfl rfl ?_)))
      rw [hd]
      repeat (first
          | refine exec_seq ?_
          | refine exec_region ?_
          | refine exec_block ?_
          | refine exec_skip ?_
          | refine exec_exit ?_
          | refine exec_ret ?_
          | refine exec_true rfl ?_
          | refine exec_false rfl ?_
          | refine ops_nil ?_
          | refine ops_pl rfl rfl rfl (.wr64 rfl rfl (by omega) (by omega)) rfl ?_
          | refine ops_pl rfl rfl rfl (.wr8 rfl rfl (by omega) (by omega)) rfl ?_
          | refine ops_pl rfl rfl rfl (.p rfl rfl) rfl ?_
          | refine ops_pl rfl rfl rfl (.cv64 rfl (fun _ => rfl) (by omega) (by omega)) rfl ?_
          | refine ops_pl rfl rfl rfl (.cv8 rfl (fun _ => rfl) (by omega) (by omega)) rfl ?_
          | refine ops_pl rfl rfl rfl (.l rfl (fun _ _ => rfl)) rfl ?_
          | refine ops_pl rfl rfl rfl (.l rfl (look_own 0 rfl rfl rfl rfl)) rfl ?_
          | refine ops_pl rfl rfl rfl (.l rfl (look_own 1 rfl rfl rfl rfl)) rfl ?_
          | refine ops_pl rfl rfl rfl (.l rfl (look_own 2 rfl rfl rfl rfl)) rfl ?_
          | refine ops_pl rfl rfl rfl (.l rfl (look_own 3 rfl rfl rfl rfl)) rfl ?_
          | refine ops_pl rfl rfl rfl (.l rfl (look_own 4 rfl rfl rfl rfl)) rfl ?_
          | refine ops_pl rfl rfl rfl (.l rfl (look_own 5 rfl rfl rfl rfl)) rfl ?_
          | refine ops_pl rfl rfl rfl (.l rfl (look_own 6 rfl rfl rfl rfl)) rfl ?_
          | refine ops_pl rfl rfl rfl (.l rfl (look_own 7 rfl rfl rfl rfl)) rfl ?_
          | refine ops_pl rfl rfl rfl (.l rfl (look_agg 0 rfl rfl rfl rfl)) rfl ?_
          | refine ops_pl rfl rfl rfl (.l rfl (look_agg 1 rfl rfl rfl rfl)) rfl ?_
          | refine ops_pl rfl rfl rfl (.l rfl (look_agg 2 rfl rfl rfl rfl)) rfl ?_
          | refine ops_pl rfl rfl rfl (.l rfl (look_agg 3 rfl rfl rfl rfl)) rfl ?_
          | refine ops_pl rfl rfl rfl (.l rfl (look_agg 4 rfl rfl rfl rfl)) rfl ?_
          | refine ops_pl rfl rfl rfl (.l rfl (look_agg 5 rfl rfl rfl rfl)) rfl ?_
          | refine ops_pl rfl rfl rfl (.l rfl (look_agg 6 rfl rfl rfl rfl)) rfl ?_
          | refine ops_pl rfl rfl rfl (.l rfl (look_agg 7 rfl rfl rfl rfl)) rfl ?_
          | refine ops_skip rfl rfl rfl ?_
          | (refine ops_step rfl rfl rfl ?_; first | (refine step_box rfl rfl rfl (fun _ => ?_)) | (refine step_alloc rfl rfl rfl rfl (fun _ => ?_)) | (refine step_buildSlice rfl rfl rfl rfl rfl (fun _ => ?_)) | (refine step_store 0 rfl rfl rfl rfl rfl rfl rfl rfl rfl ?_) | (refine step_store 1 rfl rfl rfl rfl rfl rfl rfl rfl rfl ?_) | (refine step_store 2 rfl rfl rfl rfl rfl rfl rfl rfl rfl ?_) | (refine step_store 3 rfl rfl rfl rfl rfl rfl rfl rfl rfl ?_) | (refine step_store 4 rfl rfl rfl rfl rfl rfl rfl rfl rfl ?_) | (refine step_store 5 rfl rfl rfl rfl rfl rfl rfl rfl rfl ?_) | (refine step_store 6 rfl rfl rfl rfl rfl rfl rfl rfl rfl ?_) | (refine step_store 7 rfl rfl rfl rfl rfl rfl rfl rfl rfl ?_)))
      exact ⟨trivial, _, rfl, by simp [oneOf]⟩
end Go.Proofs.Ytafbconajhpijaa

