/-
  Walks of the functions that say whether two lists of texts are alike.
-/
import Derived.Test.YtafbconajhpijaaEvTab
namespace Go.Proofs.Ytafbconajhpijaa
open Go.Ev Go.Ev.Wk
set_option linter.unusedVariables false
set_option linter.unusedSimpArgs false
variable {O : Old}
abbrev str (l : List UInt8) : Value := .string ⟨⟨l⟩⟩

set_option maxRecDepth 100000 in
theorem equalP_ok {H : Heap} {aa ab : Option Addr} {n m ca cb : Nat} {la lb : List (List UInt8)} (ha : Sl O H (.slice aa n ca) 1 n (la.map str)) (hb : Sl O H (.slice ab m cb) 1 m (lb.map str)) (hn : n ≤ 1073741824) :
    CallC TT O 39 [.slice aa n ca, .slice ab m cb] H fun v H' => v = .bool (decide (la = lb)) ∧ Ext H H' := by
  refine call_pure rfl rfl rfl rfl rfl ?_
  repeat (first
      | refine exec_seq ?_
      | refine exec_region ?_
      | refine exec_block ?_
      | refine exec_skip ?_
      | refine exec_exit ?_
      | refine exec_ret ?_
      | refine exec_true rfl ?_
      | refine exec_false rfl ?_
      | refine ops_nil ?_
      | refine ops_pl rfl rfl rfl (.bld rfl rfl rfl rfl) rfl ?_
      | refine ops_pl rfl rfl rfl (.neSelf rfl rfl rfl rfl) rfl ?_
      | refine ops_pl rfl rfl rfl (.eqSelf rfl rfl rfl rfl) rfl ?_
      | refine ops_pl rfl rfl rfl (.wr64 rfl rfl (by omega) (by omega)) rfl ?_
      | refine ops_pl rfl rfl rfl (.wr8 rfl rfl (by omega) (by omega)) rfl ?_
      | refine ops_pl rfl rfl rfl (.p rfl rfl) rfl ?_
      | refine ops_pl rfl rfl rfl (.cv64 rfl (fun _ => rfl) (by omega) (by omega)) rfl ?_
      | refine ops_pl rfl rfl rfl (.cv8 rfl (fun _ => rfl) (by omega) (by omega)) rfl ?_
      | refine ops_pl rfl rfl rfl (.l rfl (fun _ _ => rfl)) rfl ?_
      | refine ops_pl rfl rfl rfl (.l rfl (look_own 0 rfl rfl rfl rfl)) rfl ?_
      | refine ops_pl rfl rfl rfl (.l rfl (look_own 1 rfl rfl rfl rfl)) rfl ?_
      | refine ops_pl rfl rfl rfl (.l rfl (look_own 2 rfl rfl rfl rfl)) rfl ?_
      | refine ops_pl rfl rfl rfl (.l rfl (look_own 3 rfl rfl rfl rfl)) rfl ?_
      | refine ops_pl rfl rfl rfl (.l rfl (look_own 4 rfl rfl rfl rfl)) rfl ?_
      | refine ops_pl rfl rfl rfl (.l rfl (look_own 5 rfl rfl rfl rfl)) rfl ?_
      | refine ops_pl rfl rfl rfl (.l rfl (look_own 6 rfl rfl rfl rfl)) rfl ?_
      | refine ops_pl rfl rfl rfl (.l rfl (look_own 7 rfl rfl rfl rfl)) rfl ?_
      | refine ops_pl rfl rfl rfl (.l rfl (look_agg 0 rfl rfl rfl rfl)) rfl ?_
      | refine ops_pl rfl rfl rfl (.l rfl (look_agg 1 rfl rfl rfl rfl)) rfl ?_
      | refine ops_pl rfl rfl rfl (.l rfl (look_agg 2 rfl rfl rfl rfl)) rfl ?_
      | refine ops_pl rfl rfl rfl (.l rfl (look_agg 3 rfl rfl rfl rfl)) rfl ?_
      | refine ops_pl rfl rfl rfl (.l rfl (look_agg 4 rfl rfl rfl rfl)) rfl ?_
      | refine ops_pl rfl rfl rfl (.l rfl (look_agg 5 rfl rfl rfl rfl)) rfl ?_
      | refine ops_pl rfl rfl rfl (.l rfl (look_agg 6 rfl rfl rfl rfl)) rfl ?_
      | refine ops_pl rfl rfl rfl (.l rfl (look_agg 7 rfl rfl rfl rfl)) rfl ?_
      | refine ops_pl rfl rfl rfl (.l rfl (look_str 0 rfl rfl rfl rfl rfl rfl rfl)) rfl ?_
      | refine ops_pl rfl rfl rfl (.l rfl (look_str 1 rfl rfl rfl rfl rfl rfl rfl)) rfl ?_
      | refine ops_pl rfl rfl rfl (.l rfl (look_str 2 rfl rfl rfl rfl rfl rfl rfl)) rfl ?_
      | refine ops_pl rfl rfl rfl (.l rfl (look_str 3 rfl rfl rfl rfl rfl rfl rfl)) rfl ?_
      | refine ops_skip rfl rfl rfl ?_
      | (refine ops_step rfl rfl rfl ?_; first | (refine step_box rfl rfl rfl (fun _ => ?_)) | (refine step_alloc rfl rfl rfl rfl (fun _ => ?_)) | (refine step_buildSlice rfl rfl rfl rfl rfl (fun _ => ?_)) | (refine step_store 0 rfl rfl rfl rfl rfl rfl rfl rfl rfl ?_) | (refine step_store 1 rfl rfl rfl rfl rfl rfl rfl rfl rfl ?_) | (refine step_store 2 rfl rfl rfl rfl rfl rfl rfl rfl rfl ?_) | (refine step_store 3 rfl rfl rfl rfl rfl rfl rfl rfl rfl ?_) | (refine step_store 4 rfl rfl rfl rfl rfl rfl rfl rfl rfl ?_) | (refine step_store 5 rfl rfl rfl rfl rfl rfl rfl rfl rfl ?_) | (refine step_store 6 rfl rfl rfl rfl rfl rfl rfl rfl rfl ?_) | (refine step_store 7 rfl rfl rfl rfl rfl rfl rfl rfl rfl ?_)))
  refine exec_cond rfl (fun hne => ?_) (fun heq => ?_)
  · repeat (first
        | refine exec_seq ?_
        | refine exec_region ?_
        | refine exec_block ?_
        | refine exec_skip ?_
        | refine exec_exit ?_
        | refine exec_ret ?_
        | refine exec_true rfl ?_
        | refine exec_false rfl ?_
        | refine ops_nil ?_
        | refine ops_pl rfl rfl rfl (.bld rfl rfl rfl rfl) rfl ?_
        | refine ops_pl rfl rfl rfl (.neSelf rfl rfl rfl rfl) rfl ?_
        | refine ops_pl rfl rfl rfl (.eqSelf rfl rfl rfl rfl) rfl ?_
        | refine ops_pl rfl rfl rfl (.wr64 rfl rfl (by omega) (by omega)) rfl ?_
        | refine ops_pl rfl rfl rfl (.wr8 rfl rfl (by omega) (by omega)) rfl ?_
        | refine ops_pl rfl rfl rfl (.p rfl rfl) rfl ?_
        | refine ops_pl rfl rfl rfl (.cv64 rfl (fun _ => rfl) (by omega) (by omega)) rfl ?_
        | refine ops_pl rfl rfl rfl (.cv8 rfl (fun _ => rfl) (by omega) (by omega)) rfl ?_
        | refine ops_pl rfl rfl rfl (.l rfl (fun _ _ => rfl)) rfl ?_
        | refine ops_pl rfl rfl rfl (.l rfl (look_own 0 rfl rfl rfl rfl)) rfl ?_
        | refine ops_pl rfl rfl rfl (.l rfl (look_own 1 rfl rfl rfl rfl)) rfl ?_
        | refine ops_pl rfl rfl rfl (.l rfl (look_own 2 rfl rfl rfl rfl)) rfl ?_
        | refine ops_pl rfl rfl rfl (.l rfl (look_own 3 rfl rfl rfl rfl)) rfl ?_
        | refine ops_pl rfl rfl rfl (.l rfl (look_own 4 rfl rfl rfl rfl)) rfl ?_
        | refine ops_pl rfl rfl rfl (.l rfl (look_own 5 rfl rfl rfl rfl)) rfl ?_
        | refine ops_pl rfl rfl rfl (.l rfl (look_own 6 rfl rfl rfl rfl)) rfl ?_
        | refine ops_pl rfl rfl rfl (.l rfl (look_own 7 rfl rfl rfl rfl)) rfl ?_
        | refine ops_pl rfl rfl rfl (.l rfl (look_agg 0 rfl rfl rfl rfl)) rfl ?_
        | refine ops_pl rfl rfl rfl (.l rfl (look_agg 1 rfl rfl rfl rfl)) rfl ?_
        | refine ops_pl rfl rfl rfl (.l rfl (look_agg 2 rfl rfl rfl rfl)) rfl ?_
        | refine ops_pl rfl rfl rfl (.l rfl (look_agg 3 rfl rfl rfl rfl)) rfl ?_
        | refine ops_pl rfl rfl rfl (.l rfl (look_agg 4 rfl rfl rfl rfl)) rfl ?_
        | refine ops_pl rfl rfl rfl (.l rfl (look_agg 5 rfl rfl rfl rfl)) rfl ?_
        | refine ops_pl rfl rfl rfl (.l rfl (look_agg 6 rfl rfl rfl rfl)) rfl ?_
        | refine ops_pl rfl rfl rfl (.l rfl (look_agg 7 rfl rfl rfl rfl)) rfl ?_
        | refine ops_pl rfl rfl rfl (.l rfl (look_str 0 rfl rfl rfl rfl rfl rfl rfl)) rfl ?_
        | refine ops_pl rfl rfl rfl (.l rfl (look_str 1 rfl rfl rfl rfl rfl rfl rfl)) rfl ?_
        | refine ops_pl rfl rfl rfl (.l rfl (look_str 2 rfl rfl rfl rfl rfl rfl rfl)) rfl ?_
        | refine ops_pl rfl rfl rfl (.l rfl (look_str 3 rfl rfl rfl rfl rfl rfl rfl)) rfl ?_
        | refine ops_skip rfl rfl rfl ?_
        | (refine ops_step rfl rfl rfl ?_; first | (refine step_box rfl rfl rfl (fun _ => ?_)) | (refine step_alloc rfl rfl rfl rfl (fun _ => ?_)) | (refine step_buildSlice rfl rfl rfl rfl rfl (fun _ => ?_)) | (refine step_store 0 rfl rfl rfl rfl rfl rfl rfl rfl rfl ?_) | (refine step_store 1 rfl rfl rfl rfl rfl rfl rfl rfl rfl ?_) | (refine step_store 2 rfl rfl rfl rfl rfl rfl rfl rfl rfl ?_) | (refine step_store 3 rfl rfl rfl rfl rfl rfl rfl rfl rfl ?_) | (refine step_store 4 rfl rfl rfl rfl rfl rfl rfl rfl rfl ?_) | (refine step_store 5 rfl rfl rfl rfl rfl rfl rfl rfl rfl ?_) | (refine step_store 6 rfl rfl rfl rfl rfl rfl rfl rfl rfl ?_) | (refine step_store 7 rfl rfl rfl rfl rfl rfl rfl rfl rfl ?_)))
    refine ⟨trivial, _, rfl, ?_⟩
    have : la ≠ lb := by
      rintro rfl
      have h1 := ha.1
      have h2 := hb.1
      simp at h1 h2 hne
      omega
    simp [oneOf, this]
  have hnm : n = m := by simp at heq; omega
  subst hnm
  have hla : la.length = n := by have := ha.1; simpa using this
  have hlb : lb.length = n := by have := hb.1; simpa using this
  repeat (first
      | refine exec_seq ?_
      | refine exec_region ?_
      | refine exec_block ?_
      | refine exec_skip ?_
      | refine exec_exit ?_
      | refine exec_ret ?_
      | refine exec_true rfl ?_
      | refine exec_false rfl ?_
      | refine ops_nil ?_
      | refine ops_pl rfl rfl rfl (.bld rfl rfl rfl rfl) rfl ?_
      | refine ops_pl rfl rfl rfl (.neSelf rfl rfl rfl rfl) rfl ?_
      | refine ops_pl rfl rfl rfl (.eqSelf rfl rfl rfl rfl) rfl ?_
      | refine ops_pl rfl rfl rfl (.wr64 rfl rfl (by omega) (by omega)) rfl ?_
      | refine ops_pl rfl rfl rfl (.wr8 rfl rfl (by omega) (by omega)) rfl ?_
      | refine ops_pl rfl rfl rfl (.p rfl rfl) rfl ?_
      | refine ops_pl rfl rfl rfl (.cv64 rfl (fun _ => rfl) (by omega) (by omega)) rfl ?_
      | refine ops_pl rfl rfl rfl (.cv8 rfl (fun _ => rfl) (by omega) (by omega)) rfl ?_
      | refine ops_pl rfl rfl rfl (.l rfl (fun _ _ => rfl)) rfl ?_
      | refine ops_pl rfl rfl rfl (.l rfl (look_own 0 rfl rfl rfl rfl)) rfl ?_
      | refine ops_pl rfl rfl rfl (.l rfl (look_own 1 rfl rfl rfl rfl)) rfl ?_
      | refine ops_pl rfl rfl rfl (.l rfl (look_own 2 rfl rfl rfl rfl)) rfl ?_
      | refine ops_pl rfl rfl rfl (.l rfl (look_own 3 rfl rfl rfl rfl)) rfl ?_
      | refine ops_pl rfl rfl rfl (.l rfl (look_own 4 rfl rfl rfl rfl)) rfl ?_
      | refine ops_pl rfl rfl rfl (.l rfl (look_own 5 rfl rfl rfl rfl)) rfl ?_
      | refine ops_pl rfl rfl rfl (.l rfl (look_own 6 rfl rfl rfl rfl)) rfl ?_
      | refine ops_pl rfl rfl rfl (.l rfl (look_own 7 rfl rfl rfl rfl)) rfl ?_
      | refine ops_pl rfl rfl rfl (.l rfl (look_agg 0 rfl rfl rfl rfl)) rfl ?_
      | refine ops_pl rfl rfl rfl (.l rfl (look_agg 1 rfl rfl rfl rfl)) rfl ?_
      | refine ops_pl rfl rfl rfl (.l rfl (look_agg 2 rfl rfl rfl rfl)) rfl ?_
      | refine ops_pl rfl rfl rfl (.l rfl (look_agg 3 rfl rfl rfl rfl)) rfl ?_
      | refine ops_pl rfl rfl rfl (.l rfl (look_agg 4 rfl rfl rfl rfl)) rfl ?_
      | refine ops_pl rfl rfl rfl (.l rfl (look_agg 5 rfl rfl rfl rfl)) rfl ?_
      | refine ops_pl rfl rfl rfl (.l rfl (look_agg 6 rfl rfl rfl rfl)) rfl ?_
      | refine ops_pl rfl rfl rfl (.l rfl (look_agg 7 rfl rfl rfl rfl)) rfl ?_
      | refine ops_pl rfl rfl rfl (.l rfl (look_str 0 rfl rfl rfl rfl rfl rfl rfl)) rfl ?_
      | refine ops_pl rfl rfl rfl (.l rfl (look_str 1 rfl rfl rfl rfl rfl rfl rfl)) rfl ?_
      | refine ops_pl rfl rfl rfl (.l rfl (look_str 2 rfl rfl rfl rfl rfl rfl rfl)) rfl ?_
      | refine ops_pl rfl rfl rfl (.l rfl (look_str 3 rfl rfl rfl rfl rfl rfl rfl)) rfl ?_
      | refine ops_skip rfl rfl rfl ?_
      | (refine ops_step rfl rfl rfl ?_; first | (refine step_box rfl rfl rfl (fun _ => ?_)) | (refine step_alloc rfl rfl rfl rfl (fun _ => ?_)) | (refine step_buildSlice rfl rfl rfl rfl rfl (fun _ => ?_)) | (refine step_store 0 rfl rfl rfl rfl rfl rfl rfl rfl rfl ?_) | (refine step_store 1 rfl rfl rfl rfl rfl rfl rfl rfl rfl ?_) | (refine step_store 2 rfl rfl rfl rfl rfl rfl rfl rfl rfl ?_) | (refine step_store 3 rfl rfl rfl rfl rfl rfl rfl rfl rfl ?_) | (refine step_store 4 rfl rfl rfl rfl rfl rfl rfl rfl rfl ?_) | (refine step_store 5 rfl rfl rfl rfl rfl rfl rfl rfl rfl ?_) | (refine step_store 6 rfl rfl rfl rfl rfl rfl rfl rfl rfl ?_) | (refine step_store 7 rfl rfl rfl rfl rfl rfl rfl rfl rfl ?_)))
  refine ExecS.weak (E' := [(0, .slice aa n ca), (1, .slice ab n cb), (12, .int .i64 (n : Int)), (13, .int .i64 ((0 : Nat) : Int))]) ⟨rfl, rfl, rfl, rfl, trivial⟩ (List.Sublist.refl _) ?_
  refine exec_loop (fun k E L => ∃ i : Nat, i + k = n ∧ (∀ j, j < i → la[j]? = lb[j]?) ∧ E = [(0, .slice aa n ca), (1, .slice ab n cb), (12, .int .i64 (n : Int)), (13, .int .i64 (i : Int))] ∧ L = []) ?_ n _ _ ⟨0, by omega, fun j hj => by omega, rfl, rfl⟩
  rintro k E L ⟨i, hik, hpre, rfl, rfl⟩
  repeat (first
      | refine exec_seq ?_
      | refine exec_region ?_
      | refine exec_block ?_
      | refine exec_skip ?_
      | refine exec_exit ?_
      | refine exec_ret ?_
      | refine exec_true rfl ?_
      | refine exec_false rfl ?_
      | refine ops_nil ?_
      | refine ops_pl rfl rfl rfl (.bld rfl rfl rfl rfl) rfl ?_
      | refine ops_pl rfl rfl rfl (.neSelf rfl rfl rfl rfl) rfl ?_
      | refine ops_pl rfl rfl rfl (.eqSelf rfl rfl rfl rfl) rfl ?_
      | refine ops_pl rfl rfl rfl (.wr64 rfl rfl (by omega) (by omega)) rfl ?_
      | refine ops_pl rfl rfl rfl (.wr8 rfl rfl (by omega) (by omega)) rfl ?_
      | refine ops_pl rfl rfl rfl (.p rfl rfl) rfl ?_
      | refine ops_pl rfl rfl rfl (.cv64 rfl (fun _ => rfl) (by omega) (by omega)) rfl ?_
      | refine ops_pl rfl rfl rfl (.cv8 rfl (fun _ => rfl) (by omega) (by omega)) rfl ?_
      | refine ops_pl rfl rfl rfl (.l rfl (fun _ _ => rfl)) rfl ?_
      | refine ops_pl rfl rfl rfl (.l rfl (look_own 0 rfl rfl rfl rfl)) rfl ?_
      | refine ops_pl rfl rfl rfl (.l rfl (look_own 1 rfl rfl rfl rfl)) rfl ?_
      | refine ops_pl rfl rfl rfl (.l rfl (look_own 2 rfl rfl rfl rfl)) rfl ?_
      | refine ops_pl rfl rfl rfl (.l rfl (look_own 3 rfl rfl rfl rfl)) rfl ?_
      | refine ops_pl rfl rfl rfl (.l rfl (look_own 4 rfl rfl rfl rfl)) rfl ?_
      | refine ops_pl rfl rfl rfl (.l rfl (look_own 5 rfl rfl rfl rfl)) rfl ?_
      | refine ops_pl rfl rfl rfl (.l rfl (look_own 6 rfl rfl rfl rfl)) rfl ?_
      | refine ops_pl rfl rfl rfl (.l rfl (look_own 7 rfl rfl rfl rfl)) rfl ?_
      | refine ops_pl rfl rfl rfl (.l rfl (look_agg 0 rfl rfl rfl rfl)) rfl ?_
      | refine ops_pl rfl rfl rfl (.l rfl (look_agg 1 rfl rfl rfl rfl)) rfl ?_
      | refine ops_pl rfl rfl rfl (.l rfl (look_agg 2 rfl rfl rfl rfl)) rfl ?_
      | refine ops_pl rfl rfl rfl (.l rfl (look_agg 3 rfl rfl rfl rfl)) rfl ?_
      | refine ops_pl rfl rfl rfl (.l rfl (look_agg 4 rfl rfl rfl rfl)) rfl ?_
      | refine ops_pl rfl rfl rfl (.l rfl (look_agg 5 rfl rfl rfl rfl)) rfl ?_
      | refine ops_pl rfl rfl rfl (.l rfl (look_agg 6 rfl rfl rfl rfl)) rfl ?_
      | refine ops_pl rfl rfl rfl (.l rfl (look_agg 7 rfl rfl rfl rfl)) rfl ?_
      | refine ops_pl rfl rfl rfl (.l rfl (look_str 0 rfl rfl rfl rfl rfl rfl rfl)) rfl ?_
      | refine ops_pl rfl rfl rfl (.l rfl (look_str 1 rfl rfl rfl rfl rfl rfl rfl)) rfl ?_
      | refine ops_pl rfl rfl rfl (.l rfl (look_str 2 rfl rfl rfl rfl rfl rfl rfl)) rfl ?_
      | refine ops_pl rfl rfl rfl (.l rfl (look_str 3 rfl rfl rfl rfl rfl rfl rfl)) rfl ?_
      | refine ops_skip rfl rfl rfl ?_
      | (refine ops_step rfl rfl rfl ?_; first | (refine step_box rfl rfl rfl (fun _ => ?_)) | (refine step_alloc rfl rfl rfl rfl (fun _ => ?_)) | (refine step_buildSlice rfl rfl rfl rfl rfl (fun _ => ?_)) | (refine step_store 0 rfl rfl rfl rfl rfl rfl rfl rfl rfl ?_) | (refine step_store 1 rfl rfl rfl rfl rfl rfl rfl rfl rfl ?_) | (refine step_store 2 rfl rfl rfl rfl rfl rfl rfl rfl rfl ?_) | (refine step_store 3 rfl rfl rfl rfl rfl rfl rfl rfl rfl ?_) | (refine step_store 4 rfl rfl rfl rfl rfl rfl rfl rfl rfl ?_) | (refine step_store 5 rfl rfl rfl rfl rfl rfl rfl rfl rfl ?_) | (refine step_store 6 rfl rfl rfl rfl rfl rfl rfl rfl rfl ?_) | (refine step_store 7 rfl rfl rfl rfl rfl rfl rfl rfl rfl ?_)))
  refine exec_cond rfl (fun hlt => ?_) (fun hge => ?_)
  · have hi : i < n := by simp at hlt; omega
    repeat (first
        | refine exec_seq ?_
        | refine exec_region ?_
        | refine exec_block ?_
        | refine exec_skip ?_
        | refine exec_exit ?_
        | refine exec_ret ?_
        | refine exec_true rfl ?_
        | refine exec_false rfl ?_
        | refine ops_nil ?_
        | refine ops_pl rfl rfl rfl (.bld rfl rfl rfl rfl) rfl ?_
        | refine ops_pl rfl rfl rfl (.neSelf rfl rfl rfl rfl) rfl ?_
        | refine ops_pl rfl rfl rfl (.eqSelf rfl rfl rfl rfl) rfl ?_
        | refine ops_pl rfl rfl rfl (.wr64 rfl rfl (by omega) (by omega)) rfl ?_
        | refine ops_pl rfl rfl rfl (.wr8 rfl rfl (by omega) (by omega)) rfl ?_
        | refine ops_pl rfl rfl rfl (.p rfl rfl) rfl ?_
        | refine ops_pl rfl rfl rfl (.cv64 rfl (fun _ => rfl) (by omega) (by omega)) rfl ?_
        | refine ops_pl rfl rfl rfl (.cv8 rfl (fun _ => rfl) (by omega) (by omega)) rfl ?_
        | refine ops_pl rfl rfl rfl (.l rfl (fun _ _ => rfl)) rfl ?_
        | refine ops_pl rfl rfl rfl (.l rfl (look_own 0 rfl rfl rfl rfl)) rfl ?_
        | refine ops_pl rfl rfl rfl (.l rfl (look_own 1 rfl rfl rfl rfl)) rfl ?_
        | refine ops_pl rfl rfl rfl (.l rfl (look_own 2 rfl rfl rfl rfl)) rfl ?_
        | refine ops_pl rfl rfl rfl (.l rfl (look_own 3 rfl rfl rfl rfl)) rfl ?_
        | refine ops_pl rfl rfl rfl (.l rfl (look_own 4 rfl rfl rfl rfl)) rfl ?_
        | refine ops_pl rfl rfl rfl (.l rfl (look_own 5 rfl rfl rfl rfl)) rfl ?_
        | refine ops_pl rfl rfl rfl (.l rfl (look_own 6 rfl rfl rfl rfl)) rfl ?_
        | refine ops_pl rfl rfl rfl (.l rfl (look_own 7 rfl rfl rfl rfl)) rfl ?_
        | refine ops_pl rfl rfl rfl (.l rfl (look_agg 0 rfl rfl rfl rfl)) rfl ?_
        | refine ops_pl rfl rfl rfl (.l rfl (look_agg 1 rfl rfl rfl rfl)) rfl ?_
        | refine ops_pl rfl rfl rfl (.l rfl (look_agg 2 rfl rfl rfl rfl)) rfl ?_
        | refine ops_pl rfl rfl rfl (.l rfl (look_agg 3 rfl rfl rfl rfl)) rfl ?_
        | refine ops_pl rfl rfl rfl (.l rfl (look_agg 4 rfl rfl rfl rfl)) rfl ?_
        | refine ops_pl rfl rfl rfl (.l rfl (look_agg 5 rfl rfl rfl rfl)) rfl ?_
        | refine ops_pl rfl rfl rfl (.l rfl (look_agg 6 rfl rfl rfl rfl)) rfl ?_
        | refine ops_pl rfl rfl rfl (.l rfl (look_agg 7 rfl rfl rfl rfl)) rfl ?_
        | refine ops_pl rfl rfl rfl (.l rfl (look_str 0 rfl rfl rfl rfl rfl rfl rfl)) rfl ?_
        | refine ops_pl rfl rfl rfl (.l rfl (look_str 1 rfl rfl rfl rfl rfl rfl rfl)) rfl ?_
        | refine ops_pl rfl rfl rfl (.l rfl (look_str 2 rfl rfl rfl rfl rfl rfl rfl)) rfl ?_
        | refine ops_pl rfl rfl rfl (.l rfl (look_str 3 rfl rfl rfl rfl rfl rfl rfl)) rfl ?_
        | refine ops_skip rfl rfl rfl ?_
        | (refine ops_step rfl rfl rfl ?_; first | (refine step_box rfl rfl rfl (fun _ => ?_)) | (refine step_alloc rfl rfl rfl rfl (fun _ => ?_)) | (refine step_buildSlice rfl rfl rfl rfl rfl (fun _ => ?_)) | (refine step_store 0 rfl rfl rfl rfl rfl rfl rfl rfl rfl ?_) | (refine step_store 1 rfl rfl rfl rfl rfl rfl rfl rfl rfl ?_) | (refine step_store 2 rfl rfl rfl rfl rfl rfl rfl rfl rfl ?_) | (refine step_store 3 rfl rfl rfl rfl rfl rfl rfl rfl rfl ?_) | (refine step_store 4 rfl rfl rfl rfl rfl rfl rfl rfl rfl ?_) | (refine step_store 5 rfl rfl rfl rfl rfl rfl rfl rfl rfl ?_) | (refine step_store 6 rfl rfl rfl rfl rfl rfl rfl rfl rfl ?_) | (refine step_store 7 rfl rfl rfl rfl rfl rfl rfl rfl rfl ?_)))
    refine exec_draw (lst := [(0, 0), (1, 0), (2, 3), (3, 7), (4, 0), (5, 0), (6, 48), (7, 112), (8, 255)]) (full := 511) (by kernel_rfl) (by kernel_rfl) (by kernel_rfl) (by kernel_rfl) ?_
    repeat (first
        | refine draw_pl rfl rfl rfl rfl (.bld rfl rfl rfl rfl) rfl rfl ?_
        | refine draw_pl rfl rfl rfl rfl (.neSelf rfl rfl rfl rfl) rfl rfl ?_
        | refine draw_pl rfl rfl rfl rfl (.eqSelf rfl rfl rfl rfl) rfl rfl ?_
        | refine draw_pl rfl rfl rfl rfl (.wr64 rfl rfl (by omega) (by omega)) rfl rfl ?_
        | refine draw_pl rfl rfl rfl rfl (.wr8 rfl rfl (by omega) (by omega)) rfl rfl ?_
        | refine draw_pl rfl rfl rfl rfl (.p rfl rfl) rfl rfl ?_
        | refine draw_pl rfl rfl rfl rfl (.cv64 rfl (fun _ => rfl) (by omega) (by omega)) rfl rfl ?_
        | refine draw_pl rfl rfl rfl rfl (.cv8 rfl (fun _ => rfl) (by omega) (by omega)) rfl rfl ?_
        | refine draw_pl rfl rfl rfl rfl (.l rfl (fun _ _ => rfl)) rfl rfl ?_
        | refine draw_pl rfl rfl rfl rfl (.l rfl (look_own 0 rfl rfl rfl rfl)) rfl rfl ?_
        | refine draw_pl rfl rfl rfl rfl (.l rfl (look_own 1 rfl rfl rfl rfl)) rfl rfl ?_
        | refine draw_pl rfl rfl rfl rfl (.l rfl (look_own 2 rfl rfl rfl rfl)) rfl rfl ?_
        | refine draw_pl rfl rfl rfl rfl (.l rfl (look_own 3 rfl rfl rfl rfl)) rfl rfl ?_
        | refine draw_pl rfl rfl rfl rfl (.l rfl (look_own 4 rfl rfl rfl rfl)) rfl rfl ?_
        | refine draw_pl rfl rfl rfl rfl (.l rfl (look_own 5 rfl rfl rfl rfl)) rfl rfl ?_
        | refine draw_pl rfl rfl rfl rfl (.l rfl (look_own 6 rfl rfl rfl rfl)) rfl rfl ?_
        | refine draw_pl rfl rfl rfl rfl (.l rfl (look_own 7 rfl rfl rfl rfl)) rfl rfl ?_
        | refine draw_pl rfl rfl rfl rfl (.l rfl (look_agg 0 rfl rfl rfl rfl)) rfl rfl ?_
        | refine draw_pl rfl rfl rfl rfl (.l rfl (look_agg 1 rfl rfl rfl rfl)) rfl rfl ?_
        | refine draw_pl rfl rfl rfl rfl (.l rfl (look_agg 2 rfl rfl rfl rfl)) rfl rfl ?_
        | refine draw_pl rfl rfl rfl rfl (.l rfl (look_agg 3 rfl rfl rfl rfl)) rfl rfl ?_
        | refine draw_pl rfl rfl rfl rfl (.l rfl (look_agg 4 rfl rfl rfl rfl)) rfl rfl ?_
        | refine draw_pl rfl rfl rfl rfl (.l rfl (look_agg 5 rfl rfl rfl rfl)) rfl rfl ?_
        | refine draw_pl rfl rfl rfl rfl (.l rfl (look_agg 6 rfl rfl rfl rfl)) rfl rfl ?_
        | refine draw_pl rfl rfl rfl rfl (.l rfl (look_agg 7 rfl rfl rfl rfl)) rfl rfl ?_
        | refine draw_pl rfl rfl rfl rfl (.l rfl (look_str 0 rfl rfl rfl rfl rfl rfl rfl)) rfl rfl ?_
        | refine draw_pl rfl rfl rfl rfl (.l rfl (look_str 1 rfl rfl rfl rfl rfl rfl rfl)) rfl rfl ?_
        | refine draw_pl rfl rfl rfl rfl (.l rfl (look_str 2 rfl rfl rfl rfl rfl rfl rfl)) rfl rfl ?_
        | refine draw_pl rfl rfl rfl rfl (.l rfl (look_str 3 rfl rfl rfl rfl rfl rfl rfl)) rfl rfl ?_
        | refine draw_skip rfl rfl rfl rfl ?_
        | refine draw_nil ?_)
    first | refine ops_pl rfl rfl rfl (.p rfl (opP_idx rfl rfl ha rfl rfl (by omega) (by omega))) rfl ?_ | refine draw_pl rfl rfl rfl rfl (.p rfl (opP_idx rfl rfl ha rfl rfl (by omega) (by omega))) rfl rfl ?_
    first | refine ops_pl rfl rfl rfl (.l rfl (fun H hs => opL_load rfl ((ha.at hs).ld rfl (getMap (l := la) (i := i) (by omega) rfl)))) rfl ?_ | refine draw_pl rfl rfl rfl rfl (.l rfl (fun H hs => opL_load rfl ((ha.at hs).ld rfl (getMap (l := la) (i := i) (by omega) rfl)))) rfl rfl ?_
    repeat (first
        | refine draw_pl rfl rfl rfl rfl (.bld rfl rfl rfl rfl) rfl rfl ?_
        | refine draw_pl rfl rfl rfl rfl (.neSelf rfl rfl rfl rfl) rfl rfl ?_
        | refine draw_pl rfl rfl rfl rfl (.eqSelf rfl rfl rfl rfl) rfl rfl ?_
        | refine draw_pl rfl rfl rfl rfl (.wr64 rfl rfl (by omega) (by omega)) rfl rfl ?_
        | refine draw_pl rfl rfl rfl rfl (.wr8 rfl rfl (by omega) (by omega)) rfl rfl ?_
        | refine draw_pl rfl rfl rfl rfl (.p rfl rfl) rfl rfl ?_
        | refine draw_pl rfl rfl rfl rfl (.cv64 rfl (fun _ => rfl) (by omega) (by omega)) rfl rfl ?_
        | refine draw_pl rfl rfl rfl rfl (.cv8 rfl (fun _ => rfl) (by omega) (by omega)) rfl rfl ?_
        | refine draw_pl rfl rfl rfl rfl (.l rfl (fun _ _ => rfl)) rfl rfl ?_
        | refine draw_pl rfl rfl rfl rfl (.l rfl (look_own 0 rfl rfl rfl rfl)) rfl rfl ?_
        | refine draw_pl rfl rfl rfl rfl (.l rfl (look_own 1 rfl rfl rfl rfl)) rfl rfl ?_
        | refine draw_pl rfl rfl rfl rfl (.l rfl (look_own 2 rfl rfl rfl rfl)) rfl rfl ?_
        | refine draw_pl rfl rfl rfl rfl (.l rfl (look_own 3 rfl rfl rfl rfl)) rfl rfl ?_
        | refine draw_pl rfl rfl rfl rfl (.l rfl (look_own 4 rfl rfl rfl rfl)) rfl rfl ?_
        | refine draw_pl rfl rfl rfl rfl (.l rfl (look_own 5 rfl rfl rfl rfl)) rfl rfl ?_
        | refine draw_pl rfl rfl rfl rfl (.l rfl (look_own 6 rfl rfl rfl rfl)) rfl rfl ?_
        | refine draw_pl rfl rfl rfl rfl (.l rfl (look_own 7 rfl rfl rfl rfl)) rfl rfl ?_
        | refine draw_pl rfl rfl rfl rfl (.l rfl (look_agg 0 rfl rfl rfl rfl)) rfl rfl ?_
        | refine draw_pl rfl rfl rfl rfl (.l rfl (look_agg 1 rfl rfl rfl rfl)) rfl rfl ?_
        | refine draw_pl rfl rfl rfl rfl (.l rfl (look_agg 2 rfl rfl rfl rfl)) rfl rfl ?_
        | refine draw_pl rfl rfl rfl rfl (.l rfl (look_agg 3 rfl rfl rfl rfl)) rfl rfl ?_
        | refine draw_pl rfl rfl rfl rfl (.l rfl (look_agg 4 rfl rfl rfl rfl)) rfl rfl ?_
        | refine draw_pl rfl rfl rfl rfl (.l rfl (look_agg 5 rfl rfl rfl rfl)) rfl rfl ?_
        | refine draw_pl rfl rfl rfl rfl (.l rfl (look_agg 6 rfl rfl rfl rfl)) rfl rfl ?_
        | refine draw_pl rfl rfl rfl rfl (.l rfl (look_agg 7 rfl rfl rfl rfl)) rfl rfl ?_
        | refine draw_pl rfl rfl rfl rfl (.l rfl (look_str 0 rfl rfl rfl rfl rfl rfl rfl)) rfl rfl ?_
        | refine draw_pl rfl rfl rfl rfl (.l rfl (look_str 1 rfl rfl rfl rfl rfl rfl rfl)) rfl rfl ?_
        | refine draw_pl rfl rfl rfl rfl (.l rfl (look_str 2 rfl rfl rfl rfl rfl rfl rfl)) rfl rfl ?_
        | refine draw_pl rfl rfl rfl rfl (.l rfl (look_str 3 rfl rfl rfl rfl rfl rfl rfl)) rfl rfl ?_
        | refine draw_skip rfl rfl rfl rfl ?_
        | refine draw_nil ?_)
    first | refine ops_pl rfl rfl rfl (.p rfl (opP_idx rfl rfl hb rfl rfl (by omega) (by omega))) rfl ?_ | refine draw_pl rfl rfl rfl rfl (.p rfl (opP_idx rfl rfl hb rfl rfl (by omega) (by omega))) rfl rfl ?_
    first | refine ops_pl rfl rfl rfl (.l rfl (fun H hs => opL_load rfl ((hb.at hs).ld rfl (getMap (l := lb) (i := i) (by omega) rfl)))) rfl ?_ | refine draw_pl rfl rfl rfl rfl (.l rfl (fun H hs => opL_load rfl ((hb.at hs).ld rfl (getMap (l := lb) (i := i) (by omega) rfl)))) rfl rfl ?_
    repeat (first
        | refine draw_pl rfl rfl rfl rfl (.bld rfl rfl rfl rfl) rfl rfl ?_
        | refine draw_pl rfl rfl rfl rfl (.neSelf rfl rfl rfl rfl) rfl rfl ?_
        | refine draw_pl rfl rfl rfl rfl (.eqSelf rfl rfl rfl rfl) rfl rfl ?_
        | refine draw_pl rfl rfl rfl rfl (.wr64 rfl rfl (by omega) (by omega)) rfl rfl ?_
        | refine draw_pl rfl rfl rfl rfl (.wr8 rfl rfl (by omega) (by omega)) rfl rfl ?_
        | refine draw_pl rfl rfl rfl rfl (.p rfl rfl) rfl rfl ?_
        | refine draw_pl rfl rfl rfl rfl (.cv64 rfl (fun _ => rfl) (by omega) (by omega)) rfl rfl ?_
        | refine draw_pl rfl rfl rfl rfl (.cv8 rfl (fun _ => rfl) (by omega) (by omega)) rfl rfl ?_
        | refine draw_pl rfl rfl rfl rfl (.l rfl (fun _ _ => rfl)) rfl rfl ?_
        | refine draw_pl rfl rfl rfl rfl (.l rfl (look_own 0 rfl rfl rfl rfl)) rfl rfl ?_
        | refine draw_pl rfl rfl rfl rfl (.l rfl (look_own 1 rfl rfl rfl rfl)) rfl rfl ?_
        | refine draw_pl rfl rfl rfl rfl (.l rfl (look_own 2 rfl rfl rfl rfl)) rfl rfl ?_
        | refine draw_pl rfl rfl rfl rfl (.l rfl (look_own 3 rfl rfl rfl rfl)) rfl rfl ?_
        | refine draw_pl rfl rfl rfl rfl (.l rfl (look_own 4 rfl rfl rfl rfl)) rfl rfl ?_
        | refine draw_pl rfl rfl rfl rfl (.l rfl (look_own 5 rfl rfl rfl rfl)) rfl rfl ?_
        | refine draw_pl rfl rfl rfl rfl (.l rfl (look_own 6 rfl rfl rfl rfl)) rfl rfl ?_
        | refine draw_pl rfl rfl rfl rfl (.l rfl (look_own 7 rfl rfl rfl rfl)) rfl rfl ?_
        | refine draw_pl rfl rfl rfl rfl (.l rfl (look_agg 0 rfl rfl rfl rfl)) rfl rfl ?_
        | refine draw_pl rfl rfl rfl rfl (.l rfl (look_agg 1 rfl rfl rfl rfl)) rfl rfl ?_
        | refine draw_pl rfl rfl rfl rfl (.l rfl (look_agg 2 rfl rfl rfl rfl)) rfl rfl ?_
        | refine draw_pl rfl rfl rfl rfl (.l rfl (look_agg 3 rfl rfl rfl rfl)) rfl rfl ?_
        | refine draw_pl rfl rfl rfl rfl (.l rfl (look_agg 4 rfl rfl rfl rfl)) rfl rfl ?_
        | refine draw_pl rfl rfl rfl rfl (.l rfl (look_agg 5 rfl rfl rfl rfl)) rfl rfl ?_
        | refine draw_pl rfl rfl rfl rfl (.l rfl (look_agg 6 rfl rfl rfl rfl)) rfl rfl ?_
        | refine draw_pl rfl rfl rfl rfl (.l rfl (look_agg 7 rfl rfl rfl rfl)) rfl rfl ?_
        | refine draw_pl rfl rfl rfl rfl (.l rfl (look_str 0 rfl rfl rfl rfl rfl rfl rfl)) rfl rfl ?_
        | refine draw_pl rfl rfl rfl rfl (.l rfl (look_str 1 rfl rfl rfl rfl rfl rfl rfl)) rfl rfl ?_
        | refine draw_pl rfl rfl rfl rfl (.l rfl (look_str 2 rfl rfl rfl rfl rfl rfl rfl)) rfl rfl ?_
        | refine draw_pl rfl rfl rfl rfl (.l rfl (look_str 3 rfl rfl rfl rfl rfl rfl rfl)) rfl rfl ?_
        | refine draw_skip rfl rfl rfl rfl ?_
        | refine draw_nil ?_)
    refine exec_cond rfl (fun hne => ?_) (fun heq => ?_)
    · repeat (first
          | refine exec_seq ?_
          | refine exec_region ?_
          | refine exec_block ?_
          | refine exec_skip ?_
          | refine exec_exit ?_
          | refine exec_ret ?_
          | refine exec_true rfl ?_
          | refine exec_false rfl ?_
          | refine ops_nil ?_
          | refine ops_pl rfl rfl rfl (.bld rfl rfl rfl rfl) rfl ?_
          | refine ops_pl rfl rfl rfl (.neSelf rfl rfl rfl rfl) rfl ?_
          | refine ops_pl rfl rfl rfl (.eqSelf rfl rfl rfl rfl) rfl ?_
          | refine ops_pl rfl rfl rfl (.wr64 rfl rfl (by omega) (by omega)) rfl ?_
          | refine ops_pl rfl rfl rfl (.wr8 rfl rfl (by omega) (by omega)) rfl ?_
          | refine ops_pl rfl rfl rfl (.p rfl rfl) rfl ?_
          | refine ops_pl rfl rfl rfl (.cv64 rfl (fun _ => rfl) (by omega) (by omega)) rfl ?_
          | refine ops_pl rfl rfl rfl (.cv8 rfl (fun _ => rfl) (by omega) (by omega)) rfl ?_
          | refine ops_pl rfl rfl rfl (.l rfl (fun _ _ => rfl)) rfl ?_
          | refine ops_pl rfl rfl rfl (.l rfl (look_own 0 rfl rfl rfl rfl)) rfl ?_
          | refine ops_pl rfl rfl rfl (.l rfl (look_own 1 rfl rfl rfl rfl)) rfl ?_
          | refine ops_pl rfl rfl rfl (.l rfl (look_own 2 rfl rfl rfl rfl)) rfl ?_
          | refine ops_pl rfl rfl rfl (.l rfl (look_own 3 rfl rfl rfl rfl)) rfl ?_
          | refine ops_pl rfl rfl rfl (.l rfl (look_own 4 rfl rfl rfl rfl)) rfl ?_
          | refine ops_pl rfl rfl rfl (.l rfl (look_own 5 rfl rfl rfl rfl)) rfl ?_
          | refine ops_pl rfl rfl rfl (.l rfl (look_own 6 rfl rfl rfl rfl)) rfl ?_
          | refine ops_pl rfl rfl rfl (.l rfl (look_own 7 rfl rfl rfl rfl)) rfl ?_
          | refine ops_pl rfl rfl rfl (.l rfl (look_agg 0 rfl rfl rfl rfl)) rfl ?_
          | refine ops_pl rfl rfl rfl (.l rfl (look_agg 1 rfl rfl rfl rfl)) rfl ?_
          | refine ops_pl rfl rfl rfl (.l rfl (look_agg 2 rfl rfl rfl rfl)) rfl ?_
          | refine ops_pl rfl rfl rfl (.l rfl (look_agg 3 rfl rfl rfl rfl)) rfl ?_
          | refine ops_pl rfl rfl rfl (.l rfl (look_agg 4 rfl rfl rfl rfl)) rfl ?_
          | refine ops_pl rfl rfl rfl (.l rfl (look_agg 5 rfl rfl rfl rfl)) rfl ?_
          | refine ops_pl rfl rfl rfl (.l rfl (look_agg 6 rfl rfl rfl rfl)) rfl ?_
          | refine ops_pl rfl rfl rfl (.l rfl (look_agg 7 rfl rfl rfl rfl)) rfl ?_
          | refine ops_pl rfl rfl rfl (.l rfl (look_str 0 rfl rfl rfl rfl rfl rfl rfl)) rfl ?_
          | refine ops_pl rfl rfl rfl (.l rfl (look_str 1 rfl rfl rfl rfl rfl rfl rfl)) rfl ?_
          | refine ops_pl rfl rfl rfl (.l rfl (look_str 2 rfl rfl rfl rfl rfl rfl rfl)) rfl ?_
          | refine ops_pl rfl rfl rfl (.l rfl (look_str 3 rfl rfl rfl rfl rfl rfl rfl)) rfl ?_
          | refine ops_skip rfl rfl rfl ?_
          | (refine ops_step rfl rfl rfl ?_; first | (refine step_box rfl rfl rfl (fun _ => ?_)) | (refine step_alloc rfl rfl rfl rfl (fun _ => ?_)) | (refine step_buildSlice rfl rfl rfl rfl rfl (fun _ => ?_)) | (refine step_store 0 rfl rfl rfl rfl rfl rfl rfl rfl rfl ?_) | (refine step_store 1 rfl rfl rfl rfl rfl rfl rfl rfl rfl ?_) | (refine step_store 2 rfl rfl rfl rfl rfl rfl rfl rfl rfl ?_) | (refine step_store 3 rfl rfl rfl rfl rfl rfl rfl rfl rfl ?_) | (refine step_store 4 rfl rfl rfl rfl rfl rfl rfl rfl rfl ?_) | (refine step_store 5 rfl rfl rfl rfl rfl rfl rfl rfl rfl ?_) | (refine step_store 6 rfl rfl rfl rfl rfl rfl rfl rfl rfl ?_) | (refine step_store 7 rfl rfl rfl rfl rfl rfl rfl rfl rfl ?_)))
      refine ⟨trivial, _, rfl, ?_⟩
      have : la ≠ lb := by
        rintro rfl
        simp at hne
      simp [oneOf, this]
    · repeat (first
          | refine exec_seq ?_
          | refine exec_region ?_
          | refine exec_block ?_
          | refine exec_skip ?_
          | refine exec_exit ?_
          | refine exec_ret ?_
          | refine exec_true rfl ?_
          | refine exec_false rfl ?_
          | refine ops_nil ?_
          | refine ops_pl rfl rfl rfl (.bld rfl rfl rfl rfl) rfl ?_
          | refine ops_pl rfl rfl rfl (.neSelf rfl rfl rfl rfl) rfl ?_
          | refine ops_pl rfl rfl rfl (.eqSelf rfl rfl rfl rfl) rfl ?_
          | refine ops_pl rfl rfl rfl (.wr64 rfl rfl (by omega) (by omega)) rfl ?_
          | refine ops_pl rfl rfl rfl (.wr8 rfl rfl (by omega) (by omega)) rfl ?_
          | refine ops_pl rfl rfl rfl (.p rfl rfl) rfl ?_
          | refine ops_pl rfl rfl rfl (.cv64 rfl (fun _ => rfl) (by omega) (by omega)) rfl ?_
          | refine ops_pl rfl rfl rfl (.cv8 rfl (fun _ => rfl) (by omega) (by omega)) rfl ?_
          | refine ops_pl rfl rfl rfl (.l rfl (fun _ _ => rfl)) rfl ?_
          | refine ops_pl rfl rfl rfl (.l rfl (look_own 0 rfl rfl rfl rfl)) rfl ?_
          | refine ops_pl rfl rfl rfl (.l rfl (look_own 1 rfl rfl rfl rfl)) rfl ?_
          | refine ops_pl rfl rfl rfl (.l rfl (look_own 2 rfl rfl rfl rfl)) rfl ?_
          | refine ops_pl rfl rfl rfl (.l rfl (look_own 3 rfl rfl rfl rfl)) rfl ?_
          | refine ops_pl rfl rfl rfl (.l rfl (look_own 4 rfl rfl rfl rfl)) rfl ?_
          | refine ops_pl rfl rfl rfl (.l rfl (look_own 5 rfl rfl rfl rfl)) rfl ?_
          | refine ops_pl rfl rfl rfl (.l rfl (look_own 6 rfl rfl rfl rfl)) rfl ?_
          | refine ops_pl rfl rfl rfl (.l rfl (look_own 7 rfl rfl rfl rfl)) rfl ?_
          | refine ops_pl rfl rfl rfl (.l rfl (look_agg 0 rfl rfl rfl rfl)) rfl ?_
          | refine ops_pl rfl rfl rfl (.l rfl (look_agg 1 rfl rfl rfl rfl)) rfl ?_
          | refine ops_pl rfl rfl rfl (.l rfl (look_agg 2 rfl rfl rfl rfl)) rfl ?_
          | refine ops_pl rfl rfl rfl (.l rfl (look_agg 3 rfl rfl rfl rfl)) rfl ?_
          | refine ops_pl rfl rfl rfl (.l rfl (look_agg 4 rfl rfl rfl rfl)) rfl ?_
          | refine ops_pl rfl rfl rfl (.l rfl (look_agg 5 rfl rfl rfl rfl)) rfl ?_
          | refine ops_pl rfl rfl rfl (.l rfl (look_agg 6 rfl rfl rfl rfl)) rfl ?_
          | refine ops_pl rfl rfl rfl (.l rfl (look_agg 7 rfl rfl rfl rfl)) rfl ?_
          | refine ops_pl rfl rfl rfl (.l rfl (look_str 0 rfl rfl rfl rfl rfl rfl rfl)) rfl ?_
          | refine ops_pl rfl rfl rfl (.l rfl (look_str 1 rfl rfl rfl rfl rfl rfl rfl)) rfl ?_
          | refine ops_pl rfl rfl rfl (.l rfl (look_str 2 rfl rfl rfl rfl rfl rfl rfl)) rfl ?_
          | refine ops_pl rfl rfl rfl (.l rfl (look_str 3 rfl rfl rfl rfl rfl rfl rfl)) rfl ?_
          | refine ops_skip rfl rfl rfl ?_
          | (refine ops_step rfl rfl rfl ?_; first | (refine step_box rfl rfl rfl (fun _ => ?_)) | (refine step_alloc rfl rfl rfl rfl (fun _ => ?_)) | (refine step_buildSlice rfl rfl rfl rfl rfl (fun _ => ?_)) | (refine step_store 0 rfl rfl rfl rfl rfl rfl rfl rfl rfl ?_) | (refine step_store 1 rfl rfl rfl rfl rfl rfl rfl rfl rfl ?_) | (refine step_store 2 rfl rfl rfl rfl rfl rfl rfl rfl rfl ?_) | (refine step_store 3 rfl rfl rfl rfl rfl rfl rfl rfl rfl ?_) | (refine step_store 4 rfl rfl rfl rfl rfl rfl rfl rfl rfl ?_) | (refine step_store 5 rfl rfl rfl rfl rfl rfl rfl rfl rfl ?_) | (refine step_store 6 rfl rfl rfl rfl rfl rfl rfl rfl rfl ?_) | (refine step_store 7 rfl rfl rfl rfl rfl rfl rfl rfl rfl ?_)))
      refine ⟨k - 1, by omega, _, _, ?_, List.Sublist.refl _, i + 1, by omega, fun j hj => ?_, rfl, rfl⟩
      · exact ⟨rfl, rfl, rfl, rfl, trivial⟩
      · by_cases hji : j = i
        · subst hji
          simpa [List.getElem?_eq_getElem, hi, hla, hlb] using heq
        · exact hpre j (by omega)
  · repeat (first
        | refine exec_seq ?_
        | refine exec_region ?_
        | refine exec_block ?_
        | refine exec_skip ?_
        | refine exec_exit ?_
        | refine exec_ret ?_
        | refine exec_true rfl ?_
        | refine exec_false rfl ?_
        | refine ops_nil ?_
        | refine ops_pl rfl rfl rfl (.bld rfl rfl rfl rfl) rfl ?_
        | refine ops_pl rfl rfl rfl (.neSelf rfl rfl rfl rfl) rfl ?_
        | refine ops_pl rfl rfl rfl (.eqSelf rfl rfl rfl rfl) rfl ?_
        | refine ops_pl rfl rfl rfl (.wr64 rfl rfl (by omega) (by omega)) rfl ?_
        | refine ops_pl rfl rfl rfl (.wr8 rfl rfl (by omega) (by omega)) rfl ?_
        | refine ops_pl rfl rfl rfl (.p rfl rfl) rfl ?_
        | refine ops_pl rfl rfl rfl (.cv64 rfl (fun _ => rfl) (by omega) (by omega)) rfl ?_
        | refine ops_pl rfl rfl rfl (.cv8 rfl (fun _ => rfl) (by omega) (by omega)) rfl ?_
        | refine ops_pl rfl rfl rfl (.l rfl (fun _ _ => rfl)) rfl ?_
        | refine ops_pl rfl rfl rfl (.l rfl (look_own 0 rfl rfl rfl rfl)) rfl ?_
        | refine ops_pl rfl rfl rfl (.l rfl (look_own 1 rfl rfl rfl rfl)) rfl ?_
        | refine ops_pl rfl rfl rfl (.l rfl (look_own 2 rfl rfl rfl rfl)) rfl ?_
        | refine ops_pl rfl rfl rfl (.l rfl (look_own 3 rfl rfl rfl rfl)) rfl ?_
        | refine ops_pl rfl rfl rfl (.l rfl (look_own 4 rfl rfl rfl rfl)) rfl ?_
        | refine ops_pl rfl rfl rfl (.l rfl (look_own 5 rfl rfl rfl rfl)) rfl ?_
        | refine ops_pl rfl rfl rfl (.l rfl (look_own 6 rfl rfl rfl rfl)) rfl ?_
        | refine ops_pl rfl rfl rfl (.l rfl (look_own 7 rfl rfl rfl rfl)) rfl ?_
        | refine ops_pl rfl rfl rfl (.l rfl (look_agg 0 rfl rfl rfl rfl)) rfl ?_
        | refine ops_pl rfl rfl rfl (.l rfl (look_agg 1 rfl rfl rfl rfl)) rfl ?_
        | refine ops_pl rfl rfl rfl (.l rfl (look_agg 2 rfl rfl rfl rfl)) rfl ?_
        | refine ops_pl rfl rfl rfl (.l rfl (look_agg 3 rfl rfl rfl rfl)) rfl ?_
        | refine ops_pl rfl rfl rfl (.l rfl (look_agg 4 rfl rfl rfl rfl)) rfl ?_
        | refine ops_pl rfl rfl rfl (.l rfl (look_agg 5 rfl rfl rfl rfl)) rfl ?_
        | refine ops_pl rfl rfl rfl (.l rfl (look_agg 6 rfl rfl rfl rfl)) rfl ?_
        | refine ops_pl rfl rfl rfl (.l rfl (look_agg 7 rfl rfl rfl rfl)) rfl ?_
        | refine ops_pl rfl rfl rfl (.l rfl (look_str 0 rfl rfl rfl rfl rfl rfl rfl)) rfl ?_
        | refine ops_pl rfl rfl rfl (.l rfl (look_str 1 rfl rfl rfl rfl rfl rfl rfl)) rfl ?_
        | refine ops_pl rfl rfl rfl (.l rfl (look_str 2 rfl rfl rfl rfl rfl rfl rfl)) rfl ?_
        | refine ops_pl rfl rfl rfl (.l rfl (look_str 3 rfl rfl rfl rfl rfl rfl rfl)) rfl ?_
        | refine ops_skip rfl rfl rfl ?_
        | (refine ops_step rfl rfl rfl ?_; first | (refine step_box rfl rfl rfl (fun _ => ?_)) | (refine step_alloc rfl rfl rfl rfl (fun _ => ?_)) | (refine step_buildSlice rfl rfl rfl rfl rfl (fun _ => ?_)) | (refine step_store 0 rfl rfl rfl rfl rfl rfl rfl rfl rfl ?_) | (refine step_store 1 rfl rfl rfl rfl rfl rfl rfl rfl rfl ?_) | (refine step_store 2 rfl rfl rfl rfl rfl rfl rfl rfl rfl ?_) | (refine step_store 3 rfl rfl rfl rfl rfl rfl rfl rfl rfl ?_) | (refine step_store 4 rfl rfl rfl rfl rfl rfl rfl rfl rfl ?_) | (refine step_store 5 rfl rfl rfl rfl rfl rfl rfl rfl rfl ?_) | (refine step_store 6 rfl rfl rfl rfl rfl rfl rfl rfl rfl ?_) | (refine step_store 7 rfl rfl rfl rfl rfl rfl rfl rfl rfl ?_)))
    refine ⟨trivial, _, rfl, ?_⟩
    have hin : i = n := by simp at hge; omega
    have : la = lb := by
      apply List.ext_getElem?
      intro j
      by_cases hj : j < i
      · exact hpre j hj
      · rw [List.getElem?_eq_none (by omega), List.getElem?_eq_none (by omega)]
    simp [oneOf, this]

set_option maxRecDepth 100000 in
theorem equalR_ok {H : Heap} {aa ab : Option Addr} {n m ca cb : Nat} {la lb : List (List UInt8)} (ha : Sl O H (.slice aa n ca) 1 n (la.map str)) (hb : Sl O H (.slice ab m cb) 1 m (lb.map str)) (hn : n ≤ 1073741824) :
    CallC TT O 40 [.slice aa n ca, .slice ab m cb] H fun v H' => v = .bool (decide (la = lb)) ∧ Ext H H' := by
  refine call_pure rfl rfl rfl rfl rfl ?_
  repeat (first
      | refine exec_seq ?_
      | refine exec_region ?_
      | refine exec_block ?_
      | refine exec_skip ?_
      | refine exec_exit ?_
      | refine exec_ret ?_
      | refine exec_true rfl ?_
      | refine exec_false rfl ?_
      | refine ops_nil ?_
      | refine ops_pl rfl rfl rfl (.bld rfl rfl rfl rfl) rfl ?_
      | refine ops_pl rfl rfl rfl (.neSelf rfl rfl rfl rfl) rfl ?_
      | refine ops_pl rfl rfl rfl (.eqSelf rfl rfl rfl rfl) rfl ?_
      | refine ops_pl rfl rfl rfl (.wr64 rfl rfl (by omega) (by omega)) rfl ?_
      | refine ops_pl rfl rfl rfl (.wr8 rfl rfl (by omega) (by omega)) rfl ?_
      | refine ops_pl rfl rfl rfl (.p rfl rfl) rfl ?_
      | refine ops_pl rfl rfl rfl (.cv64 rfl (fun _ => rfl) (by omega) (by omega)) rfl ?_
      | refine ops_pl rfl rfl rfl (.cv8 rfl (fun _ => rfl) (by omega) (by omega)) rfl ?_
      | refine ops_pl rfl rfl rfl (.l rfl (fun _ _ => rfl)) rfl ?_
      | refine ops_pl rfl rfl rfl (.l rfl (look_own 0 rfl rfl rfl rfl)) rfl ?_
      | refine ops_pl rfl rfl rfl (.l rfl (look_own 1 rfl rfl rfl rfl)) rfl ?_
      | refine ops_pl rfl rfl rfl (.l rfl (look_own 2 rfl rfl rfl rfl)) rfl ?_
      | refine ops_pl rfl rfl rfl (.l rfl (look_own 3 rfl rfl rfl rfl)) rfl ?_
      | refine ops_pl rfl rfl rfl (.l rfl (look_own 4 rfl rfl rfl rfl)) rfl ?_
      | refine ops_pl rfl rfl rfl (.l rfl (look_own 5 rfl rfl rfl rfl)) rfl ?_
      | refine ops_pl rfl rfl rfl (.l rfl (look_own 6 rfl rfl rfl rfl)) rfl ?_
      | refine ops_pl rfl rfl rfl (.l rfl (look_own 7 rfl rfl rfl rfl)) rfl ?_
      | refine ops_pl rfl rfl rfl (.l rfl (look_agg 0 rfl rfl rfl rfl)) rfl ?_
      | refine ops_pl rfl rfl rfl (.l rfl (look_agg 1 rfl rfl rfl rfl)) rfl ?_
      | refine ops_pl rfl rfl rfl (.l rfl (look_agg 2 rfl rfl rfl rfl)) rfl ?_
      | refine ops_pl rfl rfl rfl (.l rfl (look_agg 3 rfl rfl rfl rfl)) rfl ?_
      | refine ops_pl rfl rfl rfl (.l rfl (look_agg 4 rfl rfl rfl rfl)) rfl ?_
      | refine ops_pl rfl rfl rfl (.l rfl (look_agg 5 rfl rfl rfl rfl)) rfl ?_
      | refine ops_pl rfl rfl rfl (.l rfl (look_agg 6 rfl rfl rfl rfl)) rfl ?_
      | refine ops_pl rfl rfl rfl (.l rfl (look_agg 7 rfl rfl rfl rfl)) rfl ?_
      | refine ops_pl rfl rfl rfl (.l rfl (look_str 0 rfl rfl rfl rfl rfl rfl rfl)) rfl ?_
      | refine ops_pl rfl rfl rfl (.l rfl (look_str 1 rfl rfl rfl rfl rfl rfl rfl)) rfl ?_
      | refine ops_pl rfl rfl rfl (.l rfl (look_str 2 rfl rfl rfl rfl rfl rfl rfl)) rfl ?_
      | refine ops_pl rfl rfl rfl (.l rfl (look_str 3 rfl rfl rfl rfl rfl rfl rfl)) rfl ?_
      | refine ops_skip rfl rfl rfl ?_
      | (refine ops_step rfl rfl rfl ?_; first | (refine step_box rfl rfl rfl (fun _ => ?_)) | (refine step_alloc rfl rfl rfl rfl (fun _ => ?_)) | (refine step_buildSlice rfl rfl rfl rfl rfl (fun _ => ?_)) | (refine step_store 0 rfl rfl rfl rfl rfl rfl rfl rfl rfl ?_) | (refine step_store 1 rfl rfl rfl rfl rfl rfl rfl rfl rfl ?_) | (refine step_store 2 rfl rfl rfl rfl rfl rfl rfl rfl rfl ?_) | (refine step_store 3 rfl rfl rfl rfl rfl rfl rfl rfl rfl ?_) | (refine step_store 4 rfl rfl rfl rfl rfl rfl rfl rfl rfl ?_) | (refine step_store 5 rfl rfl rfl rfl rfl rfl rfl rfl rfl ?_) | (refine step_store 6 rfl rfl rfl rfl rfl rfl rfl rfl rfl ?_) | (refine step_store 7 rfl rfl rfl rfl rfl rfl rfl rfl rfl ?_)))
  refine exec_cond rfl (fun hne => ?_) (fun heq => ?_)
  · repeat (first
        | refine exec_seq ?_
        | refine exec_region ?_
        | refine exec_block ?_
        | refine exec_skip ?_
        | refine exec_exit ?_
        | refine exec_ret ?_
        | refine exec_true rfl ?_
        | refine exec_false rfl ?_
        | refine ops_nil ?_
        | refine ops_pl rfl rfl rfl (.bld rfl rfl rfl rfl) rfl ?_
        | refine ops_pl rfl rfl rfl (.neSelf rfl rfl rfl rfl) rfl ?_
        | refine ops_pl rfl rfl rfl (.eqSelf rfl rfl rfl rfl) rfl ?_
        | refine ops_pl rfl rfl rfl (.wr64 rfl rfl (by omega) (by omega)) rfl ?_
        | refine ops_pl rfl rfl rfl (.wr8 rfl rfl (by omega) (by omega)) rfl ?_
        | refine ops_pl rfl rfl rfl (.p rfl rfl) rfl ?_
        | refine ops_pl rfl rfl rfl (.cv64 rfl (fun _ => rfl) (by omega) (by omega)) rfl ?_
        | refine ops_pl rfl rfl rfl (.cv8 rfl (fun _ => rfl) (by omega) (by omega)) rfl ?_
        | refine ops_pl rfl rfl rfl (.l rfl (fun _ _ => rfl)) rfl ?_
        | refine ops_pl rfl rfl rfl (.l rfl (look_own 0 rfl rfl rfl rfl)) rfl ?_
        | refine ops_pl rfl rfl rfl (.l rfl (look_own 1 rfl rfl rfl rfl)) rfl ?_
        | refine ops_pl rfl rfl rfl (.l rfl (look_own 2 rfl rfl rfl rfl)) rfl ?_
        | refine ops_pl rfl rfl rfl (.l rfl (look_own 3 rfl rfl rfl rfl)) rfl ?_
        | refine ops_pl rfl rfl rfl (.l rfl (look_own 4 rfl rfl rfl rfl)) rfl ?_
        | refine ops_pl rfl rfl rfl (.l rfl (look_own 5 rfl rfl rfl rfl)) rfl ?_
        | refine ops_pl rfl rfl rfl (.l rfl (look_own 6 rfl rfl rfl rfl)) rfl ?_
        | refine ops_pl rfl rfl rfl (.l rfl (look_own 7 rfl rfl rfl rfl)) rfl ?_
        | refine ops_pl rfl rfl rfl (.l rfl (look_agg 0 rfl rfl rfl rfl)) rfl ?_
        | refine ops_pl rfl rfl rfl (.l rfl (look_agg 1 rfl rfl rfl rfl)) rfl ?_
        | refine ops_pl rfl rfl rfl (.l rfl (look_agg 2 rfl rfl rfl rfl)) rfl ?_
        | refine ops_pl rfl rfl rfl (.l rfl (look_agg 3 rfl rfl rfl rfl)) rfl ?_
        | refine ops_pl rfl rfl rfl (.l rfl (look_agg 4 rfl rfl rfl rfl)) rfl ?_
        | refine ops_pl rfl rfl rfl (.l rfl (look_agg 5 rfl rfl rfl rfl)) rfl ?_
        | refine ops_pl rfl rfl rfl (.l rfl (look_agg 6 rfl rfl rfl rfl)) rfl ?_
        | refine ops_pl rfl rfl rfl (.l rfl (look_agg 7 rfl rfl rfl rfl)) rfl ?_
        | refine ops_pl rfl rfl rfl (.l rfl (look_str 0 rfl rfl rfl rfl rfl rfl rfl)) rfl ?_
        | refine ops_pl rfl rfl rfl (.l rfl (look_str 1 rfl rfl rfl rfl rfl rfl rfl)) rfl ?_
        | refine ops_pl rfl rfl rfl (.l rfl (look_str 2 rfl rfl rfl rfl rfl rfl rfl)) rfl ?_
        | refine ops_pl rfl rfl rfl (.l rfl (look_str 3 rfl rfl rfl rfl rfl rfl rfl)) rfl ?_
        | refine ops_skip rfl rfl rfl ?_
        | (refine ops_step rfl rfl rfl ?_; first | (refine step_box rfl rfl rfl (fun _ => ?_)) | (refine step_alloc rfl rfl rfl rfl (fun _ => ?_)) | (refine step_buildSlice rfl rfl rfl rfl rfl (fun _ => ?_)) | (refine step_store 0 rfl rfl rfl rfl rfl rfl rfl rfl rfl ?_) | (refine step_store 1 rfl rfl rfl rfl rfl rfl rfl rfl rfl ?_) | (refine step_store 2 rfl rfl rfl rfl rfl rfl rfl rfl rfl ?_) | (refine step_store 3 rfl rfl rfl rfl rfl rfl rfl rfl rfl ?_) | (refine step_store 4 rfl rfl rfl rfl rfl rfl rfl rfl rfl ?_) | (refine step_store 5 rfl rfl rfl rfl rfl rfl rfl rfl rfl ?_) | (refine step_store 6 rfl rfl rfl rfl rfl rfl rfl rfl rfl ?_) | (refine step_store 7 rfl rfl rfl rfl rfl rfl rfl rfl rfl ?_)))
    refine ⟨trivial, _, rfl, ?_⟩
    have : la ≠ lb := by
      rintro rfl
      have h1 := ha.1
      have h2 := hb.1
      simp at h1 h2 hne
      omega
    simp [oneOf, this]
  have hnm : n = m := by simp at heq; omega
  subst hnm
  have hla : la.length = n := by have := ha.1; simpa using this
  have hlb : lb.length = n := by have := hb.1; simpa using this
  repeat (first
      | refine exec_seq ?_
      | refine exec_region ?_
      | refine exec_block ?_
      | refine exec_skip ?_
      | refine exec_exit ?_
      | refine exec_ret ?_
      | refine exec_true rfl ?_
      | refine exec_false rfl ?_
      | refine ops_nil ?_
      | refine ops_pl rfl rfl rfl (.bld rfl rfl rfl rfl) rfl ?_
      | refine ops_pl rfl rfl rfl (.neSelf rfl rfl rfl rfl) rfl ?_
      | refine ops_pl rfl rfl rfl (.eqSelf rfl rfl rfl rfl) rfl ?_
      | refine ops_pl rfl rfl rfl (.wr64 rfl rfl (by omega) (by omega)) rfl ?_
      | refine ops_pl rfl rfl rfl (.wr8 rfl rfl (by omega) (by omega)) rfl ?_
      | refine ops_pl rfl rfl rfl (.p rfl rfl) rfl ?_
      | refine ops_pl rfl rfl rfl (.cv64 rfl (fun _ => rfl) (by omega) (by omega)) rfl ?_
      | refine ops_pl rfl rfl rfl (.cv8 rfl (fun _ => rfl) (by omega) (by omega)) rfl ?_
      | refine ops_pl rfl rfl rfl (.l rfl (fun _ _ => rfl)) rfl ?_
      | refine ops_pl rfl rfl rfl (.l rfl (look_own 0 rfl rfl rfl rfl)) rfl ?_
      | refine ops_pl rfl rfl rfl (.l rfl (look_own 1 rfl rfl rfl rfl)) rfl ?_
      | refine ops_pl rfl rfl rfl (.l rfl (look_own 2 rfl rfl rfl rfl)) rfl ?_
      | refine ops_pl rfl rfl rfl (.l rfl (look_own 3 rfl rfl rfl rfl)) rfl ?_
      | refine ops_pl rfl rfl rfl (.l rfl (look_own 4 rfl rfl rfl rfl)) rfl ?_
      | refine ops_pl rfl rfl rfl (.l rfl (look_own 5 rfl rfl rfl rfl)) rfl ?_
      | refine ops_pl rfl rfl rfl (.l rfl (look_own 6 rfl rfl rfl rfl)) rfl ?_
      | refine ops_pl rfl rfl rfl (.l rfl (look_own 7 rfl rfl rfl rfl)) rfl ?_
      | refine ops_pl rfl rfl rfl (.l rfl (look_agg 0 rfl rfl rfl rfl)) rfl ?_
      | refine ops_pl rfl rfl rfl (.l rfl (look_agg 1 rfl rfl rfl rfl)) rfl ?_
      | refine ops_pl rfl rfl rfl (.l rfl (look_agg 2 rfl rfl rfl rfl)) rfl ?_
      | refine ops_pl rfl rfl rfl (.l rfl (look_agg 3 rfl rfl rfl rfl)) rfl ?_
      | refine ops_pl rfl rfl rfl (.l rfl (look_agg 4 rfl rfl rfl rfl)) rfl ?_
      | refine ops_pl rfl rfl rfl (.l rfl (look_agg 5 rfl rfl rfl rfl)) rfl ?_
      | refine ops_pl rfl rfl rfl (.l rfl (look_agg 6 rfl rfl rfl rfl)) rfl ?_
      | refine ops_pl rfl rfl rfl (.l rfl (look_agg 7 rfl rfl rfl rfl)) rfl ?_
      | refine ops_pl rfl rfl rfl (.l rfl (look_str 0 rfl rfl rfl rfl rfl rfl rfl)) rfl ?_
      | refine ops_pl rfl rfl rfl (.l rfl (look_str 1 rfl rfl rfl rfl rfl rfl rfl)) rfl ?_
      | refine ops_pl rfl rfl rfl (.l rfl (look_str 2 rfl rfl rfl rfl rfl rfl rfl)) rfl ?_
      | refine ops_pl rfl rfl rfl (.l rfl (look_str 3 rfl rfl rfl rfl rfl rfl rfl)) rfl ?_
      | refine ops_skip rfl rfl rfl ?_
      | (refine ops_step rfl rfl rfl ?_; first | (refine step_box rfl rfl rfl (fun _ => ?_)) | (refine step_alloc rfl rfl rfl rfl (fun _ => ?_)) | (refine step_buildSlice rfl rfl rfl rfl rfl (fun _ => ?_)) | (refine step_store 0 rfl rfl rfl rfl rfl rfl rfl rfl rfl ?_) | (refine step_store 1 rfl rfl rfl rfl rfl rfl rfl rfl rfl ?_) | (refine step_store 2 rfl rfl rfl rfl rfl rfl rfl rfl rfl ?_) | (refine step_store 3 rfl rfl rfl rfl rfl rfl rfl rfl rfl ?_) | (refine step_store 4 rfl rfl rfl rfl rfl rfl rfl rfl rfl ?_) | (refine step_store 5 rfl rfl rfl rfl rfl rfl rfl rfl rfl ?_) | (refine step_store 6 rfl rfl rfl rfl rfl rfl rfl rfl rfl ?_) | (refine step_store 7 rfl rfl rfl rfl rfl rfl rfl rfl rfl ?_)))
  refine ExecS.weak (E' := [(0, .slice aa n ca), (1, .slice ab n cb), (5, .int .i64 ((0 : Nat) : Int))]) ⟨rfl, rfl, rfl, trivial⟩ (List.Sublist.refl _) ?_
  refine exec_loop (fun k E L => ∃ i : Nat, i + k = n ∧ (∀ j, j < i → la[j]? = lb[j]?) ∧ E = [(0, .slice aa n ca), (1, .slice ab n cb), (5, .int .i64 (i : Int))] ∧ L = []) ?_ n _ _ ⟨0, by omega, fun j hj => by omega, rfl, rfl⟩
  rintro k E L ⟨i, hik, hpre, rfl, rfl⟩
  repeat (first
      | refine exec_seq ?_
      | refine exec_region ?_
      | refine exec_block ?_
      | refine exec_skip ?_
      | refine exec_exit ?_
      | refine exec_ret ?_
      | refine exec_true rfl ?_
      | refine exec_false rfl ?_
      | refine ops_nil ?_
      | refine ops_pl rfl rfl rfl (.bld rfl rfl rfl rfl) rfl ?_
      | refine ops_pl rfl rfl rfl (.neSelf rfl rfl rfl rfl) rfl ?_
      | refine ops_pl rfl rfl rfl (.eqSelf rfl rfl rfl rfl) rfl ?_
      | refine ops_pl rfl rfl rfl (.wr64 rfl rfl (by omega) (by omega)) rfl ?_
      | refine ops_pl rfl rfl rfl (.wr8 rfl rfl (by omega) (by omega)) rfl ?_
      | refine ops_pl rfl rfl rfl (.p rfl rfl) rfl ?_
      | refine ops_pl rfl rfl rfl (.cv64 rfl (fun _ => rfl) (by omega) (by omega)) rfl ?_
      | refine ops_pl rfl rfl rfl (.cv8 rfl (fun _ => rfl) (by omega) (by omega)) rfl ?_
      | refine ops_pl rfl rfl rfl (.l rfl (fun _ _ => rfl)) rfl ?_
      | refine ops_pl rfl rfl rfl (.l rfl (look_own 0 rfl rfl rfl rfl)) rfl ?_
      | refine ops_pl rfl rfl rfl (.l rfl (look_own 1 rfl rfl rfl rfl)) rfl ?_
      | refine ops_pl rfl rfl rfl (.l rfl (look_own 2 rfl rfl rfl rfl)) rfl ?_
      | refine ops_pl rfl rfl rfl (.l rfl (look_own 3 rfl rfl rfl rfl)) rfl ?_
      | refine ops_pl rfl rfl rfl (.l rfl (look_own 4 rfl rfl rfl rfl)) rfl ?_
      | refine ops_pl rfl rfl rfl (.l rfl (look_own 5 rfl rfl rfl rfl)) rfl ?_
      | refine ops_pl rfl rfl rfl (.l rfl (look_own 6 rfl rfl rfl rfl)) rfl ?_
      | refine ops_pl rfl rfl rfl (.l rfl (look_own 7 rfl rfl rfl rfl)) rfl ?_
      | refine ops_pl rfl rfl rfl (.l rfl (look_agg 0 rfl rfl rfl rfl)) rfl ?_
      | refine ops_pl rfl rfl rfl (.l rfl (look_agg 1 rfl rfl rfl rfl)) rfl ?_
      | refine ops_pl rfl rfl rfl (.l rfl (look_agg 2 rfl rfl rfl rfl)) rfl ?_
      | refine ops_pl rfl rfl rfl (.l rfl (look_agg 3 rfl rfl rfl rfl)) rfl ?_
      | refine ops_pl rfl rfl rfl (.l rfl (look_agg 4 rfl rfl rfl rfl)) rfl ?_
      | refine ops_pl rfl rfl rfl (.l rfl (look_agg 5 rfl rfl rfl rfl)) rfl ?_
      | refine ops_pl rfl rfl rfl (.l rfl (look_agg 6 rfl rfl rfl rfl)) rfl ?_
      | refine ops_pl rfl rfl rfl (.l rfl (look_agg 7 rfl rfl rfl rfl)) rfl ?_
      | refine ops_pl rfl rfl rfl (.l rfl (look_str 0 rfl rfl rfl rfl rfl rfl rfl)) rfl ?_
      | refine ops_pl rfl rfl rfl (.l rfl (look_str 1 rfl rfl rfl rfl rfl rfl rfl)) rfl ?_
      | refine ops_pl rfl rfl rfl (.l rfl (look_str 2 rfl rfl rfl rfl rfl rfl rfl)) rfl ?_
      | refine ops_pl rfl rfl rfl (.l rfl (look_str 3 rfl rfl rfl rfl rfl rfl rfl)) rfl ?_
      | refine ops_skip rfl rfl rfl ?_
      | (refine ops_step rfl rfl rfl ?_; first | (refine step_box rfl rfl rfl (fun _ => ?_)) | (refine step_alloc rfl rfl rfl rfl (fun _ => ?_)) | (refine step_buildSlice rfl rfl rfl rfl rfl (fun _ => ?_)) | (refine step_store 0 rfl rfl rfl rfl rfl rfl rfl rfl rfl ?_) | (refine step_store 1 rfl rfl rfl rfl rfl rfl rfl rfl rfl ?_) | (refine step_store 2 rfl rfl rfl rfl rfl rfl rfl rfl rfl ?_) | (refine step_store 3 rfl rfl rfl rfl rfl rfl rfl rfl rfl ?_) | (refine step_store 4 rfl rfl rfl rfl rfl rfl rfl rfl rfl ?_) | (refine step_store 5 rfl rfl rfl rfl rfl rfl rfl rfl rfl ?_) | (refine step_store 6 rfl rfl rfl rfl rfl rfl rfl rfl rfl ?_) | (refine step_store 7 rfl rfl rfl rfl rfl rfl rfl rfl rfl ?_)))
  refine exec_cond rfl (fun hlt => ?_) (fun hge => ?_)
  · have hi : i < n := by simp at hlt; omega
    repeat (first
        | refine exec_seq ?_
        | refine exec_region ?_
        | refine exec_block ?_
        | refine exec_skip ?_
        | refine exec_exit ?_
        | refine exec_ret ?_
        | refine exec_true rfl ?_
        | refine exec_false rfl ?_
        | refine ops_nil ?_
        | refine ops_pl rfl rfl rfl (.bld rfl rfl rfl rfl) rfl ?_
        | refine ops_pl rfl rfl rfl (.neSelf rfl rfl rfl rfl) rfl ?_
        | refine ops_pl rfl rfl rfl (.eqSelf rfl rfl rfl rfl) rfl ?_
        | refine ops_pl rfl rfl rfl (.wr64 rfl rfl (by omega) (by omega)) rfl ?_
        | refine ops_pl rfl rfl rfl (.wr8 rfl rfl (by omega) (by omega)) rfl ?_
        | refine ops_pl rfl rfl rfl (.p rfl rfl) rfl ?_
        | refine ops_pl rfl rfl rfl (.cv64 rfl (fun _ => rfl) (by omega) (by omega)) rfl ?_
        | refine ops_pl rfl rfl rfl (.cv8 rfl (fun _ => rfl) (by omega) (by omega)) rfl ?_
        | refine ops_pl rfl rfl rfl (.l rfl (fun _ _ => rfl)) rfl ?_
        | refine ops_pl rfl rfl rfl (.l rfl (look_own 0 rfl rfl rfl rfl)) rfl ?_
        | refine ops_pl rfl rfl rfl (.l rfl (look_own 1 rfl rfl rfl rfl)) rfl ?_
        | refine ops_pl rfl rfl rfl (.l rfl (look_own 2 rfl rfl rfl rfl)) rfl ?_
        | refine ops_pl rfl rfl rfl (.l rfl (look_own 3 rfl rfl rfl rfl)) rfl ?_
        | refine ops_pl rfl rfl rfl (.l rfl (look_own 4 rfl rfl rfl rfl)) rfl ?_
        | refine ops_pl rfl rfl rfl (.l rfl (look_own 5 rfl rfl rfl rfl)) rfl ?_
        | refine ops_pl rfl rfl rfl (.l rfl (look_own 6 rfl rfl rfl rfl)) rfl ?_
        | refine ops_pl rfl rfl rfl (.l rfl (look_own 7 rfl rfl rfl rfl)) rfl ?_
        | refine ops_pl rfl rfl rfl (.l rfl (look_agg 0 rfl rfl rfl rfl)) rfl ?_
        | refine ops_pl rfl rfl rfl (.l rfl (look_agg 1 rfl rfl rfl rfl)) rfl ?_
        | refine ops_pl rfl rfl rfl (.l rfl (look_agg 2 rfl rfl rfl rfl)) rfl ?_
        | refine ops_pl rfl rfl rfl (.l rfl (look_agg 3 rfl rfl rfl rfl)) rfl ?_
        | refine ops_pl rfl rfl rfl (.l rfl (look_agg 4 rfl rfl rfl rfl)) rfl ?_
        | refine ops_pl rfl rfl rfl (.l rfl (look_agg 5 rfl rfl rfl rfl)) rfl ?_
        | refine ops_pl rfl rfl rfl (.l rfl (look_agg 6 rfl rfl rfl rfl)) rfl ?_
        | refine ops_pl rfl rfl rfl (.l rfl (look_agg 7 rfl rfl rfl rfl)) rfl ?_
        | refine ops_pl rfl rfl rfl (.l rfl (look_str 0 rfl rfl rfl rfl rfl rfl rfl)) rfl ?_
        | refine ops_pl rfl rfl rfl (.l rfl (look_str 1 rfl rfl rfl rfl rfl rfl rfl)) rfl ?_
        | refine ops_pl rfl rfl rfl (.l rfl (look_str 2 rfl rfl rfl rfl rfl rfl rfl)) rfl ?_
        | refine ops_pl rfl rfl rfl (.l rfl (look_str 3 rfl rfl rfl rfl rfl rfl rfl)) rfl ?_
        | refine ops_skip rfl rfl rfl ?_
        | (refine ops_step rfl rfl rfl ?_; first | (refine step_box rfl rfl rfl (fun _ => ?_)) | (refine step_alloc rfl rfl rfl rfl (fun _ => ?_)) | (refine step_buildSlice rfl rfl rfl rfl rfl (fun _ => ?_)) | (refine step_store 0 rfl rfl rfl rfl rfl rfl rfl rfl rfl ?_) | (refine step_store 1 rfl rfl rfl rfl rfl rfl rfl rfl rfl ?_) | (refine step_store 2 rfl rfl rfl rfl rfl rfl rfl rfl rfl ?_) | (refine step_store 3 rfl rfl rfl rfl rfl rfl rfl rfl rfl ?_) | (refine step_store 4 rfl rfl rfl rfl rfl rfl rfl rfl rfl ?_) | (refine step_store 5 rfl rfl rfl rfl rfl rfl rfl rfl rfl ?_) | (refine step_store 6 rfl rfl rfl rfl rfl rfl rfl rfl rfl ?_) | (refine step_store 7 rfl rfl rfl rfl rfl rfl rfl rfl rfl ?_)))
    refine exec_draw (lst := [(0, 0), (1, 0), (2, 3), (3, 7), (4, 0), (5, 0), (6, 48), (7, 112), (8, 255)]) (full := 511) (by kernel_rfl) (by kernel_rfl) (by kernel_rfl) (by kernel_rfl) ?_
    repeat (first
        | refine draw_pl rfl rfl rfl rfl (.bld rfl rfl rfl rfl) rfl rfl ?_
        | refine draw_pl rfl rfl rfl rfl (.neSelf rfl rfl rfl rfl) rfl rfl ?_
        | refine draw_pl rfl rfl rfl rfl (.eqSelf rfl rfl rfl rfl) rfl rfl ?_
        | refine draw_pl rfl rfl rfl rfl (.wr64 rfl rfl (by omega) (by omega)) rfl rfl ?_
        | refine draw_pl rfl rfl rfl rfl (.wr8 rfl rfl (by omega) (by omega)) rfl rfl ?_
        | refine draw_pl rfl rfl rfl rfl (.p rfl rfl) rfl rfl ?_
        | refine draw_pl rfl rfl rfl rfl (.cv64 rfl (fun _ => rfl) (by omega) (by omega)) rfl rfl ?_
        | refine draw_pl rfl rfl rfl rfl (.cv8 rfl (fun _ => rfl) (by omega) (by omega)) rfl rfl ?_
        | refine draw_pl rfl rfl rfl rfl (.l rfl (fun _ _ => rfl)) rfl rfl ?_
        | refine draw_pl rfl rfl rfl rfl (.l rfl (look_own 0 rfl rfl rfl rfl)) rfl rfl ?_
        | refine draw_pl rfl rfl rfl rfl (.l rfl (look_own 1 rfl rfl rfl rfl)) rfl rfl ?_
        | refine draw_pl rfl rfl rfl rfl (.l rfl (look_own 2 rfl rfl rfl rfl)) rfl rfl ?_
        | refine draw_pl rfl rfl rfl rfl (.l rfl (look_own 3 rfl rfl rfl rfl)) rfl rfl ?_
        | refine draw_pl rfl rfl rfl rfl (.l rfl (look_own 4 rfl rfl rfl rfl)) rfl rfl ?_
        | refine draw_pl rfl rfl rfl rfl (.l rfl (look_own 5 rfl rfl rfl rfl)) rfl rfl ?_
        | refine draw_pl rfl rfl rfl rfl (.l rfl (look_own 6 rfl rfl rfl rfl)) rfl rfl ?_
        | refine draw_pl rfl rfl rfl rfl (.l rfl (look_own 7 rfl rfl rfl rfl)) rfl rfl ?_
        | refine draw_pl rfl rfl rfl rfl (.l rfl (look_agg 0 rfl rfl rfl rfl)) rfl rfl ?_
        | refine draw_pl rfl rfl rfl rfl (.l rfl (look_agg 1 rfl rfl rfl rfl)) rfl rfl ?_
        | refine draw_pl rfl rfl rfl rfl (.l rfl (look_agg 2 rfl rfl rfl rfl)) rfl rfl ?_
        | refine draw_pl rfl rfl rfl rfl (.l rfl (look_agg 3 rfl rfl rfl rfl)) rfl rfl ?_
        | refine draw_pl rfl rfl rfl rfl (.l rfl (look_agg 4 rfl rfl rfl rfl)) rfl rfl ?_
        | refine draw_pl rfl rfl rfl rfl (.l rfl (look_agg 5 rfl rfl rfl rfl)) rfl rfl ?_
        | refine draw_pl rfl rfl rfl rfl (.l rfl (look_agg 6 rfl rfl rfl rfl)) rfl rfl ?_
        | refine draw_pl rfl rfl rfl rfl (.l rfl (look_agg 7 rfl rfl rfl rfl)) rfl rfl ?_
        | refine draw_pl rfl rfl rfl rfl (.l rfl (look_str 0 rfl rfl rfl rfl rfl rfl rfl)) rfl rfl ?_
        | refine draw_pl rfl rfl rfl rfl (.l rfl (look_str 1 rfl rfl rfl rfl rfl rfl rfl)) rfl rfl ?_
        | refine draw_pl rfl rfl rfl rfl (.l rfl (look_str 2 rfl rfl rfl rfl rfl rfl rfl)) rfl rfl ?_
        | refine draw_pl rfl rfl rfl rfl (.l rfl (look_str 3 rfl rfl rfl rfl rfl rfl rfl)) rfl rfl ?_
        | refine draw_skip rfl rfl rfl rfl ?_
        | refine draw_nil ?_)
    first | refine ops_pl rfl rfl rfl (.p rfl (opP_idx rfl rfl ha rfl rfl (by omega) (by omega))) rfl ?_ | refine draw_pl rfl rfl rfl rfl (.p rfl (opP_idx rfl rfl ha rfl rfl (by omega) (by omega))) rfl rfl ?_
    first | refine ops_pl rfl rfl rfl (.l rfl (fun H hs => opL_load rfl ((ha.at hs).ld rfl (getMap (l := la) (i := i) (by omega) rfl)))) rfl ?_ | refine draw_pl rfl rfl rfl rfl (.l rfl (fun H hs => opL_load rfl ((ha.at hs).ld rfl (getMap (l := la) (i := i) (by omega) rfl)))) rfl rfl ?_
    repeat (first
        | refine draw_pl rfl rfl rfl rfl (.bld rfl rfl rfl rfl) rfl rfl ?_
        | refine draw_pl rfl rfl rfl rfl (.neSelf rfl rfl rfl rfl) rfl rfl ?_
        | refine draw_pl rfl rfl rfl rfl (.eqSelf rfl rfl rfl rfl) rfl rfl ?_
        | refine draw_pl rfl rfl rfl rfl (.wr64 rfl rfl (by omega) (by omega)) rfl rfl ?_
        | refine draw_pl rfl rfl rfl rfl (.wr8 rfl rfl (by omega) (by omega)) rfl rfl ?_
        | refine draw_pl rfl rfl rfl rfl (.p rfl rfl) rfl rfl ?_
        | refine draw_pl rfl rfl rfl rfl (.cv64 rfl (fun _ => rfl) (by omega) (by omega)) rfl rfl ?_
        | refine draw_pl rfl rfl rfl rfl (.cv8 rfl (fun _ => rfl) (by omega) (by omega)) rfl rfl ?_
        | refine draw_pl rfl rfl rfl rfl (.l rfl (fun _ _ => rfl)) rfl rfl ?_
        | refine draw_pl rfl rfl rfl rfl (.l rfl (look_own 0 rfl rfl rfl rfl)) rfl rfl ?_
        | refine draw_pl rfl rfl rfl rfl (.l rfl (look_own 1 rfl rfl rfl rfl)) rfl rfl ?_
        | refine draw_pl rfl rfl rfl rfl (.l rfl (look_own 2 rfl rfl rfl rfl)) rfl rfl ?_
        | refine draw_pl rfl rfl rfl rfl (.l rfl (look_own 3 rfl rfl rfl rfl)) rfl rfl ?_
        | refine draw_pl rfl rfl rfl rfl (.l rfl (look_own 4 rfl rfl rfl rfl)) rfl rfl ?_
        | refine draw_pl rfl rfl rfl rfl (.l rfl (look_own 5 rfl rfl rfl rfl)) rfl rfl ?_
        | refine draw_pl rfl rfl rfl rfl (.l rfl (look_own 6 rfl rfl rfl rfl)) rfl rfl ?_
        | refine draw_pl rfl rfl rfl rfl (.l rfl (look_own 7 rfl rfl rfl rfl)) rfl rfl ?_
        | refine draw_pl rfl rfl rfl rfl (.l rfl (look_agg 0 rfl rfl rfl rfl)) rfl rfl ?_
        | refine draw_pl rfl rfl rfl rfl (.l rfl (look_agg 1 rfl rfl rfl rfl)) rfl rfl ?_
        | refine draw_pl rfl rfl rfl rfl (.l rfl (look_agg 2 rfl rfl rfl rfl)) rfl rfl ?_
        | refine draw_pl rfl rfl rfl rfl (.l rfl (look_agg 3 rfl rfl rfl rfl)) rfl rfl ?_
        | refine draw_pl rfl rfl rfl rfl (.l rfl (look_agg 4 rfl rfl rfl rfl)) rfl rfl ?_
        | refine draw_pl rfl rfl rfl rfl (.l rfl (look_agg 5 rfl rfl rfl rfl)) rfl rfl ?_
        | refine draw_pl rfl rfl rfl rfl (.l rfl (look_agg 6 rfl rfl rfl rfl)) rfl rfl ?_
        | refine draw_pl rfl rfl rfl rfl (.l rfl (look_agg 7 rfl rfl rfl rfl)) rfl rfl ?_
        | refine draw_pl rfl rfl rfl rfl (.l rfl (look_str 0 rfl rfl rfl rfl rfl rfl rfl)) rfl rfl ?_
        | refine draw_pl rfl rfl rfl rfl (.l rfl (look_str 1 rfl rfl rfl rfl rfl rfl rfl)) rfl rfl ?_
        | refine draw_pl rfl rfl rfl rfl (.l rfl (look_str 2 rfl rfl rfl rfl rfl rfl rfl)) rfl rfl ?_
        | refine draw_pl rfl rfl rfl rfl (.l rfl (look_str 3 rfl rfl rfl rfl rfl rfl rfl)) rfl rfl ?_
        | refine draw_skip rfl rfl rfl rfl ?_
        | refine draw_nil ?_)
    first | refine ops_pl rfl rfl rfl (.p rfl (opP_idx rfl rfl hb rfl rfl (by omega) (by omega))) rfl ?_ | refine draw_pl rfl rfl rfl rfl (.p rfl (opP_idx rfl rfl hb rfl rfl (by omega) (by omega))) rfl rfl ?_
    first | refine ops_pl rfl rfl rfl (.l rfl (fun H hs => opL_load rfl ((hb.at hs).ld rfl (getMap (l := lb) (i := i) (by omega) rfl)))) rfl ?_ | refine draw_pl rfl rfl rfl rfl (.l rfl (fun H hs => opL_load rfl ((hb.at hs).ld rfl (getMap (l := lb) (i := i) (by omega) rfl)))) rfl rfl ?_
    repeat (first
        | refine draw_pl rfl rfl rfl rfl (.bld rfl rfl rfl rfl) rfl rfl ?_
        | refine draw_pl rfl rfl rfl rfl (.neSelf rfl rfl rfl rfl) rfl rfl ?_
        | refine draw_pl rfl rfl rfl rfl (.eqSelf rfl rfl rfl rfl) rfl rfl ?_
        | refine draw_pl rfl rfl rfl rfl (.wr64 rfl rfl (by omega) (by omega)) rfl rfl ?_
        | refine draw_pl rfl rfl rfl rfl (.wr8 rfl rfl (by omega) (by omega)) rfl rfl ?_
        | refine draw_pl rfl rfl rfl rfl (.p rfl rfl) rfl rfl ?_
        | refine draw_pl rfl rfl rfl rfl (.cv64 rfl (fun _ => rfl) (by omega) (by omega)) rfl rfl ?_
        | refine draw_pl rfl rfl rfl rfl (.cv8 rfl (fun _ => rfl) (by omega) (by omega)) rfl rfl ?_
        | refine draw_pl rfl rfl rfl rfl (.l rfl (fun _ _ => rfl)) rfl rfl ?_
        | refine draw_pl rfl rfl rfl rfl (.l rfl (look_own 0 rfl rfl rfl rfl)) rfl rfl ?_
        | refine draw_pl rfl rfl rfl rfl (.l rfl (look_own 1 rfl rfl rfl rfl)) rfl rfl ?_
        | refine draw_pl rfl rfl rfl rfl (.l rfl (look_own 2 rfl rfl rfl rfl)) rfl rfl ?_
        | refine draw_pl rfl rfl rfl rfl (.l rfl (look_own 3 rfl rfl rfl rfl)) rfl rfl ?_
        | refine draw_pl rfl rfl rfl rfl (.l rfl (look_own 4 rfl rfl rfl rfl)) rfl rfl ?_
        | refine draw_pl rfl rfl rfl rfl (.l rfl (look_own 5 rfl rfl rfl rfl)) rfl rfl ?_
        | refine draw_pl rfl rfl rfl rfl (.l rfl (look_own 6 rfl rfl rfl rfl)) rfl rfl ?_
        | refine draw_pl rfl rfl rfl rfl (.l rfl (look_own 7 rfl rfl rfl rfl)) rfl rfl ?_
        | refine draw_pl rfl rfl rfl rfl (.l rfl (look_agg 0 rfl rfl rfl rfl)) rfl rfl ?_
        | refine draw_pl rfl rfl rfl rfl (.l rfl (look_agg 1 rfl rfl rfl rfl)) rfl rfl ?_
        | refine draw_pl rfl rfl rfl rfl (.l rfl (look_agg 2 rfl rfl rfl rfl)) rfl rfl ?_
        | refine draw_pl rfl rfl rfl rfl (.l rfl (look_agg 3 rfl rfl rfl rfl)) rfl rfl ?_
        | refine draw_pl rfl rfl rfl rfl (.l rfl (look_agg 4 rfl rfl rfl rfl)) rfl rfl ?_
        | refine draw_pl rfl rfl rfl rfl (.l rfl (look_agg 5 rfl rfl rfl rfl)) rfl rfl ?_
        | refine draw_pl rfl rfl rfl rfl (.l rfl (look_agg 6 rfl rfl rfl rfl)) rfl rfl ?_
        | refine draw_pl rfl rfl rfl rfl (.l rfl (look_agg 7 rfl rfl rfl rfl)) rfl rfl ?_
        | refine draw_pl rfl rfl rfl rfl (.l rfl (look_str 0 rfl rfl rfl rfl rfl rfl rfl)) rfl rfl ?_
        | refine draw_pl rfl rfl rfl rfl (.l rfl (look_str 1 rfl rfl rfl rfl rfl rfl rfl)) rfl rfl ?_
        | refine draw_pl rfl rfl rfl rfl (.l rfl (look_str 2 rfl rfl rfl rfl rfl rfl rfl)) rfl rfl ?_
        | refine draw_pl rfl rfl rfl rfl (.l rfl (look_str 3 rfl rfl rfl rfl rfl rfl rfl)) rfl rfl ?_
        | refine draw_skip rfl rfl rfl rfl ?_
        | refine draw_nil ?_)
    refine exec_cond rfl (fun hne => ?_) (fun heq => ?_)
    · repeat (first
          | refine exec_seq ?_
          | refine exec_region ?_
          | refine exec_block ?_
          | refine exec_skip ?_
          | refine exec_exit ?_
          | refine exec_ret ?_
          | refine exec_true rfl ?_
          | refine exec_false rfl ?_
          | refine ops_nil ?_
          | refine ops_pl rfl rfl rfl (.bld rfl rfl rfl rfl) rfl ?_
          | refine ops_pl rfl rfl rfl (.neSelf rfl rfl rfl rfl) rfl ?_
          | refine ops_pl rfl rfl rfl (.eqSelf rfl rfl rfl rfl) rfl ?_
          | refine ops_pl rfl rfl rfl (.wr64 rfl rfl (by omega) (by omega)) rfl ?_
          | refine ops_pl rfl rfl rfl (.wr8 rfl rfl (by omega) (by omega)) rfl ?_
          | refine ops_pl rfl rfl rfl (.p rfl rfl) rfl ?_
          | refine ops_pl rfl rfl rfl (.cv64 rfl (fun _ => rfl) (by omega) (by omega)) rfl ?_
          | refine ops_pl rfl rfl rfl (.cv8 rfl (fun _ => rfl) (by omega) (by omega)) rfl ?_
          | refine ops_pl rfl rfl rfl (.l rfl (fun _ _ => rfl)) rfl ?_
          | refine ops_pl rfl rfl rfl (.l rfl (look_own 0 rfl rfl rfl rfl)) rfl ?_
          | refine ops_pl rfl rfl rfl (.l rfl (look_own 1 rfl rfl rfl rfl)) rfl ?_
          | refine ops_pl rfl rfl rfl (.l rfl (look_own 2 rfl rfl rfl rfl)) rfl ?_
          | refine ops_pl rfl rfl rfl (.l rfl (look_own 3 rfl rfl rfl rfl)) rfl ?_
          | refine ops_pl rfl rfl rfl (.l rfl (look_own 4 rfl rfl rfl rfl)) rfl ?_
          | refine ops_pl rfl rfl rfl (.l rfl (look_own 5 rfl rfl rfl rfl)) rfl ?_
          | refine ops_pl rfl rfl rfl (.l rfl (look_own 6 rfl rfl rfl rfl)) rfl ?_
          | refine ops_pl rfl rfl rfl (.l rfl (look_own 7 rfl rfl rfl rfl)) rfl ?_
          | refine ops_pl rfl rfl rfl (.l rfl (look_agg 0 rfl rfl rfl rfl)) rfl ?_
          | refine ops_pl rfl rfl rfl (.l rfl (look_agg 1 rfl rfl rfl rfl)) rfl ?_
          | refine ops_pl rfl rfl rfl (.l rfl (look_agg 2 rfl rfl rfl rfl)) rfl ?_
          | refine ops_pl rfl rfl rfl (.l rfl (look_agg 3 rfl rfl rfl rfl)) rfl ?_
          | refine ops_pl rfl rfl rfl (.l rfl (look_agg 4 rfl rfl rfl rfl)) rfl ?_
          | refine ops_pl rfl rfl rfl (.l rfl (look_agg 5 rfl rfl rfl rfl)) rfl ?_
          | refine ops_pl rfl rfl rfl (.l rfl (look_agg 6 rfl rfl rfl rfl)) rfl ?_
          | refine ops_pl rfl rfl rfl (.l rfl (look_agg 7 rfl rfl rfl rfl)) rfl ?_
          | refine ops_pl rfl rfl rfl (.l rfl (look_str 0 rfl rfl rfl rfl rfl rfl rfl)) rfl ?_
          | refine ops_pl rfl rfl rfl (.l rfl (look_str 1 rfl rfl rfl rfl rfl rfl rfl)) rfl ?_
          | refine ops_pl rfl rfl rfl (.l rfl (look_str 2 rfl rfl rfl rfl rfl rfl rfl)) rfl ?_
          | refine ops_pl rfl rfl rfl (.l rfl (look_str 3 rfl rfl rfl rfl rfl rfl rfl)) rfl ?_
          | refine ops_skip rfl rfl rfl ?_
          | (refine ops_step rfl rfl rfl ?_; first | (refine step_box rfl rfl rfl (fun _ => ?_)) | (refine step_alloc rfl rfl rfl rfl (fun _ => ?_)) | (refine step_buildSlice rfl rfl rfl rfl rfl (fun _ => ?_)) | (refine step_store 0 rfl rfl rfl rfl rfl rfl rfl rfl rfl ?_) | (refine step_store 1 rfl rfl rfl rfl rfl rfl rfl rfl rfl ?_) | (refine step_store 2 rfl rfl rfl rfl rfl rfl rfl rfl rfl ?_) | (refine step_store 3 rfl rfl rfl rfl rfl rfl rfl rfl rfl ?_) | (refine step_store 4 rfl rfl rfl rfl rfl rfl rfl rfl rfl ?_) | (refine step_store 5 rfl rfl rfl rfl rfl rfl rfl rfl rfl ?_) | (refine step_store 6 rfl rfl rfl rfl rfl rfl rfl rfl rfl ?_) | (refine step_store 7 rfl rfl rfl rfl rfl rfl rfl rfl rfl ?_)))
      refine ⟨trivial, _, rfl, ?_⟩
      have : la ≠ lb := by
        rintro rfl
        simp at hne
      simp [oneOf, this]
    · repeat (first
          | refine exec_seq ?_
          | refine exec_region ?_
          | refine exec_block ?_
          | refine exec_skip ?_
          | refine exec_exit ?_
          | refine exec_ret ?_
          | refine exec_true rfl ?_
          | refine exec_false rfl ?_
          | refine ops_nil ?_
          | refine ops_pl rfl rfl rfl (.bld rfl rfl rfl rfl) rfl ?_
          | refine ops_pl rfl rfl rfl (.neSelf rfl rfl rfl rfl) rfl ?_
          | refine ops_pl rfl rfl rfl (.eqSelf rfl rfl rfl rfl) rfl ?_
          | refine ops_pl rfl rfl rfl (.wr64 rfl rfl (by omega) (by omega)) rfl ?_
          | refine ops_pl rfl rfl rfl (.wr8 rfl rfl (by omega) (by omega)) rfl ?_
          | refine ops_pl rfl rfl rfl (.p rfl rfl) rfl ?_
          | refine ops_pl rfl rfl rfl (.cv64 rfl (fun _ => rfl) (by omega) (by omega)) rfl ?_
          | refine ops_pl rfl rfl rfl (.cv8 rfl (fun _ => rfl) (by omega) (by omega)) rfl ?_
          | refine ops_pl rfl rfl rfl (.l rfl (fun _ _ => rfl)) rfl ?_
          | refine ops_pl rfl rfl rfl (.l rfl (look_own 0 rfl rfl rfl rfl)) rfl ?_
          | refine ops_pl rfl rfl rfl (.l rfl (look_own 1 rfl rfl rfl rfl)) rfl ?_
          | refine ops_pl rfl rfl rfl (.l rfl (look_own 2 rfl rfl rfl rfl)) rfl ?_
          | refine ops_pl rfl rfl rfl (.l rfl (look_own 3 rfl rfl rfl rfl)) rfl ?_
          | refine ops_pl rfl rfl rfl (.l rfl (look_own 4 rfl rfl rfl rfl)) rfl ?_
          | refine ops_pl rfl rfl rfl (.l rfl (look_own 5 rfl rfl rfl rfl)) rfl ?_
          | refine ops_pl rfl rfl rfl (.l rfl (look_own 6 rfl rfl rfl rfl)) rfl ?_
          | refine ops_pl rfl rfl rfl (.l rfl (look_own 7 rfl rfl rfl rfl)) rfl ?_
          | refine ops_pl rfl rfl rfl (.l rfl (look_agg 0 rfl rfl rfl rfl)) rfl ?_
          | refine ops_pl rfl rfl rfl (.l rfl (look_agg 1 rfl rfl rfl rfl)) rfl ?_
          | refine ops_pl rfl rfl rfl (.l rfl (look_agg 2 rfl rfl rfl rfl)) rfl ?_
          | refine ops_pl rfl rfl rfl (.l rfl (look_agg 3 rfl rfl rfl rfl)) rfl ?_
          | refine ops_pl rfl rfl rfl (.l rfl (look_agg 4 rfl rfl rfl rfl)) rfl ?_
          | refine ops_pl rfl rfl rfl (.l rfl (look_agg 5 rfl rfl rfl rfl)) rfl ?_
          | refine ops_pl rfl rfl rfl (.l rfl (look_agg 6 rfl rfl rfl rfl)) rfl ?_
          | refine ops_pl rfl rfl rfl (.l rfl (look_agg 7 rfl rfl rfl rfl)) rfl ?_
          | refine ops_pl rfl rfl rfl (.l rfl (look_str 0 rfl rfl rfl rfl rfl rfl rfl)) rfl ?_
          | refine ops_pl rfl rfl rfl (.l rfl (look_str 1 rfl rfl rfl rfl rfl rfl rfl)) rfl ?_
          | refine ops_pl rfl rfl rfl (.l rfl (look_str 2 rfl rfl rfl rfl rfl rfl rfl)) rfl ?_
          | refine ops_pl rfl rfl rfl (.l rfl (look_str 3 rfl rfl rfl rfl rfl rfl rfl)) rfl ?_
          | refine ops_skip rfl rfl rfl ?_
          | (refine ops_step rfl rfl rfl ?_; first | (refine step_box rfl rfl rfl (fun _ => ?_)) | (refine step_alloc rfl rfl rfl rfl (fun _ => ?_)) | (refine step_buildSlice rfl rfl rfl rfl rfl (fun _ => ?_)) | (refine step_store 0 rfl rfl rfl rfl rfl rfl rfl rfl rfl ?_) | (refine step_store 1 rfl rfl rfl rfl rfl rfl rfl rfl rfl ?_) | (refine step_store 2 rfl rfl rfl rfl rfl rfl rfl rfl rfl ?_) | (refine step_store 3 rfl rfl rfl rfl rfl rfl rfl rfl rfl ?_) | (refine step_store 4 rfl rfl rfl rfl rfl rfl rfl rfl rfl ?_) | (refine step_store 5 rfl rfl rfl rfl rfl rfl rfl rfl rfl ?_) | (refine step_store 6 rfl rfl rfl rfl rfl rfl rfl rfl rfl ?_) | (refine step_store 7 rfl rfl rfl rfl rfl rfl rfl rfl rfl ?_)))
      refine ⟨k - 1, by omega, _, _, ?_, List.Sublist.refl _, i + 1, by omega, fun j hj => ?_, rfl, rfl⟩
      · exact ⟨rfl, rfl, rfl, trivial⟩
      · by_cases hji : j = i
        · subst hji
          simpa [List.getElem?_eq_getElem, hi, hla, hlb] using heq
        · exact hpre j (by omega)
  · repeat (first
        | refine exec_seq ?_
        | refine exec_region ?_
        | refine exec_block ?_
        | refine exec_skip ?_
        | refine exec_exit ?_
        | refine exec_ret ?_
        | refine exec_true rfl ?_
        | refine exec_false rfl ?_
        | refine ops_nil ?_
        | refine ops_pl rfl rfl rfl (.bld rfl rfl rfl rfl) rfl ?_
        | refine ops_pl rfl rfl rfl (.neSelf rfl rfl rfl rfl) rfl ?_
        | refine ops_pl rfl rfl rfl (.eqSelf rfl rfl rfl rfl) rfl ?_
        | refine ops_pl rfl rfl rfl (.wr64 rfl rfl (by omega) (by omega)) rfl ?_
        | refine ops_pl rfl rfl rfl (.wr8 rfl rfl (by omega) (by omega)) rfl ?_
        | refine ops_pl rfl rfl rfl (.p rfl rfl) rfl ?_
        | refine ops_pl rfl rfl rfl (.cv64 rfl (fun _ => rfl) (by omega) (by omega)) rfl ?_
        | refine ops_pl rfl rfl rfl (.cv8 rfl (fun _ => rfl) (by omega) (by omega)) rfl ?_
        | refine ops_pl rfl rfl rfl (.l rfl (fun _ _ => rfl)) rfl ?_
        | refine ops_pl rfl rfl rfl (.l rfl (look_own 0 rfl rfl rfl rfl)) rfl ?_
        | refine ops_pl rfl rfl rfl (.l rfl (look_own 1 rfl rfl rfl rfl)) rfl ?_
        | refine ops_pl rfl rfl rfl (.l rfl (look_own 2 rfl rfl rfl rfl)) rfl ?_
        | refine ops_pl rfl rfl rfl (.l rfl (look_own 3 rfl rfl rfl rfl)) rfl ?_
        | refine ops_pl rfl rfl rfl (.l rfl (look_own 4 rfl rfl rfl rfl)) rfl ?_
        | refine ops_pl rfl rfl rfl (.l rfl (look_own 5 rfl rfl rfl rfl)) rfl ?_
        | refine ops_pl rfl rfl rfl (.l rfl (look_own 6 rfl rfl rfl rfl)) rfl ?_
        | refine ops_pl rfl rfl rfl (.l rfl (look_own 7 rfl rfl rfl rfl)) rfl ?_
        | refine ops_pl rfl rfl rfl (.l rfl (look_agg 0 rfl rfl rfl rfl)) rfl ?_
        | refine ops_pl rfl rfl rfl (.l rfl (look_agg 1 rfl rfl rfl rfl)) rfl ?_
        | refine ops_pl rfl rfl rfl (.l rfl (look_agg 2 rfl rfl rfl rfl)) rfl ?_
        | refine ops_pl rfl rfl rfl (.l rfl (look_agg 3 rfl rfl rfl rfl)) rfl ?_
        | refine ops_pl rfl rfl rfl (.l rfl (look_agg 4 rfl rfl rfl rfl)) rfl ?_
        | refine ops_pl rfl rfl rfl (.l rfl (look_agg 5 rfl rfl rfl rfl)) rfl ?_
        | refine ops_pl rfl rfl rfl (.l rfl (look_agg 6 rfl rfl rfl rfl)) rfl ?_
        | refine ops_pl rfl rfl rfl (.l rfl (look_agg 7 rfl rfl rfl rfl)) rfl ?_
        | refine ops_pl rfl rfl rfl (.l rfl (look_str 0 rfl rfl rfl rfl rfl rfl rfl)) rfl ?_
        | refine ops_pl rfl rfl rfl (.l rfl (look_str 1 rfl rfl rfl rfl rfl rfl rfl)) rfl ?_
        | refine ops_pl rfl rfl rfl (.l rfl (look_str 2 rfl rfl rfl rfl rfl rfl rfl)) rfl ?_
        | refine ops_pl rfl rfl rfl (.l rfl (look_str 3 rfl rfl rfl rfl rfl rfl rfl)) rfl ?_
        | refine ops_skip rfl rfl rfl ?_
        | (refine ops_step rfl rfl rfl ?_; first | (refine step_box rfl rfl rfl (fun _ => ?_)) | (refine step_alloc rfl rfl rfl rfl (fun _ => ?_)) | (refine step_buildSlice rfl rfl rfl rfl rfl (fun _ => ?_)) | (refine step_store 0 rfl rfl rfl rfl rfl rfl rfl rfl rfl ?_) | (refine step_store 1 rfl rfl rfl rfl rfl rfl rfl rfl rfl ?_) | (refine step_store 2 rfl rfl rfl rfl rfl rfl rfl rfl rfl ?_) | (refine step_store 3 rfl rfl rfl rfl rfl rfl rfl rfl rfl ?_) | (refine step_store 4 rfl rfl rfl rfl rfl rfl rfl rfl rfl ?_) | (refine step_store 5 rfl rfl rfl rfl rfl rfl rfl rfl rfl ?_) | (refine step_store 6 rfl rfl rfl rfl rfl rfl rfl rfl rfl ?_) | (refine step_store 7 rfl rfl rfl rfl rfl rfl rfl rfl rfl ?_)))
    refine ⟨trivial, _, rfl, ?_⟩
    have hin : i = n := by simp at hge; omega
    have : la = lb := by
      apply List.ext_getElem?
      intro j
      by_cases hj : j < i
      · exact hpre j hj
      · rw [List.getElem?_eq_none (by omega), List.getElem?_eq_none (by omega)]
    simp [oneOf, this]
end Go.Proofs.Ytafbconajhpijaa

