/-
  Walks: strings.Builder; a method's text.
-/
import Derived.Test.YtceoheliineobaaDesc3
namespace Go.Proofs.Ytceoheliineobaa
open Go.Ev Go.Ev.Wk
set_option linter.unusedVariables false
set_option linter.unusedSimpArgs false
variable {O : Old}

/-- the blocks of a text that is being built -/
def BldF (bb : Nat) (s : List UInt8) (F : Atoms) : Prop :=
  ∃ (q : Option Addr) (a : Option Addr) (n c : Nat) (p : Option Nat × Cont), F = [(some bb, .cells 0 [.pointer q, .slice a n c] 0 70), p] ∧ (q = none ∨ q = some ⟨bb, 0, some 0⟩) ∧ OwnA 1 5 a n c (s.map by8) p

set_option maxHeartbeats 8000000 in
set_option maxRecDepth 100000 in
theorem copyCheck_ok {H : Heap} {bb n c : Nat} {q a : Option Addr} (hst : St (blksOf [(some bb, .cells 0 [.pointer q, .slice a n c] 0 70)]) H H [(some bb, .cells 0 [.pointer q, .slice a n c] 0 70)]) (hq : q = none ∨ q = some ⟨bb, 0, some 0⟩) :
    FpC TT O 58 [.pointer (some ⟨bb, 0, some 0⟩)] H [(some bb, .cells 0 [.pointer q, .slice a n c] 0 70)] fun v F' => F' = [(some bb, .cells 0 [.pointer (some ⟨bb, 0, some 0⟩), .slice a n c] 0 70)] := by
  refine call_fp rfl rfl rfl rfl rfl hst ?_
  rcases hq with rfl | rfl
  · repeat (first
    | refine exec_seq ?_
    | refine exec_region ?_
    | refine exec_block ?_
    | refine exec_skip ?_
    | refine exec_exit ?_
    | refine exec_ret ?_
    | refine exec_true rfl ?_
    | refine exec_false rfl ?_
    | refine ops_nil ?_
    | (apply ops_pl rfl rfl rfl ?_ rfl ?_; rotate_left; focus first | exact (.bld rfl rfl rfl rfl) | exact (.cat rfl rfl rfl (by first | (simp; done) | (simp; omega))) | exact (.neSelf rfl rfl rfl rfl) | exact (.eqSelf rfl rfl rfl rfl) | exact (.wr64 rfl rfl (by omega) (by omega)) | exact (.wr8 rfl rfl (by omega) (by omega)) | exact (.num rfl rfl (and127_u8N (by omega))) | exact (.num rfl rfl (or128_u8N (by omega))) | exact (.orU8 rfl rfl rfl (by omega) (by omega)) | exact (.num rfl rfl (and127_i64N (by omega))) | exact (.num rfl rfl (and1_i64N (by omega))) | exact (.p rfl rfl) | exact (.max2 rfl rfl rfl) | exact (.min2 rfl rfl rfl) | exact (.numL rfl (fun _ => rfl) (byte_wrap _)) | exact (.cv64 rfl (fun _ => rfl) (by omega) (by omega)) | exact (.cv8 rfl (fun _ => rfl) (by omega) (by omega)) | exact (.l rfl (fun _ _ => rfl)) | exact (.l rfl (look_own 0 rfl rfl rfl rfl)) | exact (.l rfl (look_own 1 rfl rfl rfl rfl)) | exact (.l rfl (look_own 2 rfl rfl rfl rfl)) | exact (.l rfl (look_own 3 rfl rfl rfl rfl)) | exact (.l rfl (look_own 4 rfl rfl rfl rfl)) | exact (.l rfl (look_own 5 rfl rfl rfl rfl)) | exact (.l rfl (look_own 6 rfl rfl rfl rfl)) | exact (.l rfl (look_own 7 rfl rfl rfl rfl)) | exact (.l rfl (look_agg 0 rfl rfl rfl rfl)) | exact (.l rfl (look_agg 1 rfl rfl rfl rfl)) | exact (.l rfl (look_agg 2 rfl rfl rfl rfl)) | exact (.l rfl (look_agg 3 rfl rfl rfl rfl)) | exact (.l rfl (look_agg 4 rfl rfl rfl rfl)) | exact (.l rfl (look_agg 5 rfl rfl rfl rfl)) | exact (.l rfl (look_agg 6 rfl rfl rfl rfl)) | exact (.l rfl (look_agg 7 rfl rfl rfl rfl)) | exact (.l rfl (look_str 0 rfl rfl rfl rfl rfl rfl rfl)) | exact (.l rfl (look_str 1 rfl rfl rfl rfl rfl rfl rfl)) | exact (.l rfl (look_str 2 rfl rfl rfl rfl rfl rfl rfl)) | exact (.l rfl (look_str 3 rfl rfl rfl rfl rfl rfl rfl)))
    | refine ops_skip rfl rfl rfl ?_
    | (refine ops_step rfl rfl rfl ?_; first | (refine step_box rfl rfl rfl (fun _ => ?_)) | (refine step_alloc rfl rfl rfl rfl (fun _ => ?_)) | (refine step_buildSlice rfl rfl rfl rfl rfl (fun _ => ?_)) | (refine step_map rfl (fun _ => ?_)) | (refine step_store 0 rfl rfl rfl rfl rfl rfl rfl rfl rfl ?_) | (refine step_store 1 rfl rfl rfl rfl rfl rfl rfl rfl rfl ?_) | (refine step_store 2 rfl rfl rfl rfl rfl rfl rfl rfl rfl ?_) | (refine step_store 3 rfl rfl rfl rfl rfl rfl rfl rfl rfl ?_) | (refine step_store 4 rfl rfl rfl rfl rfl rfl rfl rfl rfl ?_) | (refine step_store 5 rfl rfl rfl rfl rfl rfl rfl rfl rfl ?_) | (refine step_store 6 rfl rfl rfl rfl rfl rfl rfl rfl rfl ?_) | (refine step_store 7 rfl rfl rfl rfl rfl rfl rfl rfl rfl ?_)))
    first | refine ops_pl rfl rfl rfl (.l rfl (look_unsafe 0 rfl rfl rfl rfl rfl rfl)) rfl ?_ | refine draw_pl rfl rfl rfl rfl (.l rfl (look_unsafe 0 rfl rfl rfl rfl rfl rfl)) rfl rfl ?_
    refine ops_step rfl rfl rfl (step_call_pure rfl rfl rfl (fun H hs => call_prim rfl rfl (Nat.le_refl _) ⟨rfl, ExtBut.refl _ _⟩) ?_)
    first | refine ops_pl rfl rfl rfl (.l rfl (look_back 0 rfl rfl rfl rfl rfl rfl)) rfl ?_ | refine draw_pl rfl rfl rfl rfl (.l rfl (look_back 0 rfl rfl rfl rfl rfl rfl)) rfl rfl ?_
    repeat (first
    | refine exec_seq ?_
    | refine exec_region ?_
    | refine exec_block ?_
    | refine exec_skip ?_
    | refine exec_exit ?_
    | refine exec_ret ?_
    | refine exec_true rfl ?_
    | refine exec_false rfl ?_
    | refine ops_nil ?_
    | (apply ops_pl rfl rfl rfl ?_ rfl ?_; rotate_left; focus first | exact (.bld rfl rfl rfl rfl) | exact (.cat rfl rfl rfl (by first | (simp; done) | (simp; omega))) | exact (.neSelf rfl rfl rfl rfl) | exact (.eqSelf rfl rfl rfl rfl) | exact (.wr64 rfl rfl (by omega) (by omega)) | exact (.wr8 rfl rfl (by omega) (by omega)) | exact (.num rfl rfl (and127_u8N (by omega))) | exact (.num rfl rfl (or128_u8N (by omega))) | exact (.orU8 rfl rfl rfl (by omega) (by omega)) | exact (.num rfl rfl (and127_i64N (by omega))) | exact (.num rfl rfl (and1_i64N (by omega))) | exact (.p rfl rfl) | exact (.max2 rfl rfl rfl) | exact (.min2 rfl rfl rfl) | exact (.numL rfl (fun _ => rfl) (byte_wrap _)) | exact (.cv64 rfl (fun _ => rfl) (by omega) (by omega)) | exact (.cv8 rfl (fun _ => rfl) (by omega) (by omega)) | exact (.l rfl (fun _ _ => rfl)) | exact (.l rfl (look_own 0 rfl rfl rfl rfl)) | exact (.l rfl (look_own 1 rfl rfl rfl rfl)) | exact (.l rfl (look_own 2 rfl rfl rfl rfl)) | exact (.l rfl (look_own 3 rfl rfl rfl rfl)) | exact (.l rfl (look_own 4 rfl rfl rfl rfl)) | exact (.l rfl (look_own 5 rfl rfl rfl rfl)) | exact (.l rfl (look_own 6 rfl rfl rfl rfl)) | exact (.l rfl (look_own 7 rfl rfl rfl rfl)) | exact (.l rfl (look_agg 0 rfl rfl rfl rfl)) | exact (.l rfl (look_agg 1 rfl rfl rfl rfl)) | exact (.l rfl (look_agg 2 rfl rfl rfl rfl)) | exact (.l rfl (look_agg 3 rfl rfl rfl rfl)) | exact (.l rfl (look_agg 4 rfl rfl rfl rfl)) | exact (.l rfl (look_agg 5 rfl rfl rfl rfl)) | exact (.l rfl (look_agg 6 rfl rfl rfl rfl)) | exact (.l rfl (look_agg 7 rfl rfl rfl rfl)) | exact (.l rfl (look_str 0 rfl rfl rfl rfl rfl rfl rfl)) | exact (.l rfl (look_str 1 rfl rfl rfl rfl rfl rfl rfl)) | exact (.l rfl (look_str 2 rfl rfl rfl rfl rfl rfl rfl)) | exact (.l rfl (look_str 3 rfl rfl rfl rfl rfl rfl rfl)))
    | refine ops_skip rfl rfl rfl ?_
    | (refine ops_step rfl rfl rfl ?_; first | (refine step_box rfl rfl rfl (fun _ => ?_)) | (refine step_alloc rfl rfl rfl rfl (fun _ => ?_)) | (refine step_buildSlice rfl rfl rfl rfl rfl (fun _ => ?_)) | (refine step_map rfl (fun _ => ?_)) | (refine step_store 0 rfl rfl rfl rfl rfl rfl rfl rfl rfl ?_) | (refine step_store 1 rfl rfl rfl rfl rfl rfl rfl rfl rfl ?_) | (refine step_store 2 rfl rfl rfl rfl rfl rfl rfl rfl rfl ?_) | (refine step_store 3 rfl rfl rfl rfl rfl rfl rfl rfl rfl ?_) | (refine step_store 4 rfl rfl rfl rfl rfl rfl rfl rfl rfl ?_) | (refine step_store 5 rfl rfl rfl rfl rfl rfl rfl rfl rfl ?_) | (refine step_store 6 rfl rfl rfl rfl rfl rfl rfl rfl rfl ?_) | (refine step_store 7 rfl rfl rfl rfl rfl rfl rfl rfl rfl ?_)))
    exact ⟨trivial, _, rfl, _, [], List.Perm.of_eq (List.append_nil _).symm, rfl⟩
  · repeat (first
    | refine exec_seq ?_
    | refine exec_region ?_
    | refine exec_block ?_
    | refine exec_skip ?_
    | refine exec_exit ?_
    | refine exec_ret ?_
    | refine exec_true rfl ?_
    | refine exec_false rfl ?_
    | refine ops_nil ?_
    | (apply ops_pl rfl rfl rfl ?_ rfl ?_; rotate_left; focus first | exact (.bld rfl rfl rfl rfl) | exact (.cat rfl rfl rfl (by first | (simp; done) | (simp; omega))) | exact (.neSelf rfl rfl rfl rfl) | exact (.eqSelf rfl rfl rfl rfl) | exact (.wr64 rfl rfl (by omega) (by omega)) | exact (.wr8 rfl rfl (by omega) (by omega)) | exact (.num rfl rfl (and127_u8N (by omega))) | exact (.num rfl rfl (or128_u8N (by omega))) | exact (.orU8 rfl rfl rfl (by omega) (by omega)) | exact (.num rfl rfl (and127_i64N (by omega))) | exact (.num rfl rfl (and1_i64N (by omega))) | exact (.p rfl rfl) | exact (.max2 rfl rfl rfl) | exact (.min2 rfl rfl rfl) | exact (.numL rfl (fun _ => rfl) (byte_wrap _)) | exact (.cv64 rfl (fun _ => rfl) (by omega) (by omega)) | exact (.cv8 rfl (fun _ => rfl) (by omega) (by omega)) | exact (.l rfl (fun _ _ => rfl)) | exact (.l rfl (look_own 0 rfl rfl rfl rfl)) | exact (.l rfl (look_own 1 rfl rfl rfl rfl)) | exact (.l rfl (look_own 2 rfl rfl rfl rfl)) | exact (.l rfl (look_own 3 rfl rfl rfl rfl)) | exact (.l rfl (look_own 4 rfl rfl rfl rfl)) | exact (.l rfl (look_own 5 rfl rfl rfl rfl)) | exact (.l rfl (look_own 6 rfl rfl rfl rfl)) | exact (.l rfl (look_own 7 rfl rfl rfl rfl)) | exact (.l rfl (look_agg 0 rfl rfl rfl rfl)) | exact (.l rfl (look_agg 1 rfl rfl rfl rfl)) | exact (.l rfl (look_agg 2 rfl rfl rfl rfl)) | exact (.l rfl (look_agg 3 rfl rfl rfl rfl)) | exact (.l rfl (look_agg 4 rfl rfl rfl rfl)) | exact (.l rfl (look_agg 5 rfl rfl rfl rfl)) | exact (.l rfl (look_agg 6 rfl rfl rfl rfl)) | exact (.l rfl (look_agg 7 rfl rfl rfl rfl)) | exact (.l rfl (look_str 0 rfl rfl rfl rfl rfl rfl rfl)) | exact (.l rfl (look_str 1 rfl rfl rfl rfl rfl rfl rfl)) | exact (.l rfl (look_str 2 rfl rfl rfl rfl rfl rfl rfl)) | exact (.l rfl (look_str 3 rfl rfl rfl rfl rfl rfl rfl)))
    | refine ops_skip rfl rfl rfl ?_
    | (refine ops_step rfl rfl rfl ?_; first | (refine step_box rfl rfl rfl (fun _ => ?_)) | (refine step_alloc rfl rfl rfl rfl (fun _ => ?_)) | (refine step_buildSlice rfl rfl rfl rfl rfl (fun _ => ?_)) | (refine step_map rfl (fun _ => ?_)) | (refine step_store 0 rfl rfl rfl rfl rfl rfl rfl rfl rfl ?_) | (refine step_store 1 rfl rfl rfl rfl rfl rfl rfl rfl rfl ?_) | (refine step_store 2 rfl rfl rfl rfl rfl rfl rfl rfl rfl ?_) | (refine step_store 3 rfl rfl rfl rfl rfl rfl rfl rfl rfl ?_) | (refine step_store 4 rfl rfl rfl rfl rfl rfl rfl rfl rfl ?_) | (refine step_store 5 rfl rfl rfl rfl rfl rfl rfl rfl rfl ?_) | (refine step_store 6 rfl rfl rfl rfl rfl rfl rfl rfl rfl ?_) | (refine step_store 7 rfl rfl rfl rfl rfl rfl rfl rfl rfl ?_)))
    first | refine ops_pl rfl rfl rfl (PL.ptrSelf rfl rfl rfl rfl rfl) rfl ?_ | refine draw_pl rfl rfl rfl rfl (PL.ptrSelf rfl rfl rfl rfl rfl) rfl rfl ?_
    repeat (first
    | refine exec_seq ?_
    | refine exec_region ?_
    | refine exec_block ?_
    | refine exec_skip ?_
    | refine exec_exit ?_
    | refine exec_ret ?_
    | refine exec_true rfl ?_
    | refine exec_false rfl ?_
    | refine ops_nil ?_
    | (apply ops_pl rfl rfl rfl ?_ rfl ?_; rotate_left; focus first | exact (.bld rfl rfl rfl rfl) | exact (.cat rfl rfl rfl (by first | (simp; done) | (simp; omega))) | exact (.neSelf rfl rfl rfl rfl) | exact (.eqSelf rfl rfl rfl rfl) | exact (.wr64 rfl rfl (by omega) (by omega)) | exact (.wr8 rfl rfl (by omega) (by omega)) | exact (.num rfl rfl (and127_u8N (by omega))) | exact (.num rfl rfl (or128_u8N (by omega))) | exact (.orU8 rfl rfl rfl (by omega) (by omega)) | exact (.num rfl rfl (and127_i64N (by omega))) | exact (.num rfl rfl (and1_i64N (by omega))) | exact (.p rfl rfl) | exact (.max2 rfl rfl rfl) | exact (.min2 rfl rfl rfl) | exact (.numL rfl (fun _ => rfl) (byte_wrap _)) | exact (.cv64 rfl (fun _ => rfl) (by omega) (by omega)) | exact (.cv8 rfl (fun _ => rfl) (by omega) (by omega)) | exact (.l rfl (fun _ _ => rfl)) | exact (.l rfl (look_own 0 rfl rfl rfl rfl)) | exact (.l rfl (look_own 1 rfl rfl rfl rfl)) | exact (.l rfl (look_own 2 rfl rfl rfl rfl)) | exact (.l rfl (look_own 3 rfl rfl rfl rfl)) | exact (.l rfl (look_own 4 rfl rfl rfl rfl)) | exact (.l rfl (look_own 5 rfl rfl rfl rfl)) | exact (.l rfl (look_own 6 rfl rfl rfl rfl)) | exact (.l rfl (look_own 7 rfl rfl rfl rfl)) | exact (.l rfl (look_agg 0 rfl rfl rfl rfl)) | exact (.l rfl (look_agg 1 rfl rfl rfl rfl)) | exact (.l rfl (look_agg 2 rfl rfl rfl rfl)) | exact (.l rfl (look_agg 3 rfl rfl rfl rfl)) | exact (.l rfl (look_agg 4 rfl rfl rfl rfl)) | exact (.l rfl (look_agg 5 rfl rfl rfl rfl)) | exact (.l rfl (look_agg 6 rfl rfl rfl rfl)) | exact (.l rfl (look_agg 7 rfl rfl rfl rfl)) | exact (.l rfl (look_str 0 rfl rfl rfl rfl rfl rfl rfl)) | exact (.l rfl (look_str 1 rfl rfl rfl rfl rfl rfl rfl)) | exact (.l rfl (look_str 2 rfl rfl rfl rfl rfl rfl rfl)) | exact (.l rfl (look_str 3 rfl rfl rfl rfl rfl rfl rfl)))
    | refine ops_skip rfl rfl rfl ?_
    | (refine ops_step rfl rfl rfl ?_; first | (refine step_box rfl rfl rfl (fun _ => ?_)) | (refine step_alloc rfl rfl rfl rfl (fun _ => ?_)) | (refine step_buildSlice rfl rfl rfl rfl rfl (fun _ => ?_)) | (refine step_map rfl (fun _ => ?_)) | (refine step_store 0 rfl rfl rfl rfl rfl rfl rfl rfl rfl ?_) | (refine step_store 1 rfl rfl rfl rfl rfl rfl rfl rfl rfl ?_) | (refine step_store 2 rfl rfl rfl rfl rfl rfl rfl rfl rfl ?_) | (refine step_store 3 rfl rfl rfl rfl rfl rfl rfl rfl rfl ?_) | (refine step_store 4 rfl rfl rfl rfl rfl rfl rfl rfl rfl ?_) | (refine step_store 5 rfl rfl rfl rfl rfl rfl rfl rfl rfl ?_) | (refine step_store 6 rfl rfl rfl rfl rfl rfl rfl rfl rfl ?_) | (refine step_store 7 rfl rfl rfl rfl rfl rfl rfl rfl rfl ?_)))
    exact ⟨trivial, _, rfl, _, [], List.Perm.of_eq (List.append_nil _).symm, rfl⟩

set_option maxHeartbeats 8000000 in
set_option maxRecDepth 100000 in
theorem writeByte_ok {H : Heap} {bb : Nat} {s : List UInt8} {x : UInt8} {k : Int} {F : Atoms} (hst : St (blksOf F) H H F) (hF : BldF bb s F) (hk : k = (x.toNat : Int)) (hn : s.length ≤ 1000000) :
    FpC TT O 49 [.pointer (some ⟨bb, 0, some 0⟩), .int .u8 k] H F fun v F' => BldF bb (s ++ [x]) F' := by
  subst hk
  obtain ⟨q, a, n, c, p, rfl, hq, own⟩ := hF
  have hlen : s.length = n := by have := own.len; simpa using this
  refine call_fp rfl rfl rfl rfl rfl hst ?_
  repeat (first
  | refine exec_seq ?_
  | refine exec_region ?_
  | refine exec_block ?_
  | refine exec_skip ?_
  | refine exec_exit ?_
  | refine exec_ret ?_
  | refine exec_true rfl ?_
  | refine exec_false rfl ?_
  | refine ops_nil ?_
  | (apply ops_pl rfl rfl rfl ?_ rfl ?_; rotate_left; focus first | exact (.bld rfl rfl rfl rfl) | exact (.cat rfl rfl rfl (by first | (simp; done) | (simp; omega))) | exact (.neSelf rfl rfl rfl rfl) | exact (.eqSelf rfl rfl rfl rfl) | exact (.wr64 rfl rfl (by omega) (by omega)) | exact (.wr8 rfl rfl (by omega) (by omega)) | exact (.num rfl rfl (and127_u8N (by omega))) | exact (.num rfl rfl (or128_u8N (by omega))) | exact (.orU8 rfl rfl rfl (by omega) (by omega)) | exact (.num rfl rfl (and127_i64N (by omega))) | exact (.num rfl rfl (and1_i64N (by omega))) | exact (.p rfl rfl) | exact (.max2 rfl rfl rfl) | exact (.min2 rfl rfl rfl) | exact (.numL rfl (fun _ => rfl) (byte_wrap _)) | exact (.cv64 rfl (fun _ => rfl) (by omega) (by omega)) | exact (.cv8 rfl (fun _ => rfl) (by omega) (by omega)) | exact (.l rfl (fun _ _ => rfl)) | exact (.l rfl (look_own 0 rfl rfl rfl rfl)) | exact (.l rfl (look_own 1 rfl rfl rfl rfl)) | exact (.l rfl (look_own 2 rfl rfl rfl rfl)) | exact (.l rfl (look_own 3 rfl rfl rfl rfl)) | exact (.l rfl (look_own 4 rfl rfl rfl rfl)) | exact (.l rfl (look_own 5 rfl rfl rfl rfl)) | exact (.l rfl (look_own 6 rfl rfl rfl rfl)) | exact (.l rfl (look_own 7 rfl rfl rfl rfl)) | exact (.l rfl (look_agg 0 rfl rfl rfl rfl)) | exact (.l rfl (look_agg 1 rfl rfl rfl rfl)) | exact (.l rfl (look_agg 2 rfl rfl rfl rfl)) | exact (.l rfl (look_agg 3 rfl rfl rfl rfl)) | exact (.l rfl (look_agg 4 rfl rfl rfl rfl)) | exact (.l rfl (look_agg 5 rfl rfl rfl rfl)) | exact (.l rfl (look_agg 6 rfl rfl rfl rfl)) | exact (.l rfl (look_agg 7 rfl rfl rfl rfl)) | exact (.l rfl (look_str 0 rfl rfl rfl rfl rfl rfl rfl)) | exact (.l rfl (look_str 1 rfl rfl rfl rfl rfl rfl rfl)) | exact (.l rfl (look_str 2 rfl rfl rfl rfl rfl rfl rfl)) | exact (.l rfl (look_str 3 rfl rfl rfl rfl rfl rfl rfl)))
  | refine ops_skip rfl rfl rfl ?_
  | (refine ops_step rfl rfl rfl ?_; first | (refine step_box rfl rfl rfl (fun _ => ?_)) | (refine step_alloc rfl rfl rfl rfl (fun _ => ?_)) | (refine step_buildSlice rfl rfl rfl rfl rfl (fun _ => ?_)) | (refine step_map rfl (fun _ => ?_)) | (refine step_store 0 rfl rfl rfl rfl rfl rfl rfl rfl rfl ?_) | (refine step_store 1 rfl rfl rfl rfl rfl rfl rfl rfl rfl ?_) | (refine step_store 2 rfl rfl rfl rfl rfl rfl rfl rfl rfl ?_) | (refine step_store 3 rfl rfl rfl rfl rfl rfl rfl rfl rfl ?_) | (refine step_store 4 rfl rfl rfl rfl rfl rfl rfl rfl rfl ?_) | (refine step_store 5 rfl rfl rfl rfl rfl rfl rfl rfl rfl ?_) | (refine step_store 6 rfl rfl rfl rfl rfl rfl rfl rfl rfl ?_) | (refine step_store 7 rfl rfl rfl rfl rfl rfl rfl rfl rfl ?_)))
  refine ops_step rfl rfl rfl (step_call_fp [_] [_] rfl rfl rfl (List.Perm.refl _) (fun H hs hst => copyCheck_ok hst hq) (fun v F' h => ?_))
  subst h
  repeat (first
  | refine exec_seq ?_
  | refine exec_region ?_
  | refine exec_block ?_
  | refine exec_skip ?_
  | refine exec_exit ?_
  | refine exec_ret ?_
  | refine exec_true rfl ?_
  | refine exec_false rfl ?_
  | refine ops_nil ?_
  | (apply ops_pl rfl rfl rfl ?_ rfl ?_; rotate_left; focus first | exact (.bld rfl rfl rfl rfl) | exact (.cat rfl rfl rfl (by first | (simp; done) | (simp; omega))) | exact (.neSelf rfl rfl rfl rfl) | exact (.eqSelf rfl rfl rfl rfl) | exact (.wr64 rfl rfl (by omega) (by omega)) | exact (.wr8 rfl rfl (by omega) (by omega)) | exact (.num rfl rfl (and127_u8N (by omega))) | exact (.num rfl rfl (or128_u8N (by omega))) | exact (.orU8 rfl rfl rfl (by omega) (by omega)) | exact (.num rfl rfl (and127_i64N (by omega))) | exact (.num rfl rfl (and1_i64N (by omega))) | exact (.p rfl rfl) | exact (.max2 rfl rfl rfl) | exact (.min2 rfl rfl rfl) | exact (.numL rfl (fun _ => rfl) (byte_wrap _)) | exact (.cv64 rfl (fun _ => rfl) (by omega) (by omega)) | exact (.cv8 rfl (fun _ => rfl) (by omega) (by omega)) | exact (.l rfl (fun _ _ => rfl)) | exact (.l rfl (look_own 0 rfl rfl rfl rfl)) | exact (.l rfl (look_own 1 rfl rfl rfl rfl)) | exact (.l rfl (look_own 2 rfl rfl rfl rfl)) | exact (.l rfl (look_own 3 rfl rfl rfl rfl)) | exact (.l rfl (look_own 4 rfl rfl rfl rfl)) | exact (.l rfl (look_own 5 rfl rfl rfl rfl)) | exact (.l rfl (look_own 6 rfl rfl rfl rfl)) | exact (.l rfl (look_own 7 rfl rfl rfl rfl)) | exact (.l rfl (look_agg 0 rfl rfl rfl rfl)) | exact (.l rfl (look_agg 1 rfl rfl rfl rfl)) | exact (.l rfl (look_agg 2 rfl rfl rfl rfl)) | exact (.l rfl (look_agg 3 rfl rfl rfl rfl)) | exact (.l rfl (look_agg 4 rfl rfl rfl rfl)) | exact (.l rfl (look_agg 5 rfl rfl rfl rfl)) | exact (.l rfl (look_agg 6 rfl rfl rfl rfl)) | exact (.l rfl (look_agg 7 rfl rfl rfl rfl)) | exact (.l rfl (look_str 0 rfl rfl rfl rfl rfl rfl rfl)) | exact (.l rfl (look_str 1 rfl rfl rfl rfl rfl rfl rfl)) | exact (.l rfl (look_str 2 rfl rfl rfl rfl rfl rfl rfl)) | exact (.l rfl (look_str 3 rfl rfl rfl rfl rfl rfl rfl)))
  | refine ops_skip rfl rfl rfl ?_
  | (refine ops_step rfl rfl rfl ?_; first | (refine step_box rfl rfl rfl (fun _ => ?_)) | (refine step_alloc rfl rfl rfl rfl (fun _ => ?_)) | (refine step_buildSlice rfl rfl rfl rfl rfl (fun _ => ?_)) | (refine step_map rfl (fun _ => ?_)) | (refine step_store 0 rfl rfl rfl rfl rfl rfl rfl rfl rfl ?_) | (refine step_store 1 rfl rfl rfl rfl rfl rfl rfl rfl rfl ?_) | (refine step_store 2 rfl rfl rfl rfl rfl rfl rfl rfl rfl ?_) | (refine step_store 3 rfl rfl rfl rfl rfl rfl rfl rfl rfl ?_) | (refine step_store 4 rfl rfl rfl rfl rfl rfl rfl rfl rfl ?_) | (refine step_store 5 rfl rfl rfl rfl rfl rfl rfl rfl rfl ?_) | (refine step_store 6 rfl rfl rfl rfl rfl rfl rfl rfl rfl ?_) | (refine step_store 7 rfl rfl rfl rfl rfl rfl rfl rfl rfl ?_)))
  refine ops_step rfl rfl rfl (step_append 2 1 rfl rfl rfl rfl rfl rfl rfl rfl own (fun H hs => src_own (j := 0) hs rfl rfl 1) rfl (by first | rfl | exact allCell_map (fun _ => rfl) _) (by first | rfl | (simp; done) | (simp; omega)) (by omega) (fun a2 c2 p2 own2 => ?_))
  repeat (first
  | refine exec_seq ?_
  | refine exec_region ?_
  | refine exec_block ?_
  | refine exec_skip ?_
  | refine exec_exit ?_
  | refine exec_ret ?_
  | refine exec_true rfl ?_
  | refine exec_false rfl ?_
  | refine ops_nil ?_
  | (apply ops_pl rfl rfl rfl ?_ rfl ?_; rotate_left; focus first | exact (.bld rfl rfl rfl rfl) | exact (.cat rfl rfl rfl (by first | (simp; done) | (simp; omega))) | exact (.neSelf rfl rfl rfl rfl) | exact (.eqSelf rfl rfl rfl rfl) | exact (.wr64 rfl rfl (by omega) (by omega)) | exact (.wr8 rfl rfl (by omega) (by omega)) | exact (.num rfl rfl (and127_u8N (by omega))) | exact (.num rfl rfl (or128_u8N (by omega))) | exact (.orU8 rfl rfl rfl (by omega) (by omega)) | exact (.num rfl rfl (and127_i64N (by omega))) | exact (.num rfl rfl (and1_i64N (by omega))) | exact (.p rfl rfl) | exact (.max2 rfl rfl rfl) | exact (.min2 rfl rfl rfl) | exact (.numL rfl (fun _ => rfl) (byte_wrap _)) | exact (.cv64 rfl (fun _ => rfl) (by omega) (by omega)) | exact (.cv8 rfl (fun _ => rfl) (by omega) (by omega)) | exact (.l rfl (fun _ _ => rfl)) | exact (.l rfl (look_own 0 rfl rfl rfl rfl)) | exact (.l rfl (look_own 1 rfl rfl rfl rfl)) | exact (.l rfl (look_own 2 rfl rfl rfl rfl)) | exact (.l rfl (look_own 3 rfl rfl rfl rfl)) | exact (.l rfl (look_own 4 rfl rfl rfl rfl)) | exact (.l rfl (look_own 5 rfl rfl rfl rfl)) | exact (.l rfl (look_own 6 rfl rfl rfl rfl)) | exact (.l rfl (look_own 7 rfl rfl rfl rfl)) | exact (.l rfl (look_agg 0 rfl rfl rfl rfl)) | exact (.l rfl (look_agg 1 rfl rfl rfl rfl)) | exact (.l rfl (look_agg 2 rfl rfl rfl rfl)) | exact (.l rfl (look_agg 3 rfl rfl rfl rfl)) | exact (.l rfl (look_agg 4 rfl rfl rfl rfl)) | exact (.l rfl (look_agg 5 rfl rfl rfl rfl)) | exact (.l rfl (look_agg 6 rfl rfl rfl rfl)) | exact (.l rfl (look_agg 7 rfl rfl rfl rfl)) | exact (.l rfl (look_str 0 rfl rfl rfl rfl rfl rfl rfl)) | exact (.l rfl (look_str 1 rfl rfl rfl rfl rfl rfl rfl)) | exact (.l rfl (look_str 2 rfl rfl rfl rfl rfl rfl rfl)) | exact (.l rfl (look_str 3 rfl rfl rfl rfl rfl rfl rfl)))
  | refine ops_skip rfl rfl rfl ?_
  | (refine ops_step rfl rfl rfl ?_; first | (refine step_box rfl rfl rfl (fun _ => ?_)) | (refine step_alloc rfl rfl rfl rfl (fun _ => ?_)) | (refine step_buildSlice rfl rfl rfl rfl rfl (fun _ => ?_)) | (refine step_map rfl (fun _ => ?_)) | (refine step_store 0 rfl rfl rfl rfl rfl rfl rfl rfl rfl ?_) | (refine step_store 1 rfl rfl rfl rfl rfl rfl rfl rfl rfl ?_) | (refine step_store 2 rfl rfl rfl rfl rfl rfl rfl rfl rfl ?_) | (refine step_store 3 rfl rfl rfl rfl rfl rfl rfl rfl rfl ?_) | (refine step_store 4 rfl rfl rfl rfl rfl rfl rfl rfl rfl ?_) | (refine step_store 5 rfl rfl rfl rfl rfl rfl rfl rfl rfl ?_) | (refine step_store 6 rfl rfl rfl rfl rfl rfl rfl rfl rfl ?_) | (refine step_store 7 rfl rfl rfl rfl rfl rfl rfl rfl rfl ?_)))
  refine ⟨trivial, _, rfl, _, [_], List.perm_append_comm (l₁ := [_]) (l₂ := [_, _]), _, _, _, _, _, rfl, .inr rfl, ?_⟩
  rw [List.map_append]; exact own2

set_option maxHeartbeats 8000000 in
set_option maxRecDepth 100000 in
theorem writeString_ok {H : Heap} {bb : Nat} {s t : List UInt8} {F : Atoms} (hst : St (blksOf F) H H F) (hF : BldF bb s F) (hn : s.length ≤ 1000000) (ht : t.length ≤ 1000000) :
    FpC TT O 50 [.pointer (some ⟨bb, 0, some 0⟩), str t] H F fun v F' => BldF bb (s ++ t) F' := by
  obtain ⟨q, a, n, c, p, rfl, hq, own⟩ := hF
  have hlen : s.length = n := by have := own.len; simpa using this
  refine call_fp rfl rfl rfl rfl rfl hst ?_
  repeat (first
  | refine exec_seq ?_
  | refine exec_region ?_
  | refine exec_block ?_
  | refine exec_skip ?_
  | refine exec_exit ?_
  | refine exec_ret ?_
  | refine exec_true rfl ?_
  | refine exec_false rfl ?_
  | refine ops_nil ?_
  | (apply ops_pl rfl rfl rfl ?_ rfl ?_; rotate_left; focus first | exact (.bld rfl rfl rfl rfl) | exact (.cat rfl rfl rfl (by first | (simp; done) | (simp; omega))) | exact (.neSelf rfl rfl rfl rfl) | exact (.eqSelf rfl rfl rfl rfl) | exact (.wr64 rfl rfl (by omega) (by omega)) | exact (.wr8 rfl rfl (by omega) (by omega)) | exact (.num rfl rfl (and127_u8N (by omega))) | exact (.num rfl rfl (or128_u8N (by omega))) | exact (.orU8 rfl rfl rfl (by omega) (by omega)) | exact (.num rfl rfl (and127_i64N (by omega))) | exact (.num rfl rfl (and1_i64N (by omega))) | exact (.p rfl rfl) | exact (.max2 rfl rfl rfl) | exact (.min2 rfl rfl rfl) | exact (.numL rfl (fun _ => rfl) (byte_wrap _)) | exact (.cv64 rfl (fun _ => rfl) (by omega) (by omega)) | exact (.cv8 rfl (fun _ => rfl) (by omega) (by omega)) | exact (.l rfl (fun _ _ => rfl)) | exact (.l rfl (look_own 0 rfl rfl rfl rfl)) | exact (.l rfl (look_own 1 rfl rfl rfl rfl)) | exact (.l rfl (look_own 2 rfl rfl rfl rfl)) | exact (.l rfl (look_own 3 rfl rfl rfl rfl)) | exact (.l rfl (look_own 4 rfl rfl rfl rfl)) | exact (.l rfl (look_own 5 rfl rfl rfl rfl)) | exact (.l rfl (look_own 6 rfl rfl rfl rfl)) | exact (.l rfl (look_own 7 rfl rfl rfl rfl)) | exact (.l rfl (look_agg 0 rfl rfl rfl rfl)) | exact (.l rfl (look_agg 1 rfl rfl rfl rfl)) | exact (.l rfl (look_agg 2 rfl rfl rfl rfl)) | exact (.l rfl (look_agg 3 rfl rfl rfl rfl)) | exact (.l rfl (look_agg 4 rfl rfl rfl rfl)) | exact (.l rfl (look_agg 5 rfl rfl rfl rfl)) | exact (.l rfl (look_agg 6 rfl rfl rfl rfl)) | exact (.l rfl (look_agg 7 rfl rfl rfl rfl)) | exact (.l rfl (look_str 0 rfl rfl rfl rfl rfl rfl rfl)) | exact (.l rfl (look_str 1 rfl rfl rfl rfl rfl rfl rfl)) | exact (.l rfl (look_str 2 rfl rfl rfl rfl rfl rfl rfl)) | exact (.l rfl (look_str 3 rfl rfl rfl rfl rfl rfl rfl)))
  | refine ops_skip rfl rfl rfl ?_
  | (refine ops_step rfl rfl rfl ?_; first | (refine step_box rfl rfl rfl (fun _ => ?_)) | (refine step_alloc rfl rfl rfl rfl (fun _ => ?_)) | (refine step_buildSlice rfl rfl rfl rfl rfl (fun _ => ?_)) | (refine step_map rfl (fun _ => ?_)) | (refine step_store 0 rfl rfl rfl rfl rfl rfl rfl rfl rfl ?_) | (refine step_store 1 rfl rfl rfl rfl rfl rfl rfl rfl rfl ?_) | (refine step_store 2 rfl rfl rfl rfl rfl rfl rfl rfl rfl ?_) | (refine step_store 3 rfl rfl rfl rfl rfl rfl rfl rfl rfl ?_) | (refine step_store 4 rfl rfl rfl rfl rfl rfl rfl rfl rfl ?_) | (refine step_store 5 rfl rfl rfl rfl rfl rfl rfl rfl rfl ?_) | (refine step_store 6 rfl rfl rfl rfl rfl rfl rfl rfl rfl ?_) | (refine step_store 7 rfl rfl rfl rfl rfl rfl rfl rfl rfl ?_)))
  refine ops_step rfl rfl rfl (step_call_fp [_] [_] rfl rfl rfl (List.Perm.refl _) (fun H hs hst => copyCheck_ok hst hq) (fun v F' h => ?_))
  subst h
  repeat (first
  | refine exec_seq ?_
  | refine exec_region ?_
  | refine exec_block ?_
  | refine exec_skip ?_
  | refine exec_exit ?_
  | refine exec_ret ?_
  | refine exec_true rfl ?_
  | refine exec_false rfl ?_
  | refine ops_nil ?_
  | (apply ops_pl rfl rfl rfl ?_ rfl ?_; rotate_left; focus first | exact (.bld rfl rfl rfl rfl) | exact (.cat rfl rfl rfl (by first | (simp; done) | (simp; omega))) | exact (.neSelf rfl rfl rfl rfl) | exact (.eqSelf rfl rfl rfl rfl) | exact (.wr64 rfl rfl (by omega) (by omega)) | exact (.wr8 rfl rfl (by omega) (by omega)) | exact (.num rfl rfl (and127_u8N (by omega))) | exact (.num rfl rfl (or128_u8N (by omega))) | exact (.orU8 rfl rfl rfl (by omega) (by omega)) | exact (.num rfl rfl (and127_i64N (by omega))) | exact (.num rfl rfl (and1_i64N (by omega))) | exact (.p rfl rfl) | exact (.max2 rfl rfl rfl) | exact (.min2 rfl rfl rfl) | exact (.numL rfl (fun _ => rfl) (byte_wrap _)) | exact (.cv64 rfl (fun _ => rfl) (by omega) (by omega)) | exact (.cv8 rfl (fun _ => rfl) (by omega) (by omega)) | exact (.l rfl (fun _ _ => rfl)) | exact (.l rfl (look_own 0 rfl rfl rfl rfl)) | exact (.l rfl (look_own 1 rfl rfl rfl rfl)) | exact (.l rfl (look_own 2 rfl rfl rfl rfl)) | exact (.l rfl (look_own 3 rfl rfl rfl rfl)) | exact (.l rfl (look_own 4 rfl rfl rfl rfl)) | exact (.l rfl (look_own 5 rfl rfl rfl rfl)) | exact (.l rfl (look_own 6 rfl rfl rfl rfl)) | exact (.l rfl (look_own 7 rfl rfl rfl rfl)) | exact (.l rfl (look_agg 0 rfl rfl rfl rfl)) | exact (.l rfl (look_agg 1 rfl rfl rfl rfl)) | exact (.l rfl (look_agg 2 rfl rfl rfl rfl)) | exact (.l rfl (look_agg 3 rfl rfl rfl rfl)) | exact (.l rfl (look_agg 4 rfl rfl rfl rfl)) | exact (.l rfl (look_agg 5 rfl rfl rfl rfl)) | exact (.l rfl (look_agg 6 rfl rfl rfl rfl)) | exact (.l rfl (look_agg 7 rfl rfl rfl rfl)) | exact (.l rfl (look_str 0 rfl rfl rfl rfl rfl rfl rfl)) | exact (.l rfl (look_str 1 rfl rfl rfl rfl rfl rfl rfl)) | exact (.l rfl (look_str 2 rfl rfl rfl rfl rfl rfl rfl)) | exact (.l rfl (look_str 3 rfl rfl rfl rfl rfl rfl rfl)))
  | refine ops_skip rfl rfl rfl ?_
  | (refine ops_step rfl rfl rfl ?_; first | (refine step_box rfl rfl rfl (fun _ => ?_)) | (refine step_alloc rfl rfl rfl rfl (fun _ => ?_)) | (refine step_buildSlice rfl rfl rfl rfl rfl (fun _ => ?_)) | (refine step_map rfl (fun _ => ?_)) | (refine step_store 0 rfl rfl rfl rfl rfl rfl rfl rfl rfl ?_) | (refine step_store 1 rfl rfl rfl rfl rfl rfl rfl rfl rfl ?_) | (refine step_store 2 rfl rfl rfl rfl rfl rfl rfl rfl rfl ?_) | (refine step_store 3 rfl rfl rfl rfl rfl rfl rfl rfl rfl ?_) | (refine step_store 4 rfl rfl rfl rfl rfl rfl rfl rfl rfl ?_) | (refine step_store 5 rfl rfl rfl rfl rfl rfl rfl rfl rfl ?_) | (refine step_store 6 rfl rfl rfl rfl rfl rfl rfl rfl rfl ?_) | (refine step_store 7 rfl rfl rfl rfl rfl rfl rfl rfl rfl ?_)))
  refine ops_step rfl rfl rfl (step_append 1 1 rfl rfl rfl rfl rfl rfl rfl rfl own (fun H hs => (show src O H 1 (str t) = some (t.length, t.map by8) from rfl)) rfl (by first | rfl | exact allCell_map (fun _ => rfl) _) (by first | rfl | (simp; done) | (simp; omega)) (by omega) (fun a2 c2 p2 own2 => ?_))
  repeat (first
  | refine exec_seq ?_
  | refine exec_region ?_
  | refine exec_block ?_
  | refine exec_skip ?_
  | refine exec_exit ?_
  | refine exec_ret ?_
  | refine exec_true rfl ?_
  | refine exec_false rfl ?_
  | refine ops_nil ?_
  | (apply ops_pl rfl rfl rfl ?_ rfl ?_; rotate_left; focus first | exact (.bld rfl rfl rfl rfl) | exact (.cat rfl rfl rfl (by first | (simp; done) | (simp; omega))) | exact (.neSelf rfl rfl rfl rfl) | exact (.eqSelf rfl rfl rfl rfl) | exact (.wr64 rfl rfl (by omega) (by omega)) | exact (.wr8 rfl rfl (by omega) (by omega)) | exact (.num rfl rfl (and127_u8N (by omega))) | exact (.num rfl rfl (or128_u8N (by omega))) | exact (.orU8 rfl rfl rfl (by omega) (by omega)) | exact (.num rfl rfl (and127_i64N (by omega))) | exact (.num rfl rfl (and1_i64N (by omega))) | exact (.p rfl rfl) | exact (.max2 rfl rfl rfl) | exact (.min2 rfl rfl rfl) | exact (.numL rfl (fun _ => rfl) (byte_wrap _)) | exact (.cv64 rfl (fun _ => rfl) (by omega) (by omega)) | exact (.cv8 rfl (fun _ => rfl) (by omega) (by omega)) | exact (.l rfl (fun _ _ => rfl)) | exact (.l rfl (look_own 0 rfl rfl rfl rfl)) | exact (.l rfl (look_own 1 rfl rfl rfl rfl)) | exact (.l rfl (look_own 2 rfl rfl rfl rfl)) | exact (.l rfl (look_own 3 rfl rfl rfl rfl)) | exact (.l rfl (look_own 4 rfl rfl rfl rfl)) | exact (.l rfl (look_own 5 rfl rfl rfl rfl)) | exact (.l rfl (look_own 6 rfl rfl rfl rfl)) | exact (.l rfl (look_own 7 rfl rfl rfl rfl)) | exact (.l rfl (look_agg 0 rfl rfl rfl rfl)) | exact (.l rfl (look_agg 1 rfl rfl rfl rfl)) | exact (.l rfl (look_agg 2 rfl rfl rfl rfl)) | exact (.l rfl (look_agg 3 rfl rfl rfl rfl)) | exact (.l rfl (look_agg 4 rfl rfl rfl rfl)) | exact (.l rfl (look_agg 5 rfl rfl rfl rfl)) | exact (.l rfl (look_agg 6 rfl rfl rfl rfl)) | exact (.l rfl (look_agg 7 rfl rfl rfl rfl)) | exact (.l rfl (look_str 0 rfl rfl rfl rfl rfl rfl rfl)) | exact (.l rfl (look_str 1 rfl rfl rfl rfl rfl rfl rfl)) | exact (.l rfl (look_str 2 rfl rfl rfl rfl rfl rfl rfl)) | exact (.l rfl (look_str 3 rfl rfl rfl rfl rfl rfl rfl)))
  | refine ops_skip rfl rfl rfl ?_
  | (refine ops_step rfl rfl rfl ?_; first | (refine step_box rfl rfl rfl (fun _ => ?_)) | (refine step_alloc rfl rfl rfl rfl (fun _ => ?_)) | (refine step_buildSlice rfl rfl rfl rfl rfl (fun _ => ?_)) | (refine step_map rfl (fun _ => ?_)) | (refine step_store 0 rfl rfl rfl rfl rfl rfl rfl rfl rfl ?_) | (refine step_store 1 rfl rfl rfl rfl rfl rfl rfl rfl rfl ?_) | (refine step_store 2 rfl rfl rfl rfl rfl rfl rfl rfl rfl ?_) | (refine step_store 3 rfl rfl rfl rfl rfl rfl rfl rfl rfl ?_) | (refine step_store 4 rfl rfl rfl rfl rfl rfl rfl rfl rfl ?_) | (refine step_store 5 rfl rfl rfl rfl rfl rfl rfl rfl rfl ?_) | (refine step_store 6 rfl rfl rfl rfl rfl rfl rfl rfl rfl ?_) | (refine step_store 7 rfl rfl rfl rfl rfl rfl rfl rfl rfl ?_)))
  refine ⟨trivial, _, rfl, _, [], List.Perm.of_eq (List.append_nil _).symm, _, _, _, _, _, rfl, .inr rfl, ?_⟩
  rw [List.map_append]; exact own2

set_option maxHeartbeats 8000000 in
set_option maxRecDepth 100000 in
theorem bldString_ok {H : Heap} {bb : Nat} {s : List UInt8} {F : Atoms} (hst : St (blksOf F) H H F) (hF : BldF bb s F) (h0 : s ≠ []) (h1 : s.length ≤ 1000000) :
    FpC TT O 51 [.pointer (some ⟨bb, 0, some 0⟩)] H F fun v F' => v = str s := by
  obtain ⟨q, a, n, c, p, rfl, hq, own⟩ := hF
  have hlen : s.length = n := by have := own.len; simpa using this
  obtain ⟨m, rfl⟩ : ∃ m, n = m + 1 := ⟨n - 1, by have := List.length_pos_iff.2 h0; omega⟩
  obtain ⟨b, ver, rfl, rfl, rfl, hl⟩ := own.inv (by omega)
  refine call_fp rfl rfl rfl rfl rfl hst ?_
  repeat (first
  | refine exec_seq ?_
  | refine exec_region ?_
  | refine exec_block ?_
  | refine exec_skip ?_
  | refine exec_exit ?_
  | refine exec_ret ?_
  | refine exec_true rfl ?_
  | refine exec_false rfl ?_
  | refine ops_nil ?_
  | (apply ops_pl rfl rfl rfl ?_ rfl ?_; rotate_left; focus first | exact (.bld rfl rfl rfl rfl) | exact (.cat rfl rfl rfl (by first | (simp; done) | (simp; omega))) | exact (.neSelf rfl rfl rfl rfl) | exact (.eqSelf rfl rfl rfl rfl) | exact (.wr64 rfl rfl (by omega) (by omega)) | exact (.wr8 rfl rfl (by omega) (by omega)) | exact (.num rfl rfl (and127_u8N (by omega))) | exact (.num rfl rfl (or128_u8N (by omega))) | exact (.orU8 rfl rfl rfl (by omega) (by omega)) | exact (.num rfl rfl (and127_i64N (by omega))) | exact (.num rfl rfl (and1_i64N (by omega))) | exact (.p rfl rfl) | exact (.max2 rfl rfl rfl) | exact (.min2 rfl rfl rfl) | exact (.numL rfl (fun _ => rfl) (byte_wrap _)) | exact (.cv64 rfl (fun _ => rfl) (by omega) (by omega)) | exact (.cv8 rfl (fun _ => rfl) (by omega) (by omega)) | exact (.l rfl (fun _ _ => rfl)) | exact (.l rfl (look_own 0 rfl rfl rfl rfl)) | exact (.l rfl (look_own 1 rfl rfl rfl rfl)) | exact (.l rfl (look_own 2 rfl rfl rfl rfl)) | exact (.l rfl (look_own 3 rfl rfl rfl rfl)) | exact (.l rfl (look_own 4 rfl rfl rfl rfl)) | exact (.l rfl (look_own 5 rfl rfl rfl rfl)) | exact (.l rfl (look_own 6 rfl rfl rfl rfl)) | exact (.l rfl (look_own 7 rfl rfl rfl rfl)) | exact (.l rfl (look_agg 0 rfl rfl rfl rfl)) | exact (.l rfl (look_agg 1 rfl rfl rfl rfl)) | exact (.l rfl (look_agg 2 rfl rfl rfl rfl)) | exact (.l rfl (look_agg 3 rfl rfl rfl rfl)) | exact (.l rfl (look_agg 4 rfl rfl rfl rfl)) | exact (.l rfl (look_agg 5 rfl rfl rfl rfl)) | exact (.l rfl (look_agg 6 rfl rfl rfl rfl)) | exact (.l rfl (look_agg 7 rfl rfl rfl rfl)) | exact (.l rfl (look_str 0 rfl rfl rfl rfl rfl rfl rfl)) | exact (.l rfl (look_str 1 rfl rfl rfl rfl rfl rfl rfl)) | exact (.l rfl (look_str 2 rfl rfl rfl rfl rfl rfl rfl)) | exact (.l rfl (look_str 3 rfl rfl rfl rfl rfl rfl rfl)))
  | refine ops_skip rfl rfl rfl ?_
  | (refine ops_step rfl rfl rfl ?_; first | (refine step_box rfl rfl rfl (fun _ => ?_)) | (refine step_alloc rfl rfl rfl rfl (fun _ => ?_)) | (refine step_buildSlice rfl rfl rfl rfl rfl (fun _ => ?_)) | (refine step_map rfl (fun _ => ?_)) | (refine step_store 0 rfl rfl rfl rfl rfl rfl rfl rfl rfl ?_) | (refine step_store 1 rfl rfl rfl rfl rfl rfl rfl rfl rfl ?_) | (refine step_store 2 rfl rfl rfl rfl rfl rfl rfl rfl rfl ?_) | (refine step_store 3 rfl rfl rfl rfl rfl rfl rfl rfl rfl ?_) | (refine step_store 4 rfl rfl rfl rfl rfl rfl rfl rfl rfl ?_) | (refine step_store 5 rfl rfl rfl rfl rfl rfl rfl rfl rfl ?_) | (refine step_store 6 rfl rfl rfl rfl rfl rfl rfl rfl rfl ?_) | (refine step_store 7 rfl rfl rfl rfl rfl rfl rfl rfl rfl ?_)))
  refine exec_draw (lst := [(0, 0), (1, 1), (2, 3), (3, 7), (4, 15), (5, 0), (6, 32), (7, 96), (8, 224), (9, 480), (10, 1023), (11, 2047)]) (full := 4095) (by kernel_rfl) (by kernel_rfl) (by kernel_rfl) (by kernel_rfl) ?_
  repeat (first
  | (apply draw_pl rfl rfl rfl rfl ?_ rfl rfl ?_; rotate_left; focus first | exact (.bld rfl rfl rfl rfl) | exact (.cat rfl rfl rfl (by first | (simp; done) | (simp; omega))) | exact (.neSelf rfl rfl rfl rfl) | exact (.eqSelf rfl rfl rfl rfl) | exact (.wr64 rfl rfl (by omega) (by omega)) | exact (.wr8 rfl rfl (by omega) (by omega)) | exact (.num rfl rfl (and127_u8N (by omega))) | exact (.num rfl rfl (or128_u8N (by omega))) | exact (.orU8 rfl rfl rfl (by omega) (by omega)) | exact (.num rfl rfl (and127_i64N (by omega))) | exact (.num rfl rfl (and1_i64N (by omega))) | exact (.p rfl rfl) | exact (.max2 rfl rfl rfl) | exact (.min2 rfl rfl rfl) | exact (.numL rfl (fun _ => rfl) (byte_wrap _)) | exact (.cv64 rfl (fun _ => rfl) (by omega) (by omega)) | exact (.cv8 rfl (fun _ => rfl) (by omega) (by omega)) | exact (.l rfl (fun _ _ => rfl)) | exact (.l rfl (look_own 0 rfl rfl rfl rfl)) | exact (.l rfl (look_own 1 rfl rfl rfl rfl)) | exact (.l rfl (look_own 2 rfl rfl rfl rfl)) | exact (.l rfl (look_own 3 rfl rfl rfl rfl)) | exact (.l rfl (look_own 4 rfl rfl rfl rfl)) | exact (.l rfl (look_own 5 rfl rfl rfl rfl)) | exact (.l rfl (look_own 6 rfl rfl rfl rfl)) | exact (.l rfl (look_own 7 rfl rfl rfl rfl)) | exact (.l rfl (look_agg 0 rfl rfl rfl rfl)) | exact (.l rfl (look_agg 1 rfl rfl rfl rfl)) | exact (.l rfl (look_agg 2 rfl rfl rfl rfl)) | exact (.l rfl (look_agg 3 rfl rfl rfl rfl)) | exact (.l rfl (look_agg 4 rfl rfl rfl rfl)) | exact (.l rfl (look_agg 5 rfl rfl rfl rfl)) | exact (.l rfl (look_agg 6 rfl rfl rfl rfl)) | exact (.l rfl (look_agg 7 rfl rfl rfl rfl)) | exact (.l rfl (look_str 0 rfl rfl rfl rfl rfl rfl rfl)) | exact (.l rfl (look_str 1 rfl rfl rfl rfl rfl rfl rfl)) | exact (.l rfl (look_str 2 rfl rfl rfl rfl rfl rfl rfl)) | exact (.l rfl (look_str 3 rfl rfl rfl rfl rfl rfl rfl)))
  | refine draw_skip rfl rfl rfl rfl ?_
  | refine draw_nil ?_)
  refine draw_w rfl rfl rfl rfl rfl rfl (step_unsafeString (l := s) (j := 1) rfl rfl (by rw [hlen]; rfl) rfl rfl rfl rfl (by omega) (by omega) ⟨by repeat (first | exact True.intro | refine And.intro (.inl rfl) ?_ | refine And.intro (.inr ⟨veq_refl rfl, (fun _ _ => rfl)⟩) ?_ | refine And.intro (.inr ⟨veq_refl rfl, (look_own 0 rfl rfl rfl rfl)⟩) ?_), ?_⟩)
  repeat (first
  | (apply draw_pl rfl rfl rfl rfl ?_ rfl rfl ?_; rotate_left; focus first | exact (.bld rfl rfl rfl rfl) | exact (.cat rfl rfl rfl (by first | (simp; done) | (simp; omega))) | exact (.neSelf rfl rfl rfl rfl) | exact (.eqSelf rfl rfl rfl rfl) | exact (.wr64 rfl rfl (by omega) (by omega)) | exact (.wr8 rfl rfl (by omega) (by omega)) | exact (.num rfl rfl (and127_u8N (by omega))) | exact (.num rfl rfl (or128_u8N (by omega))) | exact (.orU8 rfl rfl rfl (by omega) (by omega)) | exact (.num rfl rfl (and127_i64N (by omega))) | exact (.num rfl rfl (and1_i64N (by omega))) | exact (.p rfl rfl) | exact (.max2 rfl rfl rfl) | exact (.min2 rfl rfl rfl) | exact (.numL rfl (fun _ => rfl) (byte_wrap _)) | exact (.cv64 rfl (fun _ => rfl) (by omega) (by omega)) | exact (.cv8 rfl (fun _ => rfl) (by omega) (by omega)) | exact (.l rfl (fun _ _ => rfl)) | exact (.l rfl (look_own 0 rfl rfl rfl rfl)) | exact (.l rfl (look_own 1 rfl rfl rfl rfl)) | exact (.l rfl (look_own 2 rfl rfl rfl rfl)) | exact (.l rfl (look_own 3 rfl rfl rfl rfl)) | exact (.l rfl (look_own 4 rfl rfl rfl rfl)) | exact (.l rfl (look_own 5 rfl rfl rfl rfl)) | exact (.l rfl (look_own 6 rfl rfl rfl rfl)) | exact (.l rfl (look_own 7 rfl rfl rfl rfl)) | exact (.l rfl (look_agg 0 rfl rfl rfl rfl)) | exact (.l rfl (look_agg 1 rfl rfl rfl rfl)) | exact (.l rfl (look_agg 2 rfl rfl rfl rfl)) | exact (.l rfl (look_agg 3 rfl rfl rfl rfl)) | exact (.l rfl (look_agg 4 rfl rfl rfl rfl)) | exact (.l rfl (look_agg 5 rfl rfl rfl rfl)) | exact (.l rfl (look_agg 6 rfl rfl rfl rfl)) | exact (.l rfl (look_agg 7 rfl rfl rfl rfl)) | exact (.l rfl (look_str 0 rfl rfl rfl rfl rfl rfl rfl)) | exact (.l rfl (look_str 1 rfl rfl rfl rfl rfl rfl rfl)) | exact (.l rfl (look_str 2 rfl rfl rfl rfl rfl rfl rfl)) | exact (.l rfl (look_str 3 rfl rfl rfl rfl rfl rfl rfl)))
  | refine draw_skip rfl rfl rfl rfl ?_
  | refine draw_nil ?_)
  repeat (first
  | refine exec_seq ?_
  | refine exec_region ?_
  | refine exec_block ?_
  | refine exec_skip ?_
  | refine exec_exit ?_
  | refine exec_ret ?_
  | refine exec_true rfl ?_
  | refine exec_false rfl ?_
  | refine ops_nil ?_
  | (apply ops_pl rfl rfl rfl ?_ rfl ?_; rotate_left; focus first | exact (.bld rfl rfl rfl rfl) | exact (.cat rfl rfl rfl (by first | (simp; done) | (simp; omega))) | exact (.neSelf rfl rfl rfl rfl) | exact (.eqSelf rfl rfl rfl rfl) | exact (.wr64 rfl rfl (by omega) (by omega)) | exact (.wr8 rfl rfl (by omega) (by omega)) | exact (.num rfl rfl (and127_u8N (by omega))) | exact (.num rfl rfl (or128_u8N (by omega))) | exact (.orU8 rfl rfl rfl (by omega) (by omega)) | exact (.num rfl rfl (and127_i64N (by omega))) | exact (.num rfl rfl (and1_i64N (by omega))) | exact (.p rfl rfl) | exact (.max2 rfl rfl rfl) | exact (.min2 rfl rfl rfl) | exact (.numL rfl (fun _ => rfl) (byte_wrap _)) | exact (.cv64 rfl (fun _ => rfl) (by omega) (by omega)) | exact (.cv8 rfl (fun _ => rfl) (by omega) (by omega)) | exact (.l rfl (fun _ _ => rfl)) | exact (.l rfl (look_own 0 rfl rfl rfl rfl)) | exact (.l rfl (look_own 1 rfl rfl rfl rfl)) | exact (.l rfl (look_own 2 rfl rfl rfl rfl)) | exact (.l rfl (look_own 3 rfl rfl rfl rfl)) | exact (.l rfl (look_own 4 rfl rfl rfl rfl)) | exact (.l rfl (look_own 5 rfl rfl rfl rfl)) | exact (.l rfl (look_own 6 rfl rfl rfl rfl)) | exact (.l rfl (look_own 7 rfl rfl rfl rfl)) | exact (.l rfl (look_agg 0 rfl rfl rfl rfl)) | exact (.l rfl (look_agg 1 rfl rfl rfl rfl)) | exact (.l rfl (look_agg 2 rfl rfl rfl rfl)) | exact (.l rfl (look_agg 3 rfl rfl rfl rfl)) | exact (.l rfl (look_agg 4 rfl rfl rfl rfl)) | exact (.l rfl (look_agg 5 rfl rfl rfl rfl)) | exact (.l rfl (look_agg 6 rfl rfl rfl rfl)) | exact (.l rfl (look_agg 7 rfl rfl rfl rfl)) | exact (.l rfl (look_str 0 rfl rfl rfl rfl rfl rfl rfl)) | exact (.l rfl (look_str 1 rfl rfl rfl rfl rfl rfl rfl)) | exact (.l rfl (look_str 2 rfl rfl rfl rfl rfl rfl rfl)) | exact (.l rfl (look_str 3 rfl rfl rfl rfl rfl rfl rfl)))
  | refine ops_skip rfl rfl rfl ?_
  | (refine ops_step rfl rfl rfl ?_; first | (refine step_box rfl rfl rfl (fun _ => ?_)) | (refine step_alloc rfl rfl rfl rfl (fun _ => ?_)) | (refine step_buildSlice rfl rfl rfl rfl rfl (fun _ => ?_)) | (refine step_map rfl (fun _ => ?_)) | (refine step_store 0 rfl rfl rfl rfl rfl rfl rfl rfl rfl ?_) | (refine step_store 1 rfl rfl rfl rfl rfl rfl rfl rfl rfl ?_) | (refine step_store 2 rfl rfl rfl rfl rfl rfl rfl rfl rfl ?_) | (refine step_store 3 rfl rfl rfl rfl rfl rfl rfl rfl rfl ?_) | (refine step_store 4 rfl rfl rfl rfl rfl rfl rfl rfl rfl ?_) | (refine step_store 5 rfl rfl rfl rfl rfl rfl rfl rfl rfl ?_) | (refine step_store 6 rfl rfl rfl rfl rfl rfl rfl rfl rfl ?_) | (refine step_store 7 rfl rfl rfl rfl rfl rfl rfl rfl rfl ?_)))
  exact ⟨trivial, _, rfl, _, [], List.Perm.of_eq (List.append_nil _).symm, rfl⟩
end Go.Proofs.Ytceoheliineobaa

