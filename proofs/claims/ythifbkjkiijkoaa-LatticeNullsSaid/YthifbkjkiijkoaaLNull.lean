/-
  'bonsailaw11.LatticeNulls' is true at every input: the walk.
-/
import Derived.Test.YthifbkjkiijkoaaTm
import Derived.Test.YthifbkjkiijkoaaLat2
import Derived.Test.YthifbkjkiijkoaaEvArgA
namespace Go.Proofs.Ythifbkjkiijkoaa
open Go.Ev Go.Ev.Wk
set_option linter.unusedVariables false
set_option linter.unusedSimpArgs false
variable {O : Old}


def nul : Typ := (6, [])
def ref0 (a : Typ) : Bool := decide (a.1 = 3) || decide (a.1 = 4)

theorem nulls_law : ∀ (m6 : Bool), ∀ n < 256, (fitsB (tmA m6) nul (ofT n [65]) = (ref0 (ofT n [65]) || decide (ofT n [65] = nul)) ∧ refersB (ofT n [65]) = (ref0 (ofT n [65]) || decide (ofT n [65] = nul)) ∧ joinT (tmA m6) (ofT n [65]) nul = joinT (tmA m6) nul (ofT n [65]) ∧
    (if (ref0 (ofT n [65]) || decide (ofT n [65] = nul)) = true then joinT (tmA m6) (ofT n [65]) nul = ofT n [65] else (joinT (tmA m6) (ofT n [65]) nul).1 = 7 ∧ fitsB (tmA m6) (ofT n [65]) nul = false)) := by decide +kernel

set_option maxHeartbeats 32000000 in
set_option maxRecDepth 100000 in
theorem latticeNulls_walk {k0 k1 k2 k3 x : Int} (h0 : 0 ≤ k0 ∧ k0 ≤ 255) (h1 : 0 ≤ k1 ∧ k1 ≤ 255) (h2 : 0 ≤ k2 ∧ k2 ≤ 255) (h3 : 0 ≤ k3 ∧ k3 ≤ 255) (hx : 0 ≤ x ∧ x ≤ 255) :
    CallC TT O 6 [.agg #[.int .u8 k0, .int .u8 k1, .int .u8 k2, .int .u8 k3], .int .u8 x] .empty fun v H' => v = .bool true ∧ Ext .empty H' := by
  obtain ⟨n, rfl⟩ := Int.eq_ofNat_of_zero_le hx.1
  refine call_pure rfl rfl rfl rfl rfl ?_
  repeat (first
      | (refine exec_more ?_; first
          | refine exec_seq ?_
          | refine exec_region ?_
          | refine exec_block ?_
          | refine exec_skip ?_
          | refine exec_exit ?_
          | refine exec_ret ?_
          | refine exec_true rfl ?_
          | refine exec_false rfl ?_)
      | refine ops_nil ?_
      | (refine ops_more ?_; first
          | (apply ops_pl rfl rfl rfl ?_ rfl ?_; rotate_left; focus first | exact (.bld rfl rfl rfl rfl) | exact (.cat rfl rfl rfl (by first | (simp; done) | (simp; omega))) | exact (.neSelf rfl rfl rfl rfl) | exact (.eqSelf rfl rfl rfl rfl) | exact (.wr64 rfl rfl (by omega) (by omega)) | exact (.p rfl rfl) | exact (.cv64 rfl (fun _ => rfl) (by omega) (by omega)) | exact (.l rfl (fun _ _ => rfl)) | exact (.l rfl (look_own 0 rfl rfl rfl rfl)) | exact (.l rfl (look_own 1 rfl rfl rfl rfl)) | exact (.l rfl (look_own 2 rfl rfl rfl rfl)) | exact (.l rfl (look_own 3 rfl rfl rfl rfl)) | exact (.l rfl (look_agg 0 rfl rfl rfl rfl)) | exact (.l rfl (look_agg 1 rfl rfl rfl rfl)) | exact (.l rfl (look_agg 2 rfl rfl rfl rfl)) | exact (.l rfl (look_agg 3 rfl rfl rfl rfl)))
          | refine ops_skip rfl rfl rfl ?_
          | (refine ops_step rfl rfl rfl ?_; first | (refine step_box rfl rfl rfl (fun _ => ?_)) | (refine step_alloc rfl rfl rfl rfl (fun _ => ?_)) | (refine step_buildSliceF rfl rfl rfl rfl rfl rfl (fun _ => ?_)) | (refine step_map rfl (fun _ => ?_)) | (refine step_storeZ 0 rfl rfl rfl rfl rfl rfl rfl rfl rfl ?_) | (refine step_storeZ 1 rfl rfl rfl rfl rfl rfl rfl rfl rfl ?_) | (refine step_storeZ 2 rfl rfl rfl rfl rfl rfl rfl rfl rfl ?_))))
  refine ops_step rfl rfl rfl (step_call_pure rfl rfl rfl (fun H hs => call_known rfl) ?_)
  repeat (first
      | (refine exec_more ?_; first
          | refine exec_seq ?_
          | refine exec_region ?_
          | refine exec_block ?_
          | refine exec_skip ?_
          | refine exec_exit ?_
          | refine exec_ret ?_
          | refine exec_true rfl ?_
          | refine exec_false rfl ?_)
      | refine ops_nil ?_
      | (refine ops_more ?_; first
          | (apply ops_pl rfl rfl rfl ?_ rfl ?_; rotate_left; focus first | exact (.bld rfl rfl rfl rfl) | exact (.cat rfl rfl rfl (by first | (simp; done) | (simp; omega))) | exact (.neSelf rfl rfl rfl rfl) | exact (.eqSelf rfl rfl rfl rfl) | exact (.wr64 rfl rfl (by omega) (by omega)) | exact (.p rfl rfl) | exact (.cv64 rfl (fun _ => rfl) (by omega) (by omega)) | exact (.l rfl (fun _ _ => rfl)) | exact (.l rfl (look_own 0 rfl rfl rfl rfl)) | exact (.l rfl (look_own 1 rfl rfl rfl rfl)) | exact (.l rfl (look_own 2 rfl rfl rfl rfl)) | exact (.l rfl (look_own 3 rfl rfl rfl rfl)) | exact (.l rfl (look_agg 0 rfl rfl rfl rfl)) | exact (.l rfl (look_agg 1 rfl rfl rfl rfl)) | exact (.l rfl (look_agg 2 rfl rfl rfl rfl)) | exact (.l rfl (look_agg 3 rfl rfl rfl rfl)))
          | refine ops_skip rfl rfl rfl ?_
          | (refine ops_step rfl rfl rfl ?_; first | (refine step_box rfl rfl rfl (fun _ => ?_)) | (refine step_alloc rfl rfl rfl rfl (fun _ => ?_)) | (refine step_buildSliceF rfl rfl rfl rfl rfl rfl (fun _ => ?_)) | (refine step_map rfl (fun _ => ?_)) | (refine step_storeZ 0 rfl rfl rfl rfl rfl rfl rfl rfl rfl ?_) | (refine step_storeZ 1 rfl rfl rfl rfl rfl rfl rfl rfl rfl ?_) | (refine step_storeZ 2 rfl rfl rfl rfl rfl rfl rfl rfl rfl ?_))))
  refine ops_step rfl rfl rfl (step_call_fp [] _ rfl rfl rfl (List.Perm.refl _) (fun H hs hst => seatArchive_ok hst h0 h1 h2 h3) (fun v F' h => ?_))
  obtain ⟨aa, ac, m6, kd, c4, c5, c6, c7, c8, c9, c11, c12, c13, c14, c15, c16, c17, cl, rfl, hF, hper, hR, hZ⟩ := h
  have hm := tmA_ok (arc_entG hF hR hper)
  have hl13 : cl.length = 13 := by rw [hper.length_eq]; rfl
  refine ops_step rfl rfl rfl (step_call_fp [] _ rfl rfl rfl (List.Perm.refl _) (fun H hs hst => new_ok hst hl13 (by omega) ((hZ.mono (List.sublist_append_left _ _)).pure hs)) (fun v F2 h => ?_))
  obtain ⟨tb, mb, es, rfl, rfl, hsay⟩ := h
  obtain ⟨A, hA⟩ : ∃ A : Atoms, A = (some tb, .cells 0 [.map (some mb), .slice aa 13 ac] 0 78) :: (some mb, .map es) :: F' := ⟨_, rfl⟩
  have hT : Rd A fun H => TreeH O H tb mb (.slice aa 13 ac) (gOf cl) := fun X' H0' H' hst' => (hZ.at (hst'.sublist (by rw [hA]; exact List.Sublist.cons _ (List.Sublist.cons _ (List.Sublist.refl _))))).tree (fun c h => h) (hst'.has _ _ (by rw [hA]; simp)) (hst'.has _ _ (by rw [hA]; simp)) hsay
  refine OpsS.weak (pickE_sub (ks := [1, 14]) rfl) (L' := A) (by rw [hA]; exact List.Sublist.cons_cons _ (List.Sublist.cons_cons _ (List.sublist_append_left _ _))) ?_
  clear hA hsay hZ hR hper hF hl13
  generalize gOf cl = g at hm hT
  obtain ⟨q1, q2, q3, q4⟩ := nulls_law m6 n (by omega)
  repeat (first
      | (refine exec_more ?_; first
          | refine exec_seq ?_
          | refine exec_region ?_
          | refine exec_block ?_
          | refine exec_skip ?_
          | refine exec_exit ?_
          | refine exec_ret ?_
          | refine exec_true rfl ?_
          | refine exec_false rfl ?_)
      | refine ops_nil ?_
      | (refine ops_more ?_; first
          | (apply ops_pl rfl rfl rfl ?_ rfl ?_; rotate_left; focus first | exact (.bld rfl rfl rfl rfl) | exact (.cat rfl rfl rfl (by first | (simp; done) | (simp; omega))) | exact (.neSelf rfl rfl rfl rfl) | exact (.eqSelf rfl rfl rfl rfl) | exact (.wr64 rfl rfl (by omega) (by omega)) | exact (.p rfl rfl) | exact (.cv64 rfl (fun _ => rfl) (by omega) (by omega)) | exact (.l rfl (fun _ _ => rfl)) | exact (.l rfl (look_own 0 rfl rfl rfl rfl)) | exact (.l rfl (look_own 1 rfl rfl rfl rfl)) | exact (.l rfl (look_own 2 rfl rfl rfl rfl)) | exact (.l rfl (look_own 3 rfl rfl rfl rfl)) | exact (.l rfl (look_agg 0 rfl rfl rfl rfl)) | exact (.l rfl (look_agg 1 rfl rfl rfl rfl)) | exact (.l rfl (look_agg 2 rfl rfl rfl rfl)) | exact (.l rfl (look_agg 3 rfl rfl rfl rfl)))
          | refine ops_skip rfl rfl rfl ?_
          | (refine ops_step rfl rfl rfl ?_; first | (refine step_box rfl rfl rfl (fun _ => ?_)) | (refine step_alloc rfl rfl rfl rfl (fun _ => ?_)) | (refine step_buildSliceF rfl rfl rfl rfl rfl rfl (fun _ => ?_)) | (refine step_map rfl (fun _ => ?_)) | (refine step_storeZ 0 rfl rfl rfl rfl rfl rfl rfl rfl rfl ?_) | (refine step_storeZ 1 rfl rfl rfl rfl rfl rfl rfl rfl rfl ?_) | (refine step_storeZ 2 rfl rfl rfl rfl rfl rfl rfl rfl rfl ?_))))
  refine ops_step rfl rfl rfl (step_call_pure rfl rfl rfl (fun H hs => lawOf_ok (n := n) (s := [65]) (by omega)) ?_)
  generalize ofT n [65] = a at q1 q2 q3 q4
  repeat (first
      | (refine exec_more ?_; first
          | refine exec_seq ?_
          | refine exec_region ?_
          | refine exec_block ?_
          | refine exec_skip ?_
          | refine exec_exit ?_
          | refine exec_ret ?_
          | refine exec_true rfl ?_
          | refine exec_false rfl ?_)
      | refine ops_nil ?_
      | (refine ops_more ?_; first
          | (apply ops_pl rfl rfl rfl ?_ rfl ?_; rotate_left; focus first | exact (.bld rfl rfl rfl rfl) | exact (.cat rfl rfl rfl (by first | (simp; done) | (simp; omega))) | exact (.neSelf rfl rfl rfl rfl) | exact (.eqSelf rfl rfl rfl rfl) | exact (.wr64 rfl rfl (by omega) (by omega)) | exact (.p rfl rfl) | exact (.cv64 rfl (fun _ => rfl) (by omega) (by omega)) | exact (.l rfl (fun _ _ => rfl)) | exact (.l rfl (look_own 0 rfl rfl rfl rfl)) | exact (.l rfl (look_own 1 rfl rfl rfl rfl)) | exact (.l rfl (look_own 2 rfl rfl rfl rfl)) | exact (.l rfl (look_own 3 rfl rfl rfl rfl)) | exact (.l rfl (look_agg 0 rfl rfl rfl rfl)) | exact (.l rfl (look_agg 1 rfl rfl rfl rfl)) | exact (.l rfl (look_agg 2 rfl rfl rfl rfl)) | exact (.l rfl (look_agg 3 rfl rfl rfl rfl)))
          | refine ops_skip rfl rfl rfl ?_
          | (refine ops_step rfl rfl rfl ?_; first | (refine step_box rfl rfl rfl (fun _ => ?_)) | (refine step_alloc rfl rfl rfl rfl (fun _ => ?_)) | (refine step_buildSliceF rfl rfl rfl rfl rfl rfl (fun _ => ?_)) | (refine step_map rfl (fun _ => ?_)) | (refine step_storeZ 0 rfl rfl rfl rfl rfl rfl rfl rfl rfl ?_) | (refine step_storeZ 1 rfl rfl rfl rfl rfl rfl rfl rfl rfl ?_) | (refine step_storeZ 2 rfl rfl rfl rfl rfl rfl rfl rfl rfl ?_))))
  rename_i ab nb
  refine OpsS.mono (Q := fun E L => SubE [(5, ptr tb), (6, ptr ab), (7, ptr nb), (8, .bool (ref0 a))] E ∧ L = (some nb, .cells 0 [.int .i64 6, str []] 0 35) :: (some ab, .cells 0 [.int .i64 a.1, str a.2] 0 35) :: A) ?_ ?_
  · cases h3 : (a.1 == 3)
    · repeat (first
          | (refine ops_more ?_; first
              | (apply ops_pl rfl rfl rfl ?_ rfl ?_; rotate_left; focus first | exact (.bld rfl rfl rfl rfl) | exact (.cat rfl rfl rfl (by first | (simp; done) | (simp; omega))) | exact (.neSelf rfl rfl rfl rfl) | exact (.eqSelf rfl rfl rfl rfl) | exact (.wr64 rfl rfl (by omega) (by omega)) | exact (.p rfl rfl) | exact (.cv64 rfl (fun _ => rfl) (by omega) (by omega)) | exact (.l rfl (fun _ _ => rfl)) | exact (.l rfl (look_own 0 rfl rfl rfl rfl)) | exact (.l rfl (look_own 1 rfl rfl rfl rfl)) | exact (.l rfl (look_own 2 rfl rfl rfl rfl)) | exact (.l rfl (look_own 3 rfl rfl rfl rfl)) | exact (.l rfl (look_agg 0 rfl rfl rfl rfl)) | exact (.l rfl (look_agg 1 rfl rfl rfl rfl)) | exact (.l rfl (look_agg 2 rfl rfl rfl rfl)) | exact (.l rfl (look_agg 3 rfl rfl rfl rfl)))
              | refine ops_skip rfl rfl rfl ?_
              | (refine ops_step rfl rfl rfl ?_; first | (refine step_box rfl rfl rfl (fun _ => ?_)) | (refine step_alloc rfl rfl rfl rfl (fun _ => ?_)) | (refine step_buildSliceF rfl rfl rfl rfl rfl rfl (fun _ => ?_)) | (refine step_map rfl (fun _ => ?_)) | (refine step_storeZ 0 rfl rfl rfl rfl rfl rfl rfl rfl rfl ?_) | (refine step_storeZ 1 rfl rfl rfl rfl rfl rfl rfl rfl rfl ?_) | (refine step_storeZ 2 rfl rfl rfl rfl rfl rfl rfl rfl rfl ?_))))
      refine ops_nil ⟨⟨rfl, rfl, rfl, ?_, trivial⟩, rfl⟩
      rw [ref0, ← beqI, ← beqI, h3]
      rfl
    · repeat (first
          | (refine ops_more ?_; first
              | (apply ops_pl rfl rfl rfl ?_ rfl ?_; rotate_left; focus first | exact (.bld rfl rfl rfl rfl) | exact (.cat rfl rfl rfl (by first | (simp; done) | (simp; omega))) | exact (.neSelf rfl rfl rfl rfl) | exact (.eqSelf rfl rfl rfl rfl) | exact (.wr64 rfl rfl (by omega) (by omega)) | exact (.p rfl rfl) | exact (.cv64 rfl (fun _ => rfl) (by omega) (by omega)) | exact (.l rfl (fun _ _ => rfl)) | exact (.l rfl (look_own 0 rfl rfl rfl rfl)) | exact (.l rfl (look_own 1 rfl rfl rfl rfl)) | exact (.l rfl (look_own 2 rfl rfl rfl rfl)) | exact (.l rfl (look_own 3 rfl rfl rfl rfl)) | exact (.l rfl (look_agg 0 rfl rfl rfl rfl)) | exact (.l rfl (look_agg 1 rfl rfl rfl rfl)) | exact (.l rfl (look_agg 2 rfl rfl rfl rfl)) | exact (.l rfl (look_agg 3 rfl rfl rfl rfl)))
              | refine ops_skip rfl rfl rfl ?_
              | (refine ops_step rfl rfl rfl ?_; first | (refine step_box rfl rfl rfl (fun _ => ?_)) | (refine step_alloc rfl rfl rfl rfl (fun _ => ?_)) | (refine step_buildSliceF rfl rfl rfl rfl rfl rfl (fun _ => ?_)) | (refine step_map rfl (fun _ => ?_)) | (refine step_storeZ 0 rfl rfl rfl rfl rfl rfl rfl rfl rfl ?_) | (refine step_storeZ 1 rfl rfl rfl rfl rfl rfl rfl rfl rfl ?_) | (refine step_storeZ 2 rfl rfl rfl rfl rfl rfl rfl rfl rfl ?_))))
      refine ops_nil ⟨⟨rfl, rfl, rfl, ?_, trivial⟩, rfl⟩
      rw [ref0, ← beqI, ← beqI, h3]
      rfl
  rintro E L ⟨hE, rfl⟩
  refine ExecS.weak hE (List.Sublist.refl _) ?_
  have hJJ : ∀ J : Typ, (!decide (J = J)) = false := fun J => by rw [decide_eq_true rfl]; rfl
  cases hr : ref0 a <;> cases hn : decide (a = nul) <;> rw [hr, hn] at q1 q2 q4
  · replace q1 : fitsB (tmA m6) nul a = false := q1
    replace q2 : refersB a = false := q2
    repeat (first
        | (refine exec_more ?_; first
            | refine exec_seq ?_
            | refine exec_region ?_
            | refine exec_block ?_
            | refine exec_skip ?_
            | refine exec_exit ?_
            | refine exec_ret ?_
            | refine exec_true rfl ?_
            | refine exec_false rfl ?_)
        | refine ops_nil ?_
        | (refine ops_more ?_; first
            | (apply ops_pl rfl rfl rfl ?_ rfl ?_; rotate_left; focus first | exact (.bld rfl rfl rfl rfl) | exact (.cat rfl rfl rfl (by first | (simp; done) | (simp; omega))) | exact (.neSelf rfl rfl rfl rfl) | exact (.eqSelf rfl rfl rfl rfl) | exact (.wr64 rfl rfl (by omega) (by omega)) | exact (.p rfl rfl) | exact (.cv64 rfl (fun _ => rfl) (by omega) (by omega)) | exact (.l rfl (fun _ _ => rfl)) | exact (.l rfl (look_own 0 rfl rfl rfl rfl)) | exact (.l rfl (look_own 1 rfl rfl rfl rfl)) | exact (.l rfl (look_own 2 rfl rfl rfl rfl)) | exact (.l rfl (look_own 3 rfl rfl rfl rfl)) | exact (.l rfl (look_agg 0 rfl rfl rfl rfl)) | exact (.l rfl (look_agg 1 rfl rfl rfl rfl)) | exact (.l rfl (look_agg 2 rfl rfl rfl rfl)) | exact (.l rfl (look_agg 3 rfl rfl rfl rfl)))
            | refine ops_skip rfl rfl rfl ?_
            | (refine ops_step rfl rfl rfl ?_; first | (refine step_box rfl rfl rfl (fun _ => ?_)) | (refine step_alloc rfl rfl rfl rfl (fun _ => ?_)) | (refine step_buildSliceF rfl rfl rfl rfl rfl rfl (fun _ => ?_)) | (refine step_map rfl (fun _ => ?_)) | (refine step_storeZ 0 rfl rfl rfl rfl rfl rfl rfl rfl rfl ?_) | (refine step_storeZ 1 rfl rfl rfl rfl rfl rfl rfl rfl rfl ?_) | (refine step_storeZ 2 rfl rfl rfl rfl rfl rfl rfl rfl rfl ?_))))
    refine ops_step rfl rfl rfl (step_call_pure rfl rfl rfl (fun H hs => join_ok (a := a) (b := nul) hm ((hT.mono (by repeat first | exact List.Sublist.refl _ | apply List.Sublist.cons)).pure hs)) ?_)
    generalize joinT (tmA m6) a nul = J at q3 q4
    repeat (first
        | (refine exec_more ?_; first
            | refine exec_seq ?_
            | refine exec_region ?_
            | refine exec_block ?_
            | refine exec_skip ?_
            | refine exec_exit ?_
            | refine exec_ret ?_
            | refine exec_true rfl ?_
            | refine exec_false rfl ?_)
        | refine ops_nil ?_
        | (refine ops_more ?_; first
            | (apply ops_pl rfl rfl rfl ?_ rfl ?_; rotate_left; focus first | exact (.bld rfl rfl rfl rfl) | exact (.cat rfl rfl rfl (by first | (simp; done) | (simp; omega))) | exact (.neSelf rfl rfl rfl rfl) | exact (.eqSelf rfl rfl rfl rfl) | exact (.wr64 rfl rfl (by omega) (by omega)) | exact (.p rfl rfl) | exact (.cv64 rfl (fun _ => rfl) (by omega) (by omega)) | exact (.l rfl (fun _ _ => rfl)) | exact (.l rfl (look_own 0 rfl rfl rfl rfl)) | exact (.l rfl (look_own 1 rfl rfl rfl rfl)) | exact (.l rfl (look_own 2 rfl rfl rfl rfl)) | exact (.l rfl (look_own 3 rfl rfl rfl rfl)) | exact (.l rfl (look_agg 0 rfl rfl rfl rfl)) | exact (.l rfl (look_agg 1 rfl rfl rfl rfl)) | exact (.l rfl (look_agg 2 rfl rfl rfl rfl)) | exact (.l rfl (look_agg 3 rfl rfl rfl rfl)))
            | refine ops_skip rfl rfl rfl ?_
            | (refine ops_step rfl rfl rfl ?_; first | (refine step_box rfl rfl rfl (fun _ => ?_)) | (refine step_alloc rfl rfl rfl rfl (fun _ => ?_)) | (refine step_buildSliceF rfl rfl rfl rfl rfl rfl (fun _ => ?_)) | (refine step_map rfl (fun _ => ?_)) | (refine step_storeZ 0 rfl rfl rfl rfl rfl rfl rfl rfl rfl ?_) | (refine step_storeZ 1 rfl rfl rfl rfl rfl rfl rfl rfl rfl ?_) | (refine step_storeZ 2 rfl rfl rfl rfl rfl rfl rfl rfl rfl ?_))))
    refine exec_draw (lst := [(0, 0), (1, 0), (2, 0), (4, 0), (3, 7), (5, 31), (6, 63), (7, 63), (8, 255), (9, 511), (10, 1023), (11, 2047), (12, 4095), (14, 4095), (13, 8191), (15, 32767), (16, 65535), (17, 65535), (18, 262143), (19, 524287), (20, 1048575), (21, 2097151), (22, 4194303), (23, 8388607), (24, 8388607), (25, 8388607), (26, 8388607), (27, 125829119), (28, 268435455), (29, 536870911)]) (full := 1073741823) (by kernel_rfl) (by kernel_rfl) (by kernel_rfl) (by kernel_rfl) ?_
    repeat (first
        | (refine draw_more ?_; first
            | (apply draw_pl rfl rfl rfl rfl ?_ rfl rfl ?_; rotate_left; focus first | exact (.bld rfl rfl rfl rfl) | exact (.cat rfl rfl rfl (by first | (simp; done) | (simp; omega))) | exact (.neSelf rfl rfl rfl rfl) | exact (.eqSelf rfl rfl rfl rfl) | exact (.wr64 rfl rfl (by omega) (by omega)) | exact (.p rfl rfl) | exact (.cv64 rfl (fun _ => rfl) (by omega) (by omega)) | exact (.l rfl (fun _ _ => rfl)) | exact (.l rfl (look_own 0 rfl rfl rfl rfl)) | exact (.l rfl (look_own 1 rfl rfl rfl rfl)) | exact (.l rfl (look_own 2 rfl rfl rfl rfl)) | exact (.l rfl (look_own 3 rfl rfl rfl rfl)) | exact (.l rfl (look_agg 0 rfl rfl rfl rfl)) | exact (.l rfl (look_agg 1 rfl rfl rfl rfl)) | exact (.l rfl (look_agg 2 rfl rfl rfl rfl)) | exact (.l rfl (look_agg 3 rfl rfl rfl rfl)))
            | refine draw_skip rfl rfl rfl rfl ?_))
    try refine draw_nil ?_
    refine draw_w rfl rfl rfl rfl rfl rfl (step_call_pure rfl rfl rfl (fun H hs => fits_ok (a := nul) (b := a) hm ((hT.mono (by repeat first | exact List.Sublist.refl _ | apply List.Sublist.cons)).pure hs)) ⟨by repeat (first | exact True.intro | refine And.intro (.inl rfl) ?_ | refine And.intro (.inr ⟨veq_refl rfl, (fun _ _ => rfl)⟩) ?_ | refine And.intro (.inr ⟨veq_refl rfl, (look_own 0 rfl rfl rfl rfl)⟩) ?_ | refine And.intro (.inr ⟨veq_refl rfl, (look_own 1 rfl rfl rfl rfl)⟩) ?_ | refine And.intro (.inr ⟨veq_refl rfl, (look_own 2 rfl rfl rfl rfl)⟩) ?_ | refine And.intro (.inr ⟨veq_refl rfl, (look_own 3 rfl rfl rfl rfl)⟩) ?_ | refine And.intro (.inr ⟨veq_refl rfl, (look_agg 0 rfl rfl rfl rfl)⟩) ?_ | refine And.intro (.inr ⟨veq_refl rfl, (look_agg 1 rfl rfl rfl rfl)⟩) ?_ | refine And.intro (.inr ⟨veq_refl rfl, (look_agg 2 rfl rfl rfl rfl)⟩) ?_ | refine And.intro (.inr ⟨veq_refl rfl, (look_agg 3 rfl rfl rfl rfl)⟩) ?_), ?_⟩)
    rw [q1]
    repeat (first
        | (refine draw_more ?_; first
            | (apply draw_pl rfl rfl rfl rfl ?_ rfl rfl ?_; rotate_left; focus first | exact (.bld rfl rfl rfl rfl) | exact (.cat rfl rfl rfl (by first | (simp; done) | (simp; omega))) | exact (.neSelf rfl rfl rfl rfl) | exact (.eqSelf rfl rfl rfl rfl) | exact (.wr64 rfl rfl (by omega) (by omega)) | exact (.p rfl rfl) | exact (.cv64 rfl (fun _ => rfl) (by omega) (by omega)) | exact (.l rfl (fun _ _ => rfl)) | exact (.l rfl (look_own 0 rfl rfl rfl rfl)) | exact (.l rfl (look_own 1 rfl rfl rfl rfl)) | exact (.l rfl (look_own 2 rfl rfl rfl rfl)) | exact (.l rfl (look_own 3 rfl rfl rfl rfl)) | exact (.l rfl (look_agg 0 rfl rfl rfl rfl)) | exact (.l rfl (look_agg 1 rfl rfl rfl rfl)) | exact (.l rfl (look_agg 2 rfl rfl rfl rfl)) | exact (.l rfl (look_agg 3 rfl rfl rfl rfl)))
            | refine draw_skip rfl rfl rfl rfl ?_))
    try refine draw_nil ?_
    first | refine ops_pl rfl rfl rfl (PL.eqlTyp (a := a) (b := nul) rfl rfl rfl) rfl ?_ | refine draw_pl rfl rfl rfl rfl (PL.eqlTyp (a := a) (b := nul) rfl rfl rfl) rfl rfl ?_
    rw [hn]
    repeat (first
        | (refine draw_more ?_; first
            | (apply draw_pl rfl rfl rfl rfl ?_ rfl rfl ?_; rotate_left; focus first | exact (.bld rfl rfl rfl rfl) | exact (.cat rfl rfl rfl (by first | (simp; done) | (simp; omega))) | exact (.neSelf rfl rfl rfl rfl) | exact (.eqSelf rfl rfl rfl rfl) | exact (.wr64 rfl rfl (by omega) (by omega)) | exact (.p rfl rfl) | exact (.cv64 rfl (fun _ => rfl) (by omega) (by omega)) | exact (.l rfl (fun _ _ => rfl)) | exact (.l rfl (look_own 0 rfl rfl rfl rfl)) | exact (.l rfl (look_own 1 rfl rfl rfl rfl)) | exact (.l rfl (look_own 2 rfl rfl rfl rfl)) | exact (.l rfl (look_own 3 rfl rfl rfl rfl)) | exact (.l rfl (look_agg 0 rfl rfl rfl rfl)) | exact (.l rfl (look_agg 1 rfl rfl rfl rfl)) | exact (.l rfl (look_agg 2 rfl rfl rfl rfl)) | exact (.l rfl (look_agg 3 rfl rfl rfl rfl)))
            | refine draw_skip rfl rfl rfl rfl ?_))
    try refine draw_nil ?_
    refine draw_w rfl rfl rfl rfl rfl rfl (step_call_pure rfl rfl rfl (fun H hs => refers_ok (a := a)) ⟨by repeat (first | exact True.intro | refine And.intro (.inl rfl) ?_ | refine And.intro (.inr ⟨veq_refl rfl, (fun _ _ => rfl)⟩) ?_ | refine And.intro (.inr ⟨veq_refl rfl, (look_own 0 rfl rfl rfl rfl)⟩) ?_ | refine And.intro (.inr ⟨veq_refl rfl, (look_own 1 rfl rfl rfl rfl)⟩) ?_ | refine And.intro (.inr ⟨veq_refl rfl, (look_own 2 rfl rfl rfl rfl)⟩) ?_ | refine And.intro (.inr ⟨veq_refl rfl, (look_own 3 rfl rfl rfl rfl)⟩) ?_ | refine And.intro (.inr ⟨veq_refl rfl, (look_agg 0 rfl rfl rfl rfl)⟩) ?_ | refine And.intro (.inr ⟨veq_refl rfl, (look_agg 1 rfl rfl rfl rfl)⟩) ?_ | refine And.intro (.inr ⟨veq_refl rfl, (look_agg 2 rfl rfl rfl rfl)⟩) ?_ | refine And.intro (.inr ⟨veq_refl rfl, (look_agg 3 rfl rfl rfl rfl)⟩) ?_), ?_⟩)
    rw [q2]
    repeat (first
        | (refine draw_more ?_; first
            | (apply draw_pl rfl rfl rfl rfl ?_ rfl rfl ?_; rotate_left; focus first | exact (.bld rfl rfl rfl rfl) | exact (.cat rfl rfl rfl (by first | (simp; done) | (simp; omega))) | exact (.neSelf rfl rfl rfl rfl) | exact (.eqSelf rfl rfl rfl rfl) | exact (.wr64 rfl rfl (by omega) (by omega)) | exact (.p rfl rfl) | exact (.cv64 rfl (fun _ => rfl) (by omega) (by omega)) | exact (.l rfl (fun _ _ => rfl)) | exact (.l rfl (look_own 0 rfl rfl rfl rfl)) | exact (.l rfl (look_own 1 rfl rfl rfl rfl)) | exact (.l rfl (look_own 2 rfl rfl rfl rfl)) | exact (.l rfl (look_own 3 rfl rfl rfl rfl)) | exact (.l rfl (look_agg 0 rfl rfl rfl rfl)) | exact (.l rfl (look_agg 1 rfl rfl rfl rfl)) | exact (.l rfl (look_agg 2 rfl rfl rfl rfl)) | exact (.l rfl (look_agg 3 rfl rfl rfl rfl)))
            | refine draw_skip rfl rfl rfl rfl ?_))
    try refine draw_nil ?_
    first | refine ops_pl rfl rfl rfl (PL.eqlTyp (a := a) (b := nul) rfl rfl rfl) rfl ?_ | refine draw_pl rfl rfl rfl rfl (PL.eqlTyp (a := a) (b := nul) rfl rfl rfl) rfl rfl ?_
    rw [hn]
    repeat (first
        | (refine draw_more ?_; first
            | (apply draw_pl rfl rfl rfl rfl ?_ rfl rfl ?_; rotate_left; focus first | exact (.bld rfl rfl rfl rfl) | exact (.cat rfl rfl rfl (by first | (simp; done) | (simp; omega))) | exact (.neSelf rfl rfl rfl rfl) | exact (.eqSelf rfl rfl rfl rfl) | exact (.wr64 rfl rfl (by omega) (by omega)) | exact (.p rfl rfl) | exact (.cv64 rfl (fun _ => rfl) (by omega) (by omega)) | exact (.l rfl (fun _ _ => rfl)) | exact (.l rfl (look_own 0 rfl rfl rfl rfl)) | exact (.l rfl (look_own 1 rfl rfl rfl rfl)) | exact (.l rfl (look_own 2 rfl rfl rfl rfl)) | exact (.l rfl (look_own 3 rfl rfl rfl rfl)) | exact (.l rfl (look_agg 0 rfl rfl rfl rfl)) | exact (.l rfl (look_agg 1 rfl rfl rfl rfl)) | exact (.l rfl (look_agg 2 rfl rfl rfl rfl)) | exact (.l rfl (look_agg 3 rfl rfl rfl rfl)))
            | refine draw_skip rfl rfl rfl rfl ?_))
    try refine draw_nil ?_
    refine draw_w rfl rfl rfl rfl rfl rfl (step_call_pure rfl rfl rfl (fun H hs => join_ok (a := nul) (b := a) hm ((hT.mono (by repeat first | exact List.Sublist.refl _ | apply List.Sublist.cons)).pure hs)) ⟨by repeat (first | exact True.intro | refine And.intro (.inl rfl) ?_ | refine And.intro (.inr ⟨veq_refl rfl, (fun _ _ => rfl)⟩) ?_ | refine And.intro (.inr ⟨veq_refl rfl, (look_own 0 rfl rfl rfl rfl)⟩) ?_ | refine And.intro (.inr ⟨veq_refl rfl, (look_own 1 rfl rfl rfl rfl)⟩) ?_ | refine And.intro (.inr ⟨veq_refl rfl, (look_own 2 rfl rfl rfl rfl)⟩) ?_ | refine And.intro (.inr ⟨veq_refl rfl, (look_own 3 rfl rfl rfl rfl)⟩) ?_ | refine And.intro (.inr ⟨veq_refl rfl, (look_agg 0 rfl rfl rfl rfl)⟩) ?_ | refine And.intro (.inr ⟨veq_refl rfl, (look_agg 1 rfl rfl rfl rfl)⟩) ?_ | refine And.intro (.inr ⟨veq_refl rfl, (look_agg 2 rfl rfl rfl rfl)⟩) ?_ | refine And.intro (.inr ⟨veq_refl rfl, (look_agg 3 rfl rfl rfl rfl)⟩) ?_), ?_⟩)
    rw [← q3]
    repeat (first
        | (refine draw_more ?_; first
            | (apply draw_pl rfl rfl rfl rfl ?_ rfl rfl ?_; rotate_left; focus first | exact (.bld rfl rfl rfl rfl) | exact (.cat rfl rfl rfl (by first | (simp; done) | (simp; omega))) | exact (.neSelf rfl rfl rfl rfl) | exact (.eqSelf rfl rfl rfl rfl) | exact (.wr64 rfl rfl (by omega) (by omega)) | exact (.p rfl rfl) | exact (.cv64 rfl (fun _ => rfl) (by omega) (by omega)) | exact (.l rfl (fun _ _ => rfl)) | exact (.l rfl (look_own 0 rfl rfl rfl rfl)) | exact (.l rfl (look_own 1 rfl rfl rfl rfl)) | exact (.l rfl (look_own 2 rfl rfl rfl rfl)) | exact (.l rfl (look_own 3 rfl rfl rfl rfl)) | exact (.l rfl (look_agg 0 rfl rfl rfl rfl)) | exact (.l rfl (look_agg 1 rfl rfl rfl rfl)) | exact (.l rfl (look_agg 2 rfl rfl rfl rfl)) | exact (.l rfl (look_agg 3 rfl rfl rfl rfl)))
            | refine draw_skip rfl rfl rfl rfl ?_))
    try refine draw_nil ?_
    first | refine ops_pl rfl rfl rfl (PL.neqTyp (a := J) (b := J) rfl rfl rfl) rfl ?_ | refine draw_pl rfl rfl rfl rfl (PL.neqTyp (a := J) (b := J) rfl rfl rfl) rfl rfl ?_
    rw [hJJ]
    repeat (first
        | (refine draw_more ?_; first
            | (apply draw_pl rfl rfl rfl rfl ?_ rfl rfl ?_; rotate_left; focus first | exact (.bld rfl rfl rfl rfl) | exact (.cat rfl rfl rfl (by first | (simp; done) | (simp; omega))) | exact (.neSelf rfl rfl rfl rfl) | exact (.eqSelf rfl rfl rfl rfl) | exact (.wr64 rfl rfl (by omega) (by omega)) | exact (.p rfl rfl) | exact (.cv64 rfl (fun _ => rfl) (by omega) (by omega)) | exact (.l rfl (fun _ _ => rfl)) | exact (.l rfl (look_own 0 rfl rfl rfl rfl)) | exact (.l rfl (look_own 1 rfl rfl rfl rfl)) | exact (.l rfl (look_own 2 rfl rfl rfl rfl)) | exact (.l rfl (look_own 3 rfl rfl rfl rfl)) | exact (.l rfl (look_agg 0 rfl rfl rfl rfl)) | exact (.l rfl (look_agg 1 rfl rfl rfl rfl)) | exact (.l rfl (look_agg 2 rfl rfl rfl rfl)) | exact (.l rfl (look_agg 3 rfl rfl rfl rfl)))
            | refine draw_skip rfl rfl rfl rfl ?_))
    try refine draw_nil ?_
    repeat (first
        | (refine exec_more ?_; first
            | refine exec_seq ?_
            | refine exec_region ?_
            | refine exec_block ?_
            | refine exec_skip ?_
            | refine exec_exit ?_
            | refine exec_ret ?_
            | refine exec_true rfl ?_
            | refine exec_false rfl ?_)
        | refine ops_nil ?_
        | (refine ops_more ?_; first
            | (apply ops_pl rfl rfl rfl ?_ rfl ?_; rotate_left; focus first | exact (.bld rfl rfl rfl rfl) | exact (.cat rfl rfl rfl (by first | (simp; done) | (simp; omega))) | exact (.neSelf rfl rfl rfl rfl) | exact (.eqSelf rfl rfl rfl rfl) | exact (.wr64 rfl rfl (by omega) (by omega)) | exact (.p rfl rfl) | exact (.cv64 rfl (fun _ => rfl) (by omega) (by omega)) | exact (.l rfl (fun _ _ => rfl)) | exact (.l rfl (look_own 0 rfl rfl rfl rfl)) | exact (.l rfl (look_own 1 rfl rfl rfl rfl)) | exact (.l rfl (look_own 2 rfl rfl rfl rfl)) | exact (.l rfl (look_own 3 rfl rfl rfl rfl)) | exact (.l rfl (look_agg 0 rfl rfl rfl rfl)) | exact (.l rfl (look_agg 1 rfl rfl rfl rfl)) | exact (.l rfl (look_agg 2 rfl rfl rfl rfl)) | exact (.l rfl (look_agg 3 rfl rfl rfl rfl)))
            | refine ops_skip rfl rfl rfl ?_
            | (refine ops_step rfl rfl rfl ?_; first | (refine step_box rfl rfl rfl (fun _ => ?_)) | (refine step_alloc rfl rfl rfl rfl (fun _ => ?_)) | (refine step_buildSliceF rfl rfl rfl rfl rfl rfl (fun _ => ?_)) | (refine step_map rfl (fun _ => ?_)) | (refine step_storeZ 0 rfl rfl rfl rfl rfl rfl rfl rfl rfl ?_) | (refine step_storeZ 1 rfl rfl rfl rfl rfl rfl rfl rfl rfl ?_) | (refine step_storeZ 2 rfl rfl rfl rfl rfl rfl rfl rfl rfl ?_))))
    first | refine ops_pl rfl rfl rfl (PL.eqlTyp (a := a) (b := nul) rfl rfl rfl) rfl ?_ | refine draw_pl rfl rfl rfl rfl (PL.eqlTyp (a := a) (b := nul) rfl rfl rfl) rfl rfl ?_
    rw [hn]
    repeat (first
        | (refine exec_more ?_; first
            | refine exec_seq ?_
            | refine exec_region ?_
            | refine exec_block ?_
            | refine exec_skip ?_
            | refine exec_exit ?_
            | refine exec_ret ?_
            | refine exec_true rfl ?_
            | refine exec_false rfl ?_)
        | refine ops_nil ?_
        | (refine ops_more ?_; first
            | (apply ops_pl rfl rfl rfl ?_ rfl ?_; rotate_left; focus first | exact (.bld rfl rfl rfl rfl) | exact (.cat rfl rfl rfl (by first | (simp; done) | (simp; omega))) | exact (.neSelf rfl rfl rfl rfl) | exact (.eqSelf rfl rfl rfl rfl) | exact (.wr64 rfl rfl (by omega) (by omega)) | exact (.p rfl rfl) | exact (.cv64 rfl (fun _ => rfl) (by omega) (by omega)) | exact (.l rfl (fun _ _ => rfl)) | exact (.l rfl (look_own 0 rfl rfl rfl rfl)) | exact (.l rfl (look_own 1 rfl rfl rfl rfl)) | exact (.l rfl (look_own 2 rfl rfl rfl rfl)) | exact (.l rfl (look_own 3 rfl rfl rfl rfl)) | exact (.l rfl (look_agg 0 rfl rfl rfl rfl)) | exact (.l rfl (look_agg 1 rfl rfl rfl rfl)) | exact (.l rfl (look_agg 2 rfl rfl rfl rfl)) | exact (.l rfl (look_agg 3 rfl rfl rfl rfl)))
            | refine ops_skip rfl rfl rfl ?_
            | (refine ops_step rfl rfl rfl ?_; first | (refine step_box rfl rfl rfl (fun _ => ?_)) | (refine step_alloc rfl rfl rfl rfl (fun _ => ?_)) | (refine step_buildSliceF rfl rfl rfl rfl rfl rfl (fun _ => ?_)) | (refine step_map rfl (fun _ => ?_)) | (refine step_storeZ 0 rfl rfl rfl rfl rfl rfl rfl rfl rfl ?_) | (refine step_storeZ 1 rfl rfl rfl rfl rfl rfl rfl rfl rfl ?_) | (refine step_storeZ 2 rfl rfl rfl rfl rfl rfl rfl rfl rfl ?_))))
    replace q4 : J.1 = 7 ∧ fitsB (tmA m6) a nul = false := q4
    rw [show (J.1 == 7) = true from by rw [q4.1]; rfl]
    repeat (first
        | (refine exec_more ?_; first
            | refine exec_seq ?_
            | refine exec_region ?_
            | refine exec_block ?_
            | refine exec_skip ?_
            | refine exec_exit ?_
            | refine exec_ret ?_
            | refine exec_true rfl ?_
            | refine exec_false rfl ?_)
        | refine ops_nil ?_
        | (refine ops_more ?_; first
            | (apply ops_pl rfl rfl rfl ?_ rfl ?_; rotate_left; focus first | exact (.bld rfl rfl rfl rfl) | exact (.cat rfl rfl rfl (by first | (simp; done) | (simp; omega))) | exact (.neSelf rfl rfl rfl rfl) | exact (.eqSelf rfl rfl rfl rfl) | exact (.wr64 rfl rfl (by omega) (by omega)) | exact (.p rfl rfl) | exact (.cv64 rfl (fun _ => rfl) (by omega) (by omega)) | exact (.l rfl (fun _ _ => rfl)) | exact (.l rfl (look_own 0 rfl rfl rfl rfl)) | exact (.l rfl (look_own 1 rfl rfl rfl rfl)) | exact (.l rfl (look_own 2 rfl rfl rfl rfl)) | exact (.l rfl (look_own 3 rfl rfl rfl rfl)) | exact (.l rfl (look_agg 0 rfl rfl rfl rfl)) | exact (.l rfl (look_agg 1 rfl rfl rfl rfl)) | exact (.l rfl (look_agg 2 rfl rfl rfl rfl)) | exact (.l rfl (look_agg 3 rfl rfl rfl rfl)))
            | refine ops_skip rfl rfl rfl ?_
            | (refine ops_step rfl rfl rfl ?_; first | (refine step_box rfl rfl rfl (fun _ => ?_)) | (refine step_alloc rfl rfl rfl rfl (fun _ => ?_)) | (refine step_buildSliceF rfl rfl rfl rfl rfl rfl (fun _ => ?_)) | (refine step_map rfl (fun _ => ?_)) | (refine step_storeZ 0 rfl rfl rfl rfl rfl rfl rfl rfl rfl ?_) | (refine step_storeZ 1 rfl rfl rfl rfl rfl rfl rfl rfl rfl ?_) | (refine step_storeZ 2 rfl rfl rfl rfl rfl rfl rfl rfl rfl ?_))))
    refine ops_step rfl rfl rfl (step_call_pure rfl rfl rfl (fun H hs => fits_ok (a := a) (b := nul) hm ((hT.mono (by repeat first | exact List.Sublist.refl _ | apply List.Sublist.cons)).pure hs)) ?_)
    rw [q4.2]
    repeat (first
        | (refine exec_more ?_; first
            | refine exec_seq ?_
            | refine exec_region ?_
            | refine exec_block ?_
            | refine exec_skip ?_
            | refine exec_exit ?_
            | refine exec_ret ?_
            | refine exec_true rfl ?_
            | refine exec_false rfl ?_)
        | refine ops_nil ?_
        | (refine ops_more ?_; first
            | (apply ops_pl rfl rfl rfl ?_ rfl ?_; rotate_left; focus first | exact (.bld rfl rfl rfl rfl) | exact (.cat rfl rfl rfl (by first | (simp; done) | (simp; omega))) | exact (.neSelf rfl rfl rfl rfl) | exact (.eqSelf rfl rfl rfl rfl) | exact (.wr64 rfl rfl (by omega) (by omega)) | exact (.p rfl rfl) | exact (.cv64 rfl (fun _ => rfl) (by omega) (by omega)) | exact (.l rfl (fun _ _ => rfl)) | exact (.l rfl (look_own 0 rfl rfl rfl rfl)) | exact (.l rfl (look_own 1 rfl rfl rfl rfl)) | exact (.l rfl (look_own 2 rfl rfl rfl rfl)) | exact (.l rfl (look_own 3 rfl rfl rfl rfl)) | exact (.l rfl (look_agg 0 rfl rfl rfl rfl)) | exact (.l rfl (look_agg 1 rfl rfl rfl rfl)) | exact (.l rfl (look_agg 2 rfl rfl rfl rfl)) | exact (.l rfl (look_agg 3 rfl rfl rfl rfl)))
            | refine ops_skip rfl rfl rfl ?_
            | (refine ops_step rfl rfl rfl ?_; first | (refine step_box rfl rfl rfl (fun _ => ?_)) | (refine step_alloc rfl rfl rfl rfl (fun _ => ?_)) | (refine step_buildSliceF rfl rfl rfl rfl rfl rfl (fun _ => ?_)) | (refine step_map rfl (fun _ => ?_)) | (refine step_storeZ 0 rfl rfl rfl rfl rfl rfl rfl rfl rfl ?_) | (refine step_storeZ 1 rfl rfl rfl rfl rfl rfl rfl rfl rfl ?_) | (refine step_storeZ 2 rfl rfl rfl rfl rfl rfl rfl rfl rfl ?_))))
    exact ⟨trivial, _, rfl, rfl⟩
  · replace q1 : fitsB (tmA m6) nul a = true := q1
    replace q2 : refersB a = true := q2
    repeat (first
        | (refine exec_more ?_; first
            | refine exec_seq ?_
            | refine exec_region ?_
            | refine exec_block ?_
            | refine exec_skip ?_
            | refine exec_exit ?_
            | refine exec_ret ?_
            | refine exec_true rfl ?_
            | refine exec_false rfl ?_)
        | refine ops_nil ?_
        | (refine ops_more ?_; first
            | (apply ops_pl rfl rfl rfl ?_ rfl ?_; rotate_left; focus first | exact (.bld rfl rfl rfl rfl) | exact (.cat rfl rfl rfl (by first | (simp; done) | (simp; omega))) | exact (.neSelf rfl rfl rfl rfl) | exact (.eqSelf rfl rfl rfl rfl) | exact (.wr64 rfl rfl (by omega) (by omega)) | exact (.p rfl rfl) | exact (.cv64 rfl (fun _ => rfl) (by omega) (by omega)) | exact (.l rfl (fun _ _ => rfl)) | exact (.l rfl (look_own 0 rfl rfl rfl rfl)) | exact (.l rfl (look_own 1 rfl rfl rfl rfl)) | exact (.l rfl (look_own 2 rfl rfl rfl rfl)) | exact (.l rfl (look_own 3 rfl rfl rfl rfl)) | exact (.l rfl (look_agg 0 rfl rfl rfl rfl)) | exact (.l rfl (look_agg 1 rfl rfl rfl rfl)) | exact (.l rfl (look_agg 2 rfl rfl rfl rfl)) | exact (.l rfl (look_agg 3 rfl rfl rfl rfl)))
            | refine ops_skip rfl rfl rfl ?_
            | (refine ops_step rfl rfl rfl ?_; first | (refine step_box rfl rfl rfl (fun _ => ?_)) | (refine step_alloc rfl rfl rfl rfl (fun _ => ?_)) | (refine step_buildSliceF rfl rfl rfl rfl rfl rfl (fun _ => ?_)) | (refine step_map rfl (fun _ => ?_)) | (refine step_storeZ 0 rfl rfl rfl rfl rfl rfl rfl rfl rfl ?_) | (refine step_storeZ 1 rfl rfl rfl rfl rfl rfl rfl rfl rfl ?_) | (refine step_storeZ 2 rfl rfl rfl rfl rfl rfl rfl rfl rfl ?_))))
    refine ops_step rfl rfl rfl (step_call_pure rfl rfl rfl (fun H hs => join_ok (a := a) (b := nul) hm ((hT.mono (by repeat first | exact List.Sublist.refl _ | apply List.Sublist.cons)).pure hs)) ?_)
    generalize joinT (tmA m6) a nul = J at q3 q4
    repeat (first
        | (refine exec_more ?_; first
            | refine exec_seq ?_
            | refine exec_region ?_
            | refine exec_block ?_
            | refine exec_skip ?_
            | refine exec_exit ?_
            | refine exec_ret ?_
            | refine exec_true rfl ?_
            | refine exec_false rfl ?_)
        | refine ops_nil ?_
        | (refine ops_more ?_; first
            | (apply ops_pl rfl rfl rfl ?_ rfl ?_; rotate_left; focus first | exact (.bld rfl rfl rfl rfl) | exact (.cat rfl rfl rfl (by first | (simp; done) | (simp; omega))) | exact (.neSelf rfl rfl rfl rfl) | exact (.eqSelf rfl rfl rfl rfl) | exact (.wr64 rfl rfl (by omega) (by omega)) | exact (.p rfl rfl) | exact (.cv64 rfl (fun _ => rfl) (by omega) (by omega)) | exact (.l rfl (fun _ _ => rfl)) | exact (.l rfl (look_own 0 rfl rfl rfl rfl)) | exact (.l rfl (look_own 1 rfl rfl rfl rfl)) | exact (.l rfl (look_own 2 rfl rfl rfl rfl)) | exact (.l rfl (look_own 3 rfl rfl rfl rfl)) | exact (.l rfl (look_agg 0 rfl rfl rfl rfl)) | exact (.l rfl (look_agg 1 rfl rfl rfl rfl)) | exact (.l rfl (look_agg 2 rfl rfl rfl rfl)) | exact (.l rfl (look_agg 3 rfl rfl rfl rfl)))
            | refine ops_skip rfl rfl rfl ?_
            | (refine ops_step rfl rfl rfl ?_; first | (refine step_box rfl rfl rfl (fun _ => ?_)) | (refine step_alloc rfl rfl rfl rfl (fun _ => ?_)) | (refine step_buildSliceF rfl rfl rfl rfl rfl rfl (fun _ => ?_)) | (refine step_map rfl (fun _ => ?_)) | (refine step_storeZ 0 rfl rfl rfl rfl rfl rfl rfl rfl rfl ?_) | (refine step_storeZ 1 rfl rfl rfl rfl rfl rfl rfl rfl rfl ?_) | (refine step_storeZ 2 rfl rfl rfl rfl rfl rfl rfl rfl rfl ?_))))
    refine exec_draw (lst := [(0, 0), (1, 0), (2, 0), (4, 0), (3, 7), (5, 31), (6, 63), (7, 63), (8, 255), (9, 511), (10, 1023), (11, 2047), (12, 4095), (14, 4095), (13, 8191), (15, 32767), (16, 65535), (17, 65535), (18, 262143), (19, 524287), (20, 1048575), (21, 2097151), (22, 4194303), (23, 8388607), (24, 8388607), (25, 8388607), (26, 8388607), (27, 125829119), (28, 268435455), (29, 536870911)]) (full := 1073741823) (by kernel_rfl) (by kernel_rfl) (by kernel_rfl) (by kernel_rfl) ?_
    repeat (first
        | (refine draw_more ?_; first
            | (apply draw_pl rfl rfl rfl rfl ?_ rfl rfl ?_; rotate_left; focus first | exact (.bld rfl rfl rfl rfl) | exact (.cat rfl rfl rfl (by first | (simp; done) | (simp; omega))) | exact (.neSelf rfl rfl rfl rfl) | exact (.eqSelf rfl rfl rfl rfl) | exact (.wr64 rfl rfl (by omega) (by omega)) | exact (.p rfl rfl) | exact (.cv64 rfl (fun _ => rfl) (by omega) (by omega)) | exact (.l rfl (fun _ _ => rfl)) | exact (.l rfl (look_own 0 rfl rfl rfl rfl)) | exact (.l rfl (look_own 1 rfl rfl rfl rfl)) | exact (.l rfl (look_own 2 rfl rfl rfl rfl)) | exact (.l rfl (look_own 3 rfl rfl rfl rfl)) | exact (.l rfl (look_agg 0 rfl rfl rfl rfl)) | exact (.l rfl (look_agg 1 rfl rfl rfl rfl)) | exact (.l rfl (look_agg 2 rfl rfl rfl rfl)) | exact (.l rfl (look_agg 3 rfl rfl rfl rfl)))
            | refine draw_skip rfl rfl rfl rfl ?_))
    try refine draw_nil ?_
    refine draw_w rfl rfl rfl rfl rfl rfl (step_call_pure rfl rfl rfl (fun H hs => fits_ok (a := nul) (b := a) hm ((hT.mono (by repeat first | exact List.Sublist.refl _ | apply List.Sublist.cons)).pure hs)) ⟨by repeat (first | exact True.intro | refine And.intro (.inl rfl) ?_ | refine And.intro (.inr ⟨veq_refl rfl, (fun _ _ => rfl)⟩) ?_ | refine And.intro (.inr ⟨veq_refl rfl, (look_own 0 rfl rfl rfl rfl)⟩) ?_ | refine And.intro (.inr ⟨veq_refl rfl, (look_own 1 rfl rfl rfl rfl)⟩) ?_ | refine And.intro (.inr ⟨veq_refl rfl, (look_own 2 rfl rfl rfl rfl)⟩) ?_ | refine And.intro (.inr ⟨veq_refl rfl, (look_own 3 rfl rfl rfl rfl)⟩) ?_ | refine And.intro (.inr ⟨veq_refl rfl, (look_agg 0 rfl rfl rfl rfl)⟩) ?_ | refine And.intro (.inr ⟨veq_refl rfl, (look_agg 1 rfl rfl rfl rfl)⟩) ?_ | refine And.intro (.inr ⟨veq_refl rfl, (look_agg 2 rfl rfl rfl rfl)⟩) ?_ | refine And.intro (.inr ⟨veq_refl rfl, (look_agg 3 rfl rfl rfl rfl)⟩) ?_), ?_⟩)
    rw [q1]
    repeat (first
        | (refine draw_more ?_; first
            | (apply draw_pl rfl rfl rfl rfl ?_ rfl rfl ?_; rotate_left; focus first | exact (.bld rfl rfl rfl rfl) | exact (.cat rfl rfl rfl (by first | (simp; done) | (simp; omega))) | exact (.neSelf rfl rfl rfl rfl) | exact (.eqSelf rfl rfl rfl rfl) | exact (.wr64 rfl rfl (by omega) (by omega)) | exact (.p rfl rfl) | exact (.cv64 rfl (fun _ => rfl) (by omega) (by omega)) | exact (.l rfl (fun _ _ => rfl)) | exact (.l rfl (look_own 0 rfl rfl rfl rfl)) | exact (.l rfl (look_own 1 rfl rfl rfl rfl)) | exact (.l rfl (look_own 2 rfl rfl rfl rfl)) | exact (.l rfl (look_own 3 rfl rfl rfl rfl)) | exact (.l rfl (look_agg 0 rfl rfl rfl rfl)) | exact (.l rfl (look_agg 1 rfl rfl rfl rfl)) | exact (.l rfl (look_agg 2 rfl rfl rfl rfl)) | exact (.l rfl (look_agg 3 rfl rfl rfl rfl)))
            | refine draw_skip rfl rfl rfl rfl ?_))
    try refine draw_nil ?_
    first | refine ops_pl rfl rfl rfl (PL.eqlTyp (a := a) (b := nul) rfl rfl rfl) rfl ?_ | refine draw_pl rfl rfl rfl rfl (PL.eqlTyp (a := a) (b := nul) rfl rfl rfl) rfl rfl ?_
    rw [hn]
    repeat (first
        | (refine draw_more ?_; first
            | (apply draw_pl rfl rfl rfl rfl ?_ rfl rfl ?_; rotate_left; focus first | exact (.bld rfl rfl rfl rfl) | exact (.cat rfl rfl rfl (by first | (simp; done) | (simp; omega))) | exact (.neSelf rfl rfl rfl rfl) | exact (.eqSelf rfl rfl rfl rfl) | exact (.wr64 rfl rfl (by omega) (by omega)) | exact (.p rfl rfl) | exact (.cv64 rfl (fun _ => rfl) (by omega) (by omega)) | exact (.l rfl (fun _ _ => rfl)) | exact (.l rfl (look_own 0 rfl rfl rfl rfl)) | exact (.l rfl (look_own 1 rfl rfl rfl rfl)) | exact (.l rfl (look_own 2 rfl rfl rfl rfl)) | exact (.l rfl (look_own 3 rfl rfl rfl rfl)) | exact (.l rfl (look_agg 0 rfl rfl rfl rfl)) | exact (.l rfl (look_agg 1 rfl rfl rfl rfl)) | exact (.l rfl (look_agg 2 rfl rfl rfl rfl)) | exact (.l rfl (look_agg 3 rfl rfl rfl rfl)))
            | refine draw_skip rfl rfl rfl rfl ?_))
    try refine draw_nil ?_
    refine draw_w rfl rfl rfl rfl rfl rfl (step_call_pure rfl rfl rfl (fun H hs => refers_ok (a := a)) ⟨by repeat (first | exact True.intro | refine And.intro (.inl rfl) ?_ | refine And.intro (.inr ⟨veq_refl rfl, (fun _ _ => rfl)⟩) ?_ | refine And.intro (.inr ⟨veq_refl rfl, (look_own 0 rfl rfl rfl rfl)⟩) ?_ | refine And.intro (.inr ⟨veq_refl rfl, (look_own 1 rfl rfl rfl rfl)⟩) ?_ | refine And.intro (.inr ⟨veq_refl rfl, (look_own 2 rfl rfl rfl rfl)⟩) ?_ | refine And.intro (.inr ⟨veq_refl rfl, (look_own 3 rfl rfl rfl rfl)⟩) ?_ | refine And.intro (.inr ⟨veq_refl rfl, (look_agg 0 rfl rfl rfl rfl)⟩) ?_ | refine And.intro (.inr ⟨veq_refl rfl, (look_agg 1 rfl rfl rfl rfl)⟩) ?_ | refine And.intro (.inr ⟨veq_refl rfl, (look_agg 2 rfl rfl rfl rfl)⟩) ?_ | refine And.intro (.inr ⟨veq_refl rfl, (look_agg 3 rfl rfl rfl rfl)⟩) ?_), ?_⟩)
    rw [q2]
    repeat (first
        | (refine draw_more ?_; first
            | (apply draw_pl rfl rfl rfl rfl ?_ rfl rfl ?_; rotate_left; focus first | exact (.bld rfl rfl rfl rfl) | exact (.cat rfl rfl rfl (by first | (simp; done) | (simp; omega))) | exact (.neSelf rfl rfl rfl rfl) | exact (.eqSelf rfl rfl rfl rfl) | exact (.wr64 rfl rfl (by omega) (by omega)) | exact (.p rfl rfl) | exact (.cv64 rfl (fun _ => rfl) (by omega) (by omega)) | exact (.l rfl (fun _ _ => rfl)) | exact (.l rfl (look_own 0 rfl rfl rfl rfl)) | exact (.l rfl (look_own 1 rfl rfl rfl rfl)) | exact (.l rfl (look_own 2 rfl rfl rfl rfl)) | exact (.l rfl (look_own 3 rfl rfl rfl rfl)) | exact (.l rfl (look_agg 0 rfl rfl rfl rfl)) | exact (.l rfl (look_agg 1 rfl rfl rfl rfl)) | exact (.l rfl (look_agg 2 rfl rfl rfl rfl)) | exact (.l rfl (look_agg 3 rfl rfl rfl rfl)))
            | refine draw_skip rfl rfl rfl rfl ?_))
    try refine draw_nil ?_
    first | refine ops_pl rfl rfl rfl (PL.eqlTyp (a := a) (b := nul) rfl rfl rfl) rfl ?_ | refine draw_pl rfl rfl rfl rfl (PL.eqlTyp (a := a) (b := nul) rfl rfl rfl) rfl rfl ?_
    rw [hn]
    repeat (first
        | (refine draw_more ?_; first
            | (apply draw_pl rfl rfl rfl rfl ?_ rfl rfl ?_; rotate_left; focus first | exact (.bld rfl rfl rfl rfl) | exact (.cat rfl rfl rfl (by first | (simp; done) | (simp; omega))) | exact (.neSelf rfl rfl rfl rfl) | exact (.eqSelf rfl rfl rfl rfl) | exact (.wr64 rfl rfl (by omega) (by omega)) | exact (.p rfl rfl) | exact (.cv64 rfl (fun _ => rfl) (by omega) (by omega)) | exact (.l rfl (fun _ _ => rfl)) | exact (.l rfl (look_own 0 rfl rfl rfl rfl)) | exact (.l rfl (look_own 1 rfl rfl rfl rfl)) | exact (.l rfl (look_own 2 rfl rfl rfl rfl)) | exact (.l rfl (look_own 3 rfl rfl rfl rfl)) | exact (.l rfl (look_agg 0 rfl rfl rfl rfl)) | exact (.l rfl (look_agg 1 rfl rfl rfl rfl)) | exact (.l rfl (look_agg 2 rfl rfl rfl rfl)) | exact (.l rfl (look_agg 3 rfl rfl rfl rfl)))
            | refine draw_skip rfl rfl rfl rfl ?_))
    try refine draw_nil ?_
    refine draw_w rfl rfl rfl rfl rfl rfl (step_call_pure rfl rfl rfl (fun H hs => join_ok (a := nul) (b := a) hm ((hT.mono (by repeat first | exact List.Sublist.refl _ | apply List.Sublist.cons)).pure hs)) ⟨by repeat (first | exact True.intro | refine And.intro (.inl rfl) ?_ | refine And.intro (.inr ⟨veq_refl rfl, (fun _ _ => rfl)⟩) ?_ | refine And.intro (.inr ⟨veq_refl rfl, (look_own 0 rfl rfl rfl rfl)⟩) ?_ | refine And.intro (.inr ⟨veq_refl rfl, (look_own 1 rfl rfl rfl rfl)⟩) ?_ | refine And.intro (.inr ⟨veq_refl rfl, (look_own 2 rfl rfl rfl rfl)⟩) ?_ | refine And.intro (.inr ⟨veq_refl rfl, (look_own 3 rfl rfl rfl rfl)⟩) ?_ | refine And.intro (.inr ⟨veq_refl rfl, (look_agg 0 rfl rfl rfl rfl)⟩) ?_ | refine And.intro (.inr ⟨veq_refl rfl, (look_agg 1 rfl rfl rfl rfl)⟩) ?_ | refine And.intro (.inr ⟨veq_refl rfl, (look_agg 2 rfl rfl rfl rfl)⟩) ?_ | refine And.intro (.inr ⟨veq_refl rfl, (look_agg 3 rfl rfl rfl rfl)⟩) ?_), ?_⟩)
    rw [← q3]
    repeat (first
        | (refine draw_more ?_; first
            | (apply draw_pl rfl rfl rfl rfl ?_ rfl rfl ?_; rotate_left; focus first | exact (.bld rfl rfl rfl rfl) | exact (.cat rfl rfl rfl (by first | (simp; done) | (simp; omega))) | exact (.neSelf rfl rfl rfl rfl) | exact (.eqSelf rfl rfl rfl rfl) | exact (.wr64 rfl rfl (by omega) (by omega)) | exact (.p rfl rfl) | exact (.cv64 rfl (fun _ => rfl) (by omega) (by omega)) | exact (.l rfl (fun _ _ => rfl)) | exact (.l rfl (look_own 0 rfl rfl rfl rfl)) | exact (.l rfl (look_own 1 rfl rfl rfl rfl)) | exact (.l rfl (look_own 2 rfl rfl rfl rfl)) | exact (.l rfl (look_own 3 rfl rfl rfl rfl)) | exact (.l rfl (look_agg 0 rfl rfl rfl rfl)) | exact (.l rfl (look_agg 1 rfl rfl rfl rfl)) | exact (.l rfl (look_agg 2 rfl rfl rfl rfl)) | exact (.l rfl (look_agg 3 rfl rfl rfl rfl)))
            | refine draw_skip rfl rfl rfl rfl ?_))
    try refine draw_nil ?_
    first | refine ops_pl rfl rfl rfl (PL.neqTyp (a := J) (b := J) rfl rfl rfl) rfl ?_ | refine draw_pl rfl rfl rfl rfl (PL.neqTyp (a := J) (b := J) rfl rfl rfl) rfl rfl ?_
    rw [hJJ]
    repeat (first
        | (refine draw_more ?_; first
            | (apply draw_pl rfl rfl rfl rfl ?_ rfl rfl ?_; rotate_left; focus first | exact (.bld rfl rfl rfl rfl) | exact (.cat rfl rfl rfl (by first | (simp; done) | (simp; omega))) | exact (.neSelf rfl rfl rfl rfl) | exact (.eqSelf rfl rfl rfl rfl) | exact (.wr64 rfl rfl (by omega) (by omega)) | exact (.p rfl rfl) | exact (.cv64 rfl (fun _ => rfl) (by omega) (by omega)) | exact (.l rfl (fun _ _ => rfl)) | exact (.l rfl (look_own 0 rfl rfl rfl rfl)) | exact (.l rfl (look_own 1 rfl rfl rfl rfl)) | exact (.l rfl (look_own 2 rfl rfl rfl rfl)) | exact (.l rfl (look_own 3 rfl rfl rfl rfl)) | exact (.l rfl (look_agg 0 rfl rfl rfl rfl)) | exact (.l rfl (look_agg 1 rfl rfl rfl rfl)) | exact (.l rfl (look_agg 2 rfl rfl rfl rfl)) | exact (.l rfl (look_agg 3 rfl rfl rfl rfl)))
            | refine draw_skip rfl rfl rfl rfl ?_))
    try refine draw_nil ?_
    repeat (first
        | (refine exec_more ?_; first
            | refine exec_seq ?_
            | refine exec_region ?_
            | refine exec_block ?_
            | refine exec_skip ?_
            | refine exec_exit ?_
            | refine exec_ret ?_
            | refine exec_true rfl ?_
            | refine exec_false rfl ?_)
        | refine ops_nil ?_
        | (refine ops_more ?_; first
            | (apply ops_pl rfl rfl rfl ?_ rfl ?_; rotate_left; focus first | exact (.bld rfl rfl rfl rfl) | exact (.cat rfl rfl rfl (by first | (simp; done) | (simp; omega))) | exact (.neSelf rfl rfl rfl rfl) | exact (.eqSelf rfl rfl rfl rfl) | exact (.wr64 rfl rfl (by omega) (by omega)) | exact (.p rfl rfl) | exact (.cv64 rfl (fun _ => rfl) (by omega) (by omega)) | exact (.l rfl (fun _ _ => rfl)) | exact (.l rfl (look_own 0 rfl rfl rfl rfl)) | exact (.l rfl (look_own 1 rfl rfl rfl rfl)) | exact (.l rfl (look_own 2 rfl rfl rfl rfl)) | exact (.l rfl (look_own 3 rfl rfl rfl rfl)) | exact (.l rfl (look_agg 0 rfl rfl rfl rfl)) | exact (.l rfl (look_agg 1 rfl rfl rfl rfl)) | exact (.l rfl (look_agg 2 rfl rfl rfl rfl)) | exact (.l rfl (look_agg 3 rfl rfl rfl rfl)))
            | refine ops_skip rfl rfl rfl ?_
            | (refine ops_step rfl rfl rfl ?_; first | (refine step_box rfl rfl rfl (fun _ => ?_)) | (refine step_alloc rfl rfl rfl rfl (fun _ => ?_)) | (refine step_buildSliceF rfl rfl rfl rfl rfl rfl (fun _ => ?_)) | (refine step_map rfl (fun _ => ?_)) | (refine step_storeZ 0 rfl rfl rfl rfl rfl rfl rfl rfl rfl ?_) | (refine step_storeZ 1 rfl rfl rfl rfl rfl rfl rfl rfl rfl ?_) | (refine step_storeZ 2 rfl rfl rfl rfl rfl rfl rfl rfl rfl ?_))))
    first | refine ops_pl rfl rfl rfl (PL.eqlTyp (a := a) (b := nul) rfl rfl rfl) rfl ?_ | refine draw_pl rfl rfl rfl rfl (PL.eqlTyp (a := a) (b := nul) rfl rfl rfl) rfl rfl ?_
    rw [hn]
    repeat (first
        | (refine exec_more ?_; first
            | refine exec_seq ?_
            | refine exec_region ?_
            | refine exec_block ?_
            | refine exec_skip ?_
            | refine exec_exit ?_
            | refine exec_ret ?_
            | refine exec_true rfl ?_
            | refine exec_false rfl ?_)
        | refine ops_nil ?_
        | (refine ops_more ?_; first
            | (apply ops_pl rfl rfl rfl ?_ rfl ?_; rotate_left; focus first | exact (.bld rfl rfl rfl rfl) | exact (.cat rfl rfl rfl (by first | (simp; done) | (simp; omega))) | exact (.neSelf rfl rfl rfl rfl) | exact (.eqSelf rfl rfl rfl rfl) | exact (.wr64 rfl rfl (by omega) (by omega)) | exact (.p rfl rfl) | exact (.cv64 rfl (fun _ => rfl) (by omega) (by omega)) | exact (.l rfl (fun _ _ => rfl)) | exact (.l rfl (look_own 0 rfl rfl rfl rfl)) | exact (.l rfl (look_own 1 rfl rfl rfl rfl)) | exact (.l rfl (look_own 2 rfl rfl rfl rfl)) | exact (.l rfl (look_own 3 rfl rfl rfl rfl)) | exact (.l rfl (look_agg 0 rfl rfl rfl rfl)) | exact (.l rfl (look_agg 1 rfl rfl rfl rfl)) | exact (.l rfl (look_agg 2 rfl rfl rfl rfl)) | exact (.l rfl (look_agg 3 rfl rfl rfl rfl)))
            | refine ops_skip rfl rfl rfl ?_
            | (refine ops_step rfl rfl rfl ?_; first | (refine step_box rfl rfl rfl (fun _ => ?_)) | (refine step_alloc rfl rfl rfl rfl (fun _ => ?_)) | (refine step_buildSliceF rfl rfl rfl rfl rfl rfl (fun _ => ?_)) | (refine step_map rfl (fun _ => ?_)) | (refine step_storeZ 0 rfl rfl rfl rfl rfl rfl rfl rfl rfl ?_) | (refine step_storeZ 1 rfl rfl rfl rfl rfl rfl rfl rfl rfl ?_) | (refine step_storeZ 2 rfl rfl rfl rfl rfl rfl rfl rfl rfl ?_))))
    replace q4 : J = a := q4
    first | refine ops_pl rfl rfl rfl (PL.eqlTyp (a := J) (b := a) rfl rfl rfl) rfl ?_ | refine draw_pl rfl rfl rfl rfl (PL.eqlTyp (a := J) (b := a) rfl rfl rfl) rfl rfl ?_
    rw [decide_eq_true q4]
    repeat (first
        | (refine exec_more ?_; first
            | refine exec_seq ?_
            | refine exec_region ?_
            | refine exec_block ?_
            | refine exec_skip ?_
            | refine exec_exit ?_
            | refine exec_ret ?_
            | refine exec_true rfl ?_
            | refine exec_false rfl ?_)
        | refine ops_nil ?_
        | (refine ops_more ?_; first
            | (apply ops_pl rfl rfl rfl ?_ rfl ?_; rotate_left; focus first | exact (.bld rfl rfl rfl rfl) | exact (.cat rfl rfl rfl (by first | (simp; done) | (simp; omega))) | exact (.neSelf rfl rfl rfl rfl) | exact (.eqSelf rfl rfl rfl rfl) | exact (.wr64 rfl rfl (by omega) (by omega)) | exact (.p rfl rfl) | exact (.cv64 rfl (fun _ => rfl) (by omega) (by omega)) | exact (.l rfl (fun _ _ => rfl)) | exact (.l rfl (look_own 0 rfl rfl rfl rfl)) | exact (.l rfl (look_own 1 rfl rfl rfl rfl)) | exact (.l rfl (look_own 2 rfl rfl rfl rfl)) | exact (.l rfl (look_own 3 rfl rfl rfl rfl)) | exact (.l rfl (look_agg 0 rfl rfl rfl rfl)) | exact (.l rfl (look_agg 1 rfl rfl rfl rfl)) | exact (.l rfl (look_agg 2 rfl rfl rfl rfl)) | exact (.l rfl (look_agg 3 rfl rfl rfl rfl)))
            | refine ops_skip rfl rfl rfl ?_
            | (refine ops_step rfl rfl rfl ?_; first | (refine step_box rfl rfl rfl (fun _ => ?_)) | (refine step_alloc rfl rfl rfl rfl (fun _ => ?_)) | (refine step_buildSliceF rfl rfl rfl rfl rfl rfl (fun _ => ?_)) | (refine step_map rfl (fun _ => ?_)) | (refine step_storeZ 0 rfl rfl rfl rfl rfl rfl rfl rfl rfl ?_) | (refine step_storeZ 1 rfl rfl rfl rfl rfl rfl rfl rfl rfl ?_) | (refine step_storeZ 2 rfl rfl rfl rfl rfl rfl rfl rfl rfl ?_))))
    exact ⟨trivial, _, rfl, rfl⟩
  · replace q1 : fitsB (tmA m6) nul a = true := q1
    replace q2 : refersB a = true := q2
    repeat (first
        | (refine exec_more ?_; first
            | refine exec_seq ?_
            | refine exec_region ?_
            | refine exec_block ?_
            | refine exec_skip ?_
            | refine exec_exit ?_
            | refine exec_ret ?_
            | refine exec_true rfl ?_
            | refine exec_false rfl ?_)
        | refine ops_nil ?_
        | (refine ops_more ?_; first
            | (apply ops_pl rfl rfl rfl ?_ rfl ?_; rotate_left; focus first | exact (.bld rfl rfl rfl rfl) | exact (.cat rfl rfl rfl (by first | (simp; done) | (simp; omega))) | exact (.neSelf rfl rfl rfl rfl) | exact (.eqSelf rfl rfl rfl rfl) | exact (.wr64 rfl rfl (by omega) (by omega)) | exact (.p rfl rfl) | exact (.cv64 rfl (fun _ => rfl) (by omega) (by omega)) | exact (.l rfl (fun _ _ => rfl)) | exact (.l rfl (look_own 0 rfl rfl rfl rfl)) | exact (.l rfl (look_own 1 rfl rfl rfl rfl)) | exact (.l rfl (look_own 2 rfl rfl rfl rfl)) | exact (.l rfl (look_own 3 rfl rfl rfl rfl)) | exact (.l rfl (look_agg 0 rfl rfl rfl rfl)) | exact (.l rfl (look_agg 1 rfl rfl rfl rfl)) | exact (.l rfl (look_agg 2 rfl rfl rfl rfl)) | exact (.l rfl (look_agg 3 rfl rfl rfl rfl)))
            | refine ops_skip rfl rfl rfl ?_
            | (refine ops_step rfl rfl rfl ?_; first | (refine step_box rfl rfl rfl (fun _ => ?_)) | (refine step_alloc rfl rfl rfl rfl (fun _ => ?_)) | (refine step_buildSliceF rfl rfl rfl rfl rfl rfl (fun _ => ?_)) | (refine step_map rfl (fun _ => ?_)) | (refine step_storeZ 0 rfl rfl rfl rfl rfl rfl rfl rfl rfl ?_) | (refine step_storeZ 1 rfl rfl rfl rfl rfl rfl rfl rfl rfl ?_) | (refine step_storeZ 2 rfl rfl rfl rfl rfl rfl rfl rfl rfl ?_))))
    refine ops_step rfl rfl rfl (step_call_pure rfl rfl rfl (fun H hs => join_ok (a := a) (b := nul) hm ((hT.mono (by repeat first | exact List.Sublist.refl _ | apply List.Sublist.cons)).pure hs)) ?_)
    generalize joinT (tmA m6) a nul = J at q3 q4
    repeat (first
        | (refine exec_more ?_; first
            | refine exec_seq ?_
            | refine exec_region ?_
            | refine exec_block ?_
            | refine exec_skip ?_
            | refine exec_exit ?_
            | refine exec_ret ?_
            | refine exec_true rfl ?_
            | refine exec_false rfl ?_)
        | refine ops_nil ?_
        | (refine ops_more ?_; first
            | (apply ops_pl rfl rfl rfl ?_ rfl ?_; rotate_left; focus first | exact (.bld rfl rfl rfl rfl) | exact (.cat rfl rfl rfl (by first | (simp; done) | (simp; omega))) | exact (.neSelf rfl rfl rfl rfl) | exact (.eqSelf rfl rfl rfl rfl) | exact (.wr64 rfl rfl (by omega) (by omega)) | exact (.p rfl rfl) | exact (.cv64 rfl (fun _ => rfl) (by omega) (by omega)) | exact (.l rfl (fun _ _ => rfl)) | exact (.l rfl (look_own 0 rfl rfl rfl rfl)) | exact (.l rfl (look_own 1 rfl rfl rfl rfl)) | exact (.l rfl (look_own 2 rfl rfl rfl rfl)) | exact (.l rfl (look_own 3 rfl rfl rfl rfl)) | exact (.l rfl (look_agg 0 rfl rfl rfl rfl)) | exact (.l rfl (look_agg 1 rfl rfl rfl rfl)) | exact (.l rfl (look_agg 2 rfl rfl rfl rfl)) | exact (.l rfl (look_agg 3 rfl rfl rfl rfl)))
            | refine ops_skip rfl rfl rfl ?_
            | (refine ops_step rfl rfl rfl ?_; first | (refine step_box rfl rfl rfl (fun _ => ?_)) | (refine step_alloc rfl rfl rfl rfl (fun _ => ?_)) | (refine step_buildSliceF rfl rfl rfl rfl rfl rfl (fun _ => ?_)) | (refine step_map rfl (fun _ => ?_)) | (refine step_storeZ 0 rfl rfl rfl rfl rfl rfl rfl rfl rfl ?_) | (refine step_storeZ 1 rfl rfl rfl rfl rfl rfl rfl rfl rfl ?_) | (refine step_storeZ 2 rfl rfl rfl rfl rfl rfl rfl rfl rfl ?_))))
    refine exec_draw (lst := [(0, 0), (1, 0), (2, 0), (4, 0), (3, 7), (5, 31), (6, 63), (7, 63), (8, 255), (9, 511), (10, 1023), (11, 2047), (12, 4095), (14, 4095), (13, 8191), (15, 32767), (16, 65535), (17, 65535), (18, 262143), (19, 524287), (20, 1048575), (21, 2097151), (22, 4194303), (23, 8388607), (24, 8388607), (25, 8388607), (26, 8388607), (27, 125829119), (28, 268435455), (29, 536870911)]) (full := 1073741823) (by kernel_rfl) (by kernel_rfl) (by kernel_rfl) (by kernel_rfl) ?_
    repeat (first
        | (refine draw_more ?_; first
            | (apply draw_pl rfl rfl rfl rfl ?_ rfl rfl ?_; rotate_left; focus first | exact (.bld rfl rfl rfl rfl) | exact (.cat rfl rfl rfl (by first | (simp; done) | (simp; omega))) | exact (.neSelf rfl rfl rfl rfl) | exact (.eqSelf rfl rfl rfl rfl) | exact (.wr64 rfl rfl (by omega) (by omega)) | exact (.p rfl rfl) | exact (.cv64 rfl (fun _ => rfl) (by omega) (by omega)) | exact (.l rfl (fun _ _ => rfl)) | exact (.l rfl (look_own 0 rfl rfl rfl rfl)) | exact (.l rfl (look_own 1 rfl rfl rfl rfl)) | exact (.l rfl (look_own 2 rfl rfl rfl rfl)) | exact (.l rfl (look_own 3 rfl rfl rfl rfl)) | exact (.l rfl (look_agg 0 rfl rfl rfl rfl)) | exact (.l rfl (look_agg 1 rfl rfl rfl rfl)) | exact (.l rfl (look_agg 2 rfl rfl rfl rfl)) | exact (.l rfl (look_agg 3 rfl rfl rfl rfl)))
            | refine draw_skip rfl rfl rfl rfl ?_))
    try refine draw_nil ?_
    refine draw_w rfl rfl rfl rfl rfl rfl (step_call_pure rfl rfl rfl (fun H hs => fits_ok (a := nul) (b := a) hm ((hT.mono (by repeat first | exact List.Sublist.refl _ | apply List.Sublist.cons)).pure hs)) ⟨by repeat (first | exact True.intro | refine And.intro (.inl rfl) ?_ | refine And.intro (.inr ⟨veq_refl rfl, (fun _ _ => rfl)⟩) ?_ | refine And.intro (.inr ⟨veq_refl rfl, (look_own 0 rfl rfl rfl rfl)⟩) ?_ | refine And.intro (.inr ⟨veq_refl rfl, (look_own 1 rfl rfl rfl rfl)⟩) ?_ | refine And.intro (.inr ⟨veq_refl rfl, (look_own 2 rfl rfl rfl rfl)⟩) ?_ | refine And.intro (.inr ⟨veq_refl rfl, (look_own 3 rfl rfl rfl rfl)⟩) ?_ | refine And.intro (.inr ⟨veq_refl rfl, (look_agg 0 rfl rfl rfl rfl)⟩) ?_ | refine And.intro (.inr ⟨veq_refl rfl, (look_agg 1 rfl rfl rfl rfl)⟩) ?_ | refine And.intro (.inr ⟨veq_refl rfl, (look_agg 2 rfl rfl rfl rfl)⟩) ?_ | refine And.intro (.inr ⟨veq_refl rfl, (look_agg 3 rfl rfl rfl rfl)⟩) ?_), ?_⟩)
    rw [q1]
    repeat (first
        | (refine draw_more ?_; first
            | (apply draw_pl rfl rfl rfl rfl ?_ rfl rfl ?_; rotate_left; focus first | exact (.bld rfl rfl rfl rfl) | exact (.cat rfl rfl rfl (by first | (simp; done) | (simp; omega))) | exact (.neSelf rfl rfl rfl rfl) | exact (.eqSelf rfl rfl rfl rfl) | exact (.wr64 rfl rfl (by omega) (by omega)) | exact (.p rfl rfl) | exact (.cv64 rfl (fun _ => rfl) (by omega) (by omega)) | exact (.l rfl (fun _ _ => rfl)) | exact (.l rfl (look_own 0 rfl rfl rfl rfl)) | exact (.l rfl (look_own 1 rfl rfl rfl rfl)) | exact (.l rfl (look_own 2 rfl rfl rfl rfl)) | exact (.l rfl (look_own 3 rfl rfl rfl rfl)) | exact (.l rfl (look_agg 0 rfl rfl rfl rfl)) | exact (.l rfl (look_agg 1 rfl rfl rfl rfl)) | exact (.l rfl (look_agg 2 rfl rfl rfl rfl)) | exact (.l rfl (look_agg 3 rfl rfl rfl rfl)))
            | refine draw_skip rfl rfl rfl rfl ?_))
    try refine draw_nil ?_
    refine draw_w rfl rfl rfl rfl rfl rfl (step_call_pure rfl rfl rfl (fun H hs => refers_ok (a := a)) ⟨by repeat (first | exact True.intro | refine And.intro (.inl rfl) ?_ | refine And.intro (.inr ⟨veq_refl rfl, (fun _ _ => rfl)⟩) ?_ | refine And.intro (.inr ⟨veq_refl rfl, (look_own 0 rfl rfl rfl rfl)⟩) ?_ | refine And.intro (.inr ⟨veq_refl rfl, (look_own 1 rfl rfl rfl rfl)⟩) ?_ | refine And.intro (.inr ⟨veq_refl rfl, (look_own 2 rfl rfl rfl rfl)⟩) ?_ | refine And.intro (.inr ⟨veq_refl rfl, (look_own 3 rfl rfl rfl rfl)⟩) ?_ | refine And.intro (.inr ⟨veq_refl rfl, (look_agg 0 rfl rfl rfl rfl)⟩) ?_ | refine And.intro (.inr ⟨veq_refl rfl, (look_agg 1 rfl rfl rfl rfl)⟩) ?_ | refine And.intro (.inr ⟨veq_refl rfl, (look_agg 2 rfl rfl rfl rfl)⟩) ?_ | refine And.intro (.inr ⟨veq_refl rfl, (look_agg 3 rfl rfl rfl rfl)⟩) ?_), ?_⟩)
    rw [q2]
    repeat (first
        | (refine draw_more ?_; first
            | (apply draw_pl rfl rfl rfl rfl ?_ rfl rfl ?_; rotate_left; focus first | exact (.bld rfl rfl rfl rfl) | exact (.cat rfl rfl rfl (by first | (simp; done) | (simp; omega))) | exact (.neSelf rfl rfl rfl rfl) | exact (.eqSelf rfl rfl rfl rfl) | exact (.wr64 rfl rfl (by omega) (by omega)) | exact (.p rfl rfl) | exact (.cv64 rfl (fun _ => rfl) (by omega) (by omega)) | exact (.l rfl (fun _ _ => rfl)) | exact (.l rfl (look_own 0 rfl rfl rfl rfl)) | exact (.l rfl (look_own 1 rfl rfl rfl rfl)) | exact (.l rfl (look_own 2 rfl rfl rfl rfl)) | exact (.l rfl (look_own 3 rfl rfl rfl rfl)) | exact (.l rfl (look_agg 0 rfl rfl rfl rfl)) | exact (.l rfl (look_agg 1 rfl rfl rfl rfl)) | exact (.l rfl (look_agg 2 rfl rfl rfl rfl)) | exact (.l rfl (look_agg 3 rfl rfl rfl rfl)))
            | refine draw_skip rfl rfl rfl rfl ?_))
    try refine draw_nil ?_
    refine draw_w rfl rfl rfl rfl rfl rfl (step_call_pure rfl rfl rfl (fun H hs => join_ok (a := nul) (b := a) hm ((hT.mono (by repeat first | exact List.Sublist.refl _ | apply List.Sublist.cons)).pure hs)) ⟨by repeat (first | exact True.intro | refine And.intro (.inl rfl) ?_ | refine And.intro (.inr ⟨veq_refl rfl, (fun _ _ => rfl)⟩) ?_ | refine And.intro (.inr ⟨veq_refl rfl, (look_own 0 rfl rfl rfl rfl)⟩) ?_ | refine And.intro (.inr ⟨veq_refl rfl, (look_own 1 rfl rfl rfl rfl)⟩) ?_ | refine And.intro (.inr ⟨veq_refl rfl, (look_own 2 rfl rfl rfl rfl)⟩) ?_ | refine And.intro (.inr ⟨veq_refl rfl, (look_own 3 rfl rfl rfl rfl)⟩) ?_ | refine And.intro (.inr ⟨veq_refl rfl, (look_agg 0 rfl rfl rfl rfl)⟩) ?_ | refine And.intro (.inr ⟨veq_refl rfl, (look_agg 1 rfl rfl rfl rfl)⟩) ?_ | refine And.intro (.inr ⟨veq_refl rfl, (look_agg 2 rfl rfl rfl rfl)⟩) ?_ | refine And.intro (.inr ⟨veq_refl rfl, (look_agg 3 rfl rfl rfl rfl)⟩) ?_), ?_⟩)
    rw [← q3]
    repeat (first
        | (refine draw_more ?_; first
            | (apply draw_pl rfl rfl rfl rfl ?_ rfl rfl ?_; rotate_left; focus first | exact (.bld rfl rfl rfl rfl) | exact (.cat rfl rfl rfl (by first | (simp; done) | (simp; omega))) | exact (.neSelf rfl rfl rfl rfl) | exact (.eqSelf rfl rfl rfl rfl) | exact (.wr64 rfl rfl (by omega) (by omega)) | exact (.p rfl rfl) | exact (.cv64 rfl (fun _ => rfl) (by omega) (by omega)) | exact (.l rfl (fun _ _ => rfl)) | exact (.l rfl (look_own 0 rfl rfl rfl rfl)) | exact (.l rfl (look_own 1 rfl rfl rfl rfl)) | exact (.l rfl (look_own 2 rfl rfl rfl rfl)) | exact (.l rfl (look_own 3 rfl rfl rfl rfl)) | exact (.l rfl (look_agg 0 rfl rfl rfl rfl)) | exact (.l rfl (look_agg 1 rfl rfl rfl rfl)) | exact (.l rfl (look_agg 2 rfl rfl rfl rfl)) | exact (.l rfl (look_agg 3 rfl rfl rfl rfl)))
            | refine draw_skip rfl rfl rfl rfl ?_))
    try refine draw_nil ?_
    first | refine ops_pl rfl rfl rfl (PL.neqTyp (a := J) (b := J) rfl rfl rfl) rfl ?_ | refine draw_pl rfl rfl rfl rfl (PL.neqTyp (a := J) (b := J) rfl rfl rfl) rfl rfl ?_
    rw [hJJ]
    repeat (first
        | (refine draw_more ?_; first
            | (apply draw_pl rfl rfl rfl rfl ?_ rfl rfl ?_; rotate_left; focus first | exact (.bld rfl rfl rfl rfl) | exact (.cat rfl rfl rfl (by first | (simp; done) | (simp; omega))) | exact (.neSelf rfl rfl rfl rfl) | exact (.eqSelf rfl rfl rfl rfl) | exact (.wr64 rfl rfl (by omega) (by omega)) | exact (.p rfl rfl) | exact (.cv64 rfl (fun _ => rfl) (by omega) (by omega)) | exact (.l rfl (fun _ _ => rfl)) | exact (.l rfl (look_own 0 rfl rfl rfl rfl)) | exact (.l rfl (look_own 1 rfl rfl rfl rfl)) | exact (.l rfl (look_own 2 rfl rfl rfl rfl)) | exact (.l rfl (look_own 3 rfl rfl rfl rfl)) | exact (.l rfl (look_agg 0 rfl rfl rfl rfl)) | exact (.l rfl (look_agg 1 rfl rfl rfl rfl)) | exact (.l rfl (look_agg 2 rfl rfl rfl rfl)) | exact (.l rfl (look_agg 3 rfl rfl rfl rfl)))
            | refine draw_skip rfl rfl rfl rfl ?_))
    try refine draw_nil ?_
    repeat (first
        | (refine exec_more ?_; first
            | refine exec_seq ?_
            | refine exec_region ?_
            | refine exec_block ?_
            | refine exec_skip ?_
            | refine exec_exit ?_
            | refine exec_ret ?_
            | refine exec_true rfl ?_
            | refine exec_false rfl ?_)
        | refine ops_nil ?_
        | (refine ops_more ?_; first
            | (apply ops_pl rfl rfl rfl ?_ rfl ?_; rotate_left; focus first | exact (.bld rfl rfl rfl rfl) | exact (.cat rfl rfl rfl (by first | (simp; done) | (simp; omega))) | exact (.neSelf rfl rfl rfl rfl) | exact (.eqSelf rfl rfl rfl rfl) | exact (.wr64 rfl rfl (by omega) (by omega)) | exact (.p rfl rfl) | exact (.cv64 rfl (fun _ => rfl) (by omega) (by omega)) | exact (.l rfl (fun _ _ => rfl)) | exact (.l rfl (look_own 0 rfl rfl rfl rfl)) | exact (.l rfl (look_own 1 rfl rfl rfl rfl)) | exact (.l rfl (look_own 2 rfl rfl rfl rfl)) | exact (.l rfl (look_own 3 rfl rfl rfl rfl)) | exact (.l rfl (look_agg 0 rfl rfl rfl rfl)) | exact (.l rfl (look_agg 1 rfl rfl rfl rfl)) | exact (.l rfl (look_agg 2 rfl rfl rfl rfl)) | exact (.l rfl (look_agg 3 rfl rfl rfl rfl)))
            | refine ops_skip rfl rfl rfl ?_
            | (refine ops_step rfl rfl rfl ?_; first | (refine step_box rfl rfl rfl (fun _ => ?_)) | (refine step_alloc rfl rfl rfl rfl (fun _ => ?_)) | (refine step_buildSliceF rfl rfl rfl rfl rfl rfl (fun _ => ?_)) | (refine step_map rfl (fun _ => ?_)) | (refine step_storeZ 0 rfl rfl rfl rfl rfl rfl rfl rfl rfl ?_) | (refine step_storeZ 1 rfl rfl rfl rfl rfl rfl rfl rfl rfl ?_) | (refine step_storeZ 2 rfl rfl rfl rfl rfl rfl rfl rfl rfl ?_))))
    replace q4 : J = a := q4
    first | refine ops_pl rfl rfl rfl (PL.eqlTyp (a := J) (b := a) rfl rfl rfl) rfl ?_ | refine draw_pl rfl rfl rfl rfl (PL.eqlTyp (a := J) (b := a) rfl rfl rfl) rfl rfl ?_
    rw [decide_eq_true q4]
    repeat (first
        | (refine exec_more ?_; first
            | refine exec_seq ?_
            | refine exec_region ?_
            | refine exec_block ?_
            | refine exec_skip ?_
            | refine exec_exit ?_
            | refine exec_ret ?_
            | refine exec_true rfl ?_
            | refine exec_false rfl ?_)
        | refine ops_nil ?_
        | (refine ops_more ?_; first
            | (apply ops_pl rfl rfl rfl ?_ rfl ?_; rotate_left; focus first | exact (.bld rfl rfl rfl rfl) | exact (.cat rfl rfl rfl (by first | (simp; done) | (simp; omega))) | exact (.neSelf rfl rfl rfl rfl) | exact (.eqSelf rfl rfl rfl rfl) | exact (.wr64 rfl rfl (by omega) (by omega)) | exact (.p rfl rfl) | exact (.cv64 rfl (fun _ => rfl) (by omega) (by omega)) | exact (.l rfl (fun _ _ => rfl)) | exact (.l rfl (look_own 0 rfl rfl rfl rfl)) | exact (.l rfl (look_own 1 rfl rfl rfl rfl)) | exact (.l rfl (look_own 2 rfl rfl rfl rfl)) | exact (.l rfl (look_own 3 rfl rfl rfl rfl)) | exact (.l rfl (look_agg 0 rfl rfl rfl rfl)) | exact (.l rfl (look_agg 1 rfl rfl rfl rfl)) | exact (.l rfl (look_agg 2 rfl rfl rfl rfl)) | exact (.l rfl (look_agg 3 rfl rfl rfl rfl)))
            | refine ops_skip rfl rfl rfl ?_
            | (refine ops_step rfl rfl rfl ?_; first | (refine step_box rfl rfl rfl (fun _ => ?_)) | (refine step_alloc rfl rfl rfl rfl (fun _ => ?_)) | (refine step_buildSliceF rfl rfl rfl rfl rfl rfl (fun _ => ?_)) | (refine step_map rfl (fun _ => ?_)) | (refine step_storeZ 0 rfl rfl rfl rfl rfl rfl rfl rfl rfl ?_) | (refine step_storeZ 1 rfl rfl rfl rfl rfl rfl rfl rfl rfl ?_) | (refine step_storeZ 2 rfl rfl rfl rfl rfl rfl rfl rfl rfl ?_))))
    exact ⟨trivial, _, rfl, rfl⟩
  · exfalso
    rw [of_decide_eq_true hn] at hr
    exact absurd hr (by decide)
end Go.Proofs.Ythifbkjkiijkoaa

