/-
  'bonsailaw11.LatticeFits' is true at every input: the walk.
-/
import Derived.Test.YthifbkjkiijkoaaTm
import Derived.Test.YthifbkjkiijkoaaLat2
import Derived.Test.YthifbkjkiijkoaaEvArgA
namespace Go.Proofs.Ythifbkjkiijkoaa
open Go.Ev Go.Ev.Wk
set_option linter.unusedVariables false
set_option linter.unusedSimpArgs false
variable {O : Old}


def topT : Typ := (7, [])
def lawT : List Typ := ((List.range 256).map fun n => ofT n [65]).eraseDups
theorem lawT_mem : ∀ n < 256, ofT n [65] ∈ lawT := by decide +kernel

theorem fits_law : ∀ (m6 : Bool), ∀ a ∈ lawT, (fitsB (tmA m6) a a = !decide (a = topT)) ∧ fitsB (tmA m6) a topT = false ∧ fitsB (tmA m6) topT a = false ∧ joinT (tmA m6) a topT = topT ∧
    ∀ b ∈ lawT, (fitsB (tmA m6) b a = true → refersB a = true → refersB b = true) ∧ (fitsB (tmA m6) a b = true → ∀ c ∈ lawT, fitsB (tmA m6) b c = true → fitsB (tmA m6) a c = true) := by decide +kernel

set_option maxHeartbeats 32000000 in
set_option maxRecDepth 100000 in
theorem latticeFits_walk {k0 k1 k2 k3 x y z : Int} (h0 : 0 ≤ k0 ∧ k0 ≤ 255) (h1 : 0 ≤ k1 ∧ k1 ≤ 255) (h2 : 0 ≤ k2 ∧ k2 ≤ 255) (h3 : 0 ≤ k3 ∧ k3 ≤ 255) (hx : 0 ≤ x ∧ x ≤ 255) (hy : 0 ≤ y ∧ y ≤ 255) (hz : 0 ≤ z ∧ z ≤ 255) :
    CallC TT O 8 [.agg #[.int .u8 k0, .int .u8 k1, .int .u8 k2, .int .u8 k3], .int .u8 x, .int .u8 y, .int .u8 z] .empty fun v H' => v = .bool true ∧ Ext .empty H' := by
  obtain ⟨n, rfl⟩ := Int.eq_ofNat_of_zero_le hx.1
  obtain ⟨n2, rfl⟩ := Int.eq_ofNat_of_zero_le hy.1
  obtain ⟨n3, rfl⟩ := Int.eq_ofNat_of_zero_le hz.1
  refine call_pure rfl rfl rfl rfl rfl ?_
  repeat (first
      | (refine exec_more ?_; first
          | refine exec_seq ?_
          | refine exec_region ?_
          | refine exec_block ?_
          | refine exec_skip ?_
          | refine exec_exit ?_
          | refine exec_ret ?_
          | refine exec_true rfl ?_
          | refine exec_false rfl ?_)
      | refine ops_nil ?_
      | (refine ops_more ?_; first
          | (apply ops_pl rfl rfl rfl ?_ rfl ?_; rotate_left; focus first | exact (.bld rfl rfl rfl rfl) | exact (.cat rfl rfl rfl (by first | (simp; done) | (simp; omega))) | exact (.neSelf rfl rfl rfl rfl) | exact (.eqSelf rfl rfl rfl rfl) | exact (.wr64 rfl rfl (by omega) (by omega)) | exact (.p rfl rfl) | exact (.cv64 rfl (fun _ => rfl) (by omega) (by omega)) | exact (.l rfl (fun _ _ => rfl)) | exact (.l rfl (look_own 0 rfl rfl rfl rfl)) | exact (.l rfl (look_own 1 rfl rfl rfl rfl)) | exact (.l rfl (look_own 2 rfl rfl rfl rfl)) | exact (.l rfl (look_own 3 rfl rfl rfl rfl)) | exact (.l rfl (look_agg 0 rfl rfl rfl rfl)) | exact (.l rfl (look_agg 1 rfl rfl rfl rfl)) | exact (.l rfl (look_agg 2 rfl rfl rfl rfl)) | exact (.l rfl (look_agg 3 rfl rfl rfl rfl)))
          | refine ops_skip rfl rfl rfl ?_
          | (refine ops_step rfl rfl rfl ?_; first | (refine step_box rfl rfl rfl (fun _ => ?_)) | (refine step_alloc rfl rfl rfl rfl (fun _ => ?_)) | (refine step_buildSliceF rfl rfl rfl rfl rfl rfl (fun _ => ?_)) | (refine step_map rfl (fun _ => ?_)) | (refine step_storeZ 0 rfl rfl rfl rfl rfl rfl rfl rfl rfl ?_) | (refine step_storeZ 1 rfl rfl rfl rfl rfl rfl rfl rfl rfl ?_) | (refine step_storeZ 2 rfl rfl rfl rfl rfl rfl rfl rfl rfl ?_))))
  refine ops_step rfl rfl rfl (step_call_pure rfl rfl rfl (fun H hs => call_known rfl) ?_)
  repeat (first
      | (refine exec_more ?_; first
          | refine exec_seq ?_
          | refine exec_region ?_
          | refine exec_block ?_
          | refine exec_skip ?_
          | refine exec_exit ?_
          | refine exec_ret ?_
          | refine exec_true rfl ?_
          | refine exec_false rfl ?_)
      | refine ops_nil ?_
      | (refine ops_more ?_; first
          | (apply ops_pl rfl rfl rfl ?_ rfl ?_; rotate_left; focus first | exact (.bld rfl rfl rfl rfl) | exact (.cat rfl rfl rfl (by first | (simp; done) | (simp; omega))) | exact (.neSelf rfl rfl rfl rfl) | exact (.eqSelf rfl rfl rfl rfl) | exact (.wr64 rfl rfl (by omega) (by omega)) | exact (.p rfl rfl) | exact (.cv64 rfl (fun _ => rfl) (by omega) (by omega)) | exact (.l rfl (fun _ _ => rfl)) | exact (.l rfl (look_own 0 rfl rfl rfl rfl)) | exact (.l rfl (look_own 1 rfl rfl rfl rfl)) | exact (.l rfl (look_own 2 rfl rfl rfl rfl)) | exact (.l rfl (look_own 3 rfl rfl rfl rfl)) | exact (.l rfl (look_agg 0 rfl rfl rfl rfl)) | exact (.l rfl (look_agg 1 rfl rfl rfl rfl)) | exact (.l rfl (look_agg 2 rfl rfl rfl rfl)) | exact (.l rfl (look_agg 3 rfl rfl rfl rfl)))
          | refine ops_skip rfl rfl rfl ?_
          | (refine ops_step rfl rfl rfl ?_; first | (refine step_box rfl rfl rfl (fun _ => ?_)) | (refine step_alloc rfl rfl rfl rfl (fun _ => ?_)) | (refine step_buildSliceF rfl rfl rfl rfl rfl rfl (fun _ => ?_)) | (refine step_map rfl (fun _ => ?_)) | (refine step_storeZ 0 rfl rfl rfl rfl rfl rfl rfl rfl rfl ?_) | (refine step_storeZ 1 rfl rfl rfl rfl rfl rfl rfl rfl rfl ?_) | (refine step_storeZ 2 rfl rfl rfl rfl rfl rfl rfl rfl rfl ?_))))
  refine ops_step rfl rfl rfl (step_call_fp [] _ rfl rfl rfl (List.Perm.refl _) (fun H hs hst => seatArchive_ok hst h0 h1 h2 h3) (fun v F' h => ?_))
  obtain ⟨aa, ac, m6, kd, c4, c5, c6, c7, c8, c9, c11, c12, c13, c14, c15, c16, c17, cl, rfl, hF, hper, hR, hZ⟩ := h
  have hm := tmA_ok (arc_entG hF hR hper)
  have hl13 : cl.length = 13 := by rw [hper.length_eq]; rfl
  refine ops_step rfl rfl rfl (step_call_fp [] _ rfl rfl rfl (List.Perm.refl _) (fun H hs hst => new_ok hst hl13 (by omega) ((hZ.mono (List.sublist_append_left _ _)).pure hs)) (fun v F2 h => ?_))
  obtain ⟨tb, mb, es, rfl, rfl, hsay⟩ := h
  obtain ⟨A, hA⟩ : ∃ A : Atoms, A = (some tb, .cells 0 [.map (some mb), .slice aa 13 ac] 0 78) :: (some mb, .map es) :: F' := ⟨_, rfl⟩
  have hT : Rd A fun H => TreeH O H tb mb (.slice aa 13 ac) (gOf cl) := fun X' H0' H' hst' => (hZ.at (hst'.sublist (by rw [hA]; exact List.Sublist.cons _ (List.Sublist.cons _ (List.Sublist.refl _))))).tree (fun c h => h) (hst'.has _ _ (by rw [hA]; simp)) (hst'.has _ _ (by rw [hA]; simp)) hsay
  refine OpsS.weak (pickE_sub (ks := [1, 2, 3, 18]) rfl) (L' := A) (by rw [hA]; exact List.Sublist.cons_cons _ (List.Sublist.cons_cons _ (List.sublist_append_left _ _))) ?_
  clear hA hsay hZ hR hper hF hl13
  generalize gOf cl = g at hm hT
  obtain ⟨q2, q3, q4, q6, q⟩ := fits_law m6 _ (lawT_mem n (by omega))
  obtain ⟨q5, q1⟩ := q _ (lawT_mem n2 (by omega))
  replace q1 : fitsB (tmA m6) (ofT n [65]) (ofT n2 [65]) = true → fitsB (tmA m6) (ofT n2 [65]) (ofT n3 [65]) = true → fitsB (tmA m6) (ofT n [65]) (ofT n3 [65]) = true := fun h => q1 h _ (lawT_mem n3 (by omega))
  clear q
  repeat (first
      | (refine exec_more ?_; first
          | refine exec_seq ?_
          | refine exec_region ?_
          | refine exec_block ?_
          | refine exec_skip ?_
          | refine exec_exit ?_
          | refine exec_ret ?_
          | refine exec_true rfl ?_
          | refine exec_false rfl ?_)
      | refine ops_nil ?_
      | (refine ops_more ?_; first
          | (apply ops_pl rfl rfl rfl ?_ rfl ?_; rotate_left; focus first | exact (.bld rfl rfl rfl rfl) | exact (.cat rfl rfl rfl (by first | (simp; done) | (simp; omega))) | exact (.neSelf rfl rfl rfl rfl) | exact (.eqSelf rfl rfl rfl rfl) | exact (.wr64 rfl rfl (by omega) (by omega)) | exact (.p rfl rfl) | exact (.cv64 rfl (fun _ => rfl) (by omega) (by omega)) | exact (.l rfl (fun _ _ => rfl)) | exact (.l rfl (look_own 0 rfl rfl rfl rfl)) | exact (.l rfl (look_own 1 rfl rfl rfl rfl)) | exact (.l rfl (look_own 2 rfl rfl rfl rfl)) | exact (.l rfl (look_own 3 rfl rfl rfl rfl)) | exact (.l rfl (look_agg 0 rfl rfl rfl rfl)) | exact (.l rfl (look_agg 1 rfl rfl rfl rfl)) | exact (.l rfl (look_agg 2 rfl rfl rfl rfl)) | exact (.l rfl (look_agg 3 rfl rfl rfl rfl)))
          | refine ops_skip rfl rfl rfl ?_
          | (refine ops_step rfl rfl rfl ?_; first | (refine step_box rfl rfl rfl (fun _ => ?_)) | (refine step_alloc rfl rfl rfl rfl (fun _ => ?_)) | (refine step_buildSliceF rfl rfl rfl rfl rfl rfl (fun _ => ?_)) | (refine step_map rfl (fun _ => ?_)) | (refine step_storeZ 0 rfl rfl rfl rfl rfl rfl rfl rfl rfl ?_) | (refine step_storeZ 1 rfl rfl rfl rfl rfl rfl rfl rfl rfl ?_) | (refine step_storeZ 2 rfl rfl rfl rfl rfl rfl rfl rfl rfl ?_))))
  refine ops_step rfl rfl rfl (step_call_pure rfl rfl rfl (fun H hs => lawOf_ok (n := n) (s := [65]) (by omega)) ?_)
  repeat (first
      | (refine exec_more ?_; first
          | refine exec_seq ?_
          | refine exec_region ?_
          | refine exec_block ?_
          | refine exec_skip ?_
          | refine exec_exit ?_
          | refine exec_ret ?_
          | refine exec_true rfl ?_
          | refine exec_false rfl ?_)
      | refine ops_nil ?_
      | (refine ops_more ?_; first
          | (apply ops_pl rfl rfl rfl ?_ rfl ?_; rotate_left; focus first | exact (.bld rfl rfl rfl rfl) | exact (.cat rfl rfl rfl (by first | (simp; done) | (simp; omega))) | exact (.neSelf rfl rfl rfl rfl) | exact (.eqSelf rfl rfl rfl rfl) | exact (.wr64 rfl rfl (by omega) (by omega)) | exact (.p rfl rfl) | exact (.cv64 rfl (fun _ => rfl) (by omega) (by omega)) | exact (.l rfl (fun _ _ => rfl)) | exact (.l rfl (look_own 0 rfl rfl rfl rfl)) | exact (.l rfl (look_own 1 rfl rfl rfl rfl)) | exact (.l rfl (look_own 2 rfl rfl rfl rfl)) | exact (.l rfl (look_own 3 rfl rfl rfl rfl)) | exact (.l rfl (look_agg 0 rfl rfl rfl rfl)) | exact (.l rfl (look_agg 1 rfl rfl rfl rfl)) | exact (.l rfl (look_agg 2 rfl rfl rfl rfl)) | exact (.l rfl (look_agg 3 rfl rfl rfl rfl)))
          | refine ops_skip rfl rfl rfl ?_
          | (refine ops_step rfl rfl rfl ?_; first | (refine step_box rfl rfl rfl (fun _ => ?_)) | (refine step_alloc rfl rfl rfl rfl (fun _ => ?_)) | (refine step_buildSliceF rfl rfl rfl rfl rfl rfl (fun _ => ?_)) | (refine step_map rfl (fun _ => ?_)) | (refine step_storeZ 0 rfl rfl rfl rfl rfl rfl rfl rfl rfl ?_) | (refine step_storeZ 1 rfl rfl rfl rfl rfl rfl rfl rfl rfl ?_) | (refine step_storeZ 2 rfl rfl rfl rfl rfl rfl rfl rfl rfl ?_))))
  refine ops_step rfl rfl rfl (step_call_pure rfl rfl rfl (fun H hs => lawOf_ok (n := n2) (s := [65]) (by omega)) ?_)
  repeat (first
      | (refine exec_more ?_; first
          | refine exec_seq ?_
          | refine exec_region ?_
          | refine exec_block ?_
          | refine exec_skip ?_
          | refine exec_exit ?_
          | refine exec_ret ?_
          | refine exec_true rfl ?_
          | refine exec_false rfl ?_)
      | refine ops_nil ?_
      | (refine ops_more ?_; first
          | (apply ops_pl rfl rfl rfl ?_ rfl ?_; rotate_left; focus first | exact (.bld rfl rfl rfl rfl) | exact (.cat rfl rfl rfl (by first | (simp; done) | (simp; omega))) | exact (.neSelf rfl rfl rfl rfl) | exact (.eqSelf rfl rfl rfl rfl) | exact (.wr64 rfl rfl (by omega) (by omega)) | exact (.p rfl rfl) | exact (.cv64 rfl (fun _ => rfl) (by omega) (by omega)) | exact (.l rfl (fun _ _ => rfl)) | exact (.l rfl (look_own 0 rfl rfl rfl rfl)) | exact (.l rfl (look_own 1 rfl rfl rfl rfl)) | exact (.l rfl (look_own 2 rfl rfl rfl rfl)) | exact (.l rfl (look_own 3 rfl rfl rfl rfl)) | exact (.l rfl (look_agg 0 rfl rfl rfl rfl)) | exact (.l rfl (look_agg 1 rfl rfl rfl rfl)) | exact (.l rfl (look_agg 2 rfl rfl rfl rfl)) | exact (.l rfl (look_agg 3 rfl rfl rfl rfl)))
          | refine ops_skip rfl rfl rfl ?_
          | (refine ops_step rfl rfl rfl ?_; first | (refine step_box rfl rfl rfl (fun _ => ?_)) | (refine step_alloc rfl rfl rfl rfl (fun _ => ?_)) | (refine step_buildSliceF rfl rfl rfl rfl rfl rfl (fun _ => ?_)) | (refine step_map rfl (fun _ => ?_)) | (refine step_storeZ 0 rfl rfl rfl rfl rfl rfl rfl rfl rfl ?_) | (refine step_storeZ 1 rfl rfl rfl rfl rfl rfl rfl rfl rfl ?_) | (refine step_storeZ 2 rfl rfl rfl rfl rfl rfl rfl rfl rfl ?_))))
  refine ops_step rfl rfl rfl (step_call_pure rfl rfl rfl (fun H hs => lawOf_ok (n := n3) (s := [65]) (by omega)) ?_)
  generalize ofT n [65] = a at q1 q2 q3 q4 q5 q6
  generalize ofT n2 [65] = b at q1 q5
  generalize ofT n3 [65] = c at q1
  repeat (first
      | (refine exec_more ?_; first
          | refine exec_seq ?_
          | refine exec_region ?_
          | refine exec_block ?_
          | refine exec_skip ?_
          | refine exec_exit ?_
          | refine exec_ret ?_
          | refine exec_true rfl ?_
          | refine exec_false rfl ?_)
      | refine ops_nil ?_
      | (refine ops_more ?_; first
          | (apply ops_pl rfl rfl rfl ?_ rfl ?_; rotate_left; focus first | exact (.bld rfl rfl rfl rfl) | exact (.cat rfl rfl rfl (by first | (simp; done) | (simp; omega))) | exact (.neSelf rfl rfl rfl rfl) | exact (.eqSelf rfl rfl rfl rfl) | exact (.wr64 rfl rfl (by omega) (by omega)) | exact (.p rfl rfl) | exact (.cv64 rfl (fun _ => rfl) (by omega) (by omega)) | exact (.l rfl (fun _ _ => rfl)) | exact (.l rfl (look_own 0 rfl rfl rfl rfl)) | exact (.l rfl (look_own 1 rfl rfl rfl rfl)) | exact (.l rfl (look_own 2 rfl rfl rfl rfl)) | exact (.l rfl (look_own 3 rfl rfl rfl rfl)) | exact (.l rfl (look_agg 0 rfl rfl rfl rfl)) | exact (.l rfl (look_agg 1 rfl rfl rfl rfl)) | exact (.l rfl (look_agg 2 rfl rfl rfl rfl)) | exact (.l rfl (look_agg 3 rfl rfl rfl rfl)))
          | refine ops_skip rfl rfl rfl ?_
          | (refine ops_step rfl rfl rfl ?_; first | (refine step_box rfl rfl rfl (fun _ => ?_)) | (refine step_alloc rfl rfl rfl rfl (fun _ => ?_)) | (refine step_buildSliceF rfl rfl rfl rfl rfl rfl (fun _ => ?_)) | (refine step_map rfl (fun _ => ?_)) | (refine step_storeZ 0 rfl rfl rfl rfl rfl rfl rfl rfl rfl ?_) | (refine step_storeZ 1 rfl rfl rfl rfl rfl rfl rfl rfl rfl ?_) | (refine step_storeZ 2 rfl rfl rfl rfl rfl rfl rfl rfl rfl ?_))))
  have htt : decide (topT = topT) = true := decide_eq_true rfl

  refine exec_draw (lst := [(0, 0), (1, 0), (2, 0), (3, 7), (4, 15), (5, 31), (6, 63), (7, 63), (8, 63), (9, 511), (10, 1023), (11, 2047), (12, 4095), (13, 8191), (14, 8191), (15, 8191), (16, 65535), (17, 131071), (18, 262143), (19, 524287), (20, 524287), (21, 524287), (23, 524287), (24, 524287), (25, 25690111), (22, 4194303), (26, 67108863), (27, 134217727), (28, 268435455), (29, 536870911), (30, 536870911), (31, 536870911), (32, 4294967295), (33, 8589934591), (34, 17179869183), (35, 34359738367), (36, 68719476735), (37, 68719476735), (38, 68719476735), (39, 549755813887), (40, 1099511627775), (41, 2199023255551), (42, 4398046511103), (43, 8796093022207), (44, 17592186044415), (45, 35184372088831), (46, 70368744177663), (47, 140737488355327), (48, 140737488355327), (49, 140737488355327), (50, 1125899906842623), (51, 2251799813685247), (52, 4503599627370495), (53, 9007199254740991), (54, 18014398509481983), (55, 36028797018963967), (56, 72057594037927935), (57, 144115188075855871), (58, 288230376151711743), (59, 576460752303423487), (60, 576460752303423487), (61, 576460752303423487), (63, 576460752303423487), (62, 4611686018427387903), (64, 18446744073709551615), (65, 36893488147419103231), (66, 73786976294838206463)]) (full := 147573952589676412927) (by kernel_rfl) (by kernel_rfl) (by kernel_rfl) (by kernel_rfl) ?_
  repeat (first
      | (refine draw_more ?_; first
          | (apply draw_pl rfl rfl rfl rfl ?_ rfl rfl ?_; rotate_left; focus first | exact (.neSelf rfl rfl rfl rfl) | exact (.eqSelf rfl rfl rfl rfl) | exact (.p rfl rfl) | exact (.l rfl (fun _ _ => rfl)) | exact (.l rfl (look_agg 0 rfl rfl rfl rfl)) | exact (.l rfl (look_agg 1 rfl rfl rfl rfl)) | exact (.l rfl (look_agg 2 rfl rfl rfl rfl)) | exact (.l rfl (look_agg 3 rfl rfl rfl rfl)))
          | refine draw_skip rfl rfl rfl rfl ?_))
  try refine draw_nil ?_
  refine draw_w rfl rfl rfl rfl rfl rfl (step_call_pure rfl rfl rfl (fun H hs => fits_ok (a := a) (b := b) hm ((hT.mono (by repeat first | exact List.Sublist.refl _ | apply List.Sublist.cons)).pure hs)) ⟨by repeat (first | exact True.intro | refine And.intro (.inl rfl) ?_ | refine And.intro (.inr ⟨veq_refl rfl, (fun _ _ => rfl)⟩) ?_ | refine And.intro (.inr ⟨veq_refl rfl, (look_agg 0 rfl rfl rfl rfl)⟩) ?_ | refine And.intro (.inr ⟨veq_refl rfl, (look_agg 1 rfl rfl rfl rfl)⟩) ?_ | refine And.intro (.inr ⟨veq_refl rfl, (look_agg 2 rfl rfl rfl rfl)⟩) ?_ | refine And.intro (.inr ⟨veq_refl rfl, (look_agg 3 rfl rfl rfl rfl)⟩) ?_), ?_⟩)
  cases f1 : fitsB (tmA m6) a b
  · skip
    repeat (first
        | (refine draw_more ?_; first
            | (apply draw_pl rfl rfl rfl rfl ?_ rfl rfl ?_; rotate_left; focus first | exact (.neSelf rfl rfl rfl rfl) | exact (.eqSelf rfl rfl rfl rfl) | exact (.p rfl rfl) | exact (.l rfl (fun _ _ => rfl)) | exact (.l rfl (look_agg 0 rfl rfl rfl rfl)) | exact (.l rfl (look_agg 1 rfl rfl rfl rfl)) | exact (.l rfl (look_agg 2 rfl rfl rfl rfl)) | exact (.l rfl (look_agg 3 rfl rfl rfl rfl)))
            | refine draw_skip rfl rfl rfl rfl ?_))
    try refine draw_nil ?_
    first | refine ops_pl rfl rfl rfl (PL.neqTyp (a := a) (b := topT) rfl rfl rfl) rfl ?_ | refine draw_pl rfl rfl rfl rfl (PL.neqTyp (a := a) (b := topT) rfl rfl rfl) rfl rfl ?_
    repeat (first
        | (refine draw_more ?_; first
            | (apply draw_pl rfl rfl rfl rfl ?_ rfl rfl ?_; rotate_left; focus first | exact (.neSelf rfl rfl rfl rfl) | exact (.eqSelf rfl rfl rfl rfl) | exact (.p rfl rfl) | exact (.l rfl (fun _ _ => rfl)) | exact (.l rfl (look_agg 0 rfl rfl rfl rfl)) | exact (.l rfl (look_agg 1 rfl rfl rfl rfl)) | exact (.l rfl (look_agg 2 rfl rfl rfl rfl)) | exact (.l rfl (look_agg 3 rfl rfl rfl rfl)))
            | refine draw_skip rfl rfl rfl rfl ?_))
    try refine draw_nil ?_
    refine draw_w rfl rfl rfl rfl rfl rfl (step_call_pure rfl rfl rfl (fun H hs => fits_ok (a := a) (b := a) hm ((hT.mono (by repeat first | exact List.Sublist.refl _ | apply List.Sublist.cons)).pure hs)) ⟨by repeat (first | exact True.intro | refine And.intro (.inl rfl) ?_ | refine And.intro (.inr ⟨veq_refl rfl, (fun _ _ => rfl)⟩) ?_ | refine And.intro (.inr ⟨veq_refl rfl, (look_agg 0 rfl rfl rfl rfl)⟩) ?_ | refine And.intro (.inr ⟨veq_refl rfl, (look_agg 1 rfl rfl rfl rfl)⟩) ?_ | refine And.intro (.inr ⟨veq_refl rfl, (look_agg 2 rfl rfl rfl rfl)⟩) ?_ | refine And.intro (.inr ⟨veq_refl rfl, (look_agg 3 rfl rfl rfl rfl)⟩) ?_), ?_⟩)
    rw [q2]
    repeat (first
        | (refine draw_more ?_; first
            | (apply draw_pl rfl rfl rfl rfl ?_ rfl rfl ?_; rotate_left; focus first | exact (.neSelf rfl rfl rfl rfl) | exact (.eqSelf rfl rfl rfl rfl) | exact (.p rfl rfl) | exact (.l rfl (fun _ _ => rfl)) | exact (.l rfl (look_agg 0 rfl rfl rfl rfl)) | exact (.l rfl (look_agg 1 rfl rfl rfl rfl)) | exact (.l rfl (look_agg 2 rfl rfl rfl rfl)) | exact (.l rfl (look_agg 3 rfl rfl rfl rfl)))
            | refine draw_skip rfl rfl rfl rfl ?_))
    try refine draw_nil ?_
    refine draw_w rfl rfl rfl rfl rfl rfl (step_call_pure rfl rfl rfl (fun H hs => fits_ok (a := a) (b := topT) hm ((hT.mono (by repeat first | exact List.Sublist.refl _ | apply List.Sublist.cons)).pure hs)) ⟨by repeat (first | exact True.intro | refine And.intro (.inl rfl) ?_ | refine And.intro (.inr ⟨veq_refl rfl, (fun _ _ => rfl)⟩) ?_ | refine And.intro (.inr ⟨veq_refl rfl, (look_agg 0 rfl rfl rfl rfl)⟩) ?_ | refine And.intro (.inr ⟨veq_refl rfl, (look_agg 1 rfl rfl rfl rfl)⟩) ?_ | refine And.intro (.inr ⟨veq_refl rfl, (look_agg 2 rfl rfl rfl rfl)⟩) ?_ | refine And.intro (.inr ⟨veq_refl rfl, (look_agg 3 rfl rfl rfl rfl)⟩) ?_), ?_⟩)
    rw [q3]
    repeat (first
        | (refine draw_more ?_; first
            | (apply draw_pl rfl rfl rfl rfl ?_ rfl rfl ?_; rotate_left; focus first | exact (.neSelf rfl rfl rfl rfl) | exact (.eqSelf rfl rfl rfl rfl) | exact (.p rfl rfl) | exact (.l rfl (fun _ _ => rfl)) | exact (.l rfl (look_agg 0 rfl rfl rfl rfl)) | exact (.l rfl (look_agg 1 rfl rfl rfl rfl)) | exact (.l rfl (look_agg 2 rfl rfl rfl rfl)) | exact (.l rfl (look_agg 3 rfl rfl rfl rfl)))
            | refine draw_skip rfl rfl rfl rfl ?_))
    try refine draw_nil ?_
    refine draw_w rfl rfl rfl rfl rfl rfl (step_call_pure rfl rfl rfl (fun H hs => fits_ok (a := topT) (b := a) hm ((hT.mono (by repeat first | exact List.Sublist.refl _ | apply List.Sublist.cons)).pure hs)) ⟨by repeat (first | exact True.intro | refine And.intro (.inl rfl) ?_ | refine And.intro (.inr ⟨veq_refl rfl, (fun _ _ => rfl)⟩) ?_ | refine And.intro (.inr ⟨veq_refl rfl, (look_agg 0 rfl rfl rfl rfl)⟩) ?_ | refine And.intro (.inr ⟨veq_refl rfl, (look_agg 1 rfl rfl rfl rfl)⟩) ?_ | refine And.intro (.inr ⟨veq_refl rfl, (look_agg 2 rfl rfl rfl rfl)⟩) ?_ | refine And.intro (.inr ⟨veq_refl rfl, (look_agg 3 rfl rfl rfl rfl)⟩) ?_), ?_⟩)
    rw [q4]
    repeat (first
        | (refine draw_more ?_; first
            | (apply draw_pl rfl rfl rfl rfl ?_ rfl rfl ?_; rotate_left; focus first | exact (.neSelf rfl rfl rfl rfl) | exact (.eqSelf rfl rfl rfl rfl) | exact (.p rfl rfl) | exact (.l rfl (fun _ _ => rfl)) | exact (.l rfl (look_agg 0 rfl rfl rfl rfl)) | exact (.l rfl (look_agg 1 rfl rfl rfl rfl)) | exact (.l rfl (look_agg 2 rfl rfl rfl rfl)) | exact (.l rfl (look_agg 3 rfl rfl rfl rfl)))
            | refine draw_skip rfl rfl rfl rfl ?_))
    try refine draw_nil ?_
    refine draw_w rfl rfl rfl rfl rfl rfl (step_call_pure rfl rfl rfl (fun H hs => refers_ok (a := a)) ⟨by repeat (first | exact True.intro | refine And.intro (.inl rfl) ?_ | refine And.intro (.inr ⟨veq_refl rfl, (fun _ _ => rfl)⟩) ?_ | refine And.intro (.inr ⟨veq_refl rfl, (look_agg 0 rfl rfl rfl rfl)⟩) ?_ | refine And.intro (.inr ⟨veq_refl rfl, (look_agg 1 rfl rfl rfl rfl)⟩) ?_ | refine And.intro (.inr ⟨veq_refl rfl, (look_agg 2 rfl rfl rfl rfl)⟩) ?_ | refine And.intro (.inr ⟨veq_refl rfl, (look_agg 3 rfl rfl rfl rfl)⟩) ?_), ?_⟩)
    cases f3 : refersB a
    · skip
      repeat (first
          | (refine draw_more ?_; first
              | (apply draw_pl rfl rfl rfl rfl ?_ rfl rfl ?_; rotate_left; focus first | exact (.neSelf rfl rfl rfl rfl) | exact (.eqSelf rfl rfl rfl rfl) | exact (.p rfl rfl) | exact (.l rfl (fun _ _ => rfl)) | exact (.l rfl (look_agg 0 rfl rfl rfl rfl)) | exact (.l rfl (look_agg 1 rfl rfl rfl rfl)) | exact (.l rfl (look_agg 2 rfl rfl rfl rfl)) | exact (.l rfl (look_agg 3 rfl rfl rfl rfl)))
              | refine draw_skip rfl rfl rfl rfl ?_))
      try refine draw_nil ?_
      refine draw_w rfl rfl rfl rfl rfl rfl (step_call_pure rfl rfl rfl (fun H hs => join_ok (a := a) (b := topT) hm ((hT.mono (by repeat first | exact List.Sublist.refl _ | apply List.Sublist.cons)).pure hs)) ⟨by repeat (first | exact True.intro | refine And.intro (.inl rfl) ?_ | refine And.intro (.inr ⟨veq_refl rfl, (fun _ _ => rfl)⟩) ?_ | refine And.intro (.inr ⟨veq_refl rfl, (look_agg 0 rfl rfl rfl rfl)⟩) ?_ | refine And.intro (.inr ⟨veq_refl rfl, (look_agg 1 rfl rfl rfl rfl)⟩) ?_ | refine And.intro (.inr ⟨veq_refl rfl, (look_agg 2 rfl rfl rfl rfl)⟩) ?_ | refine And.intro (.inr ⟨veq_refl rfl, (look_agg 3 rfl rfl rfl rfl)⟩) ?_), ?_⟩)
      rw [q6]
      repeat (first
          | (refine draw_more ?_; first
              | (apply draw_pl rfl rfl rfl rfl ?_ rfl rfl ?_; rotate_left; focus first | exact (.neSelf rfl rfl rfl rfl) | exact (.eqSelf rfl rfl rfl rfl) | exact (.p rfl rfl) | exact (.l rfl (fun _ _ => rfl)) | exact (.l rfl (look_agg 0 rfl rfl rfl rfl)) | exact (.l rfl (look_agg 1 rfl rfl rfl rfl)) | exact (.l rfl (look_agg 2 rfl rfl rfl rfl)) | exact (.l rfl (look_agg 3 rfl rfl rfl rfl)))
              | refine draw_skip rfl rfl rfl rfl ?_))
      try refine draw_nil ?_
      repeat (first
          | (refine exec_more ?_; first
              | refine exec_seq ?_
              | refine exec_region ?_
              | refine exec_block ?_
              | refine exec_skip ?_
              | refine exec_exit ?_
              | refine exec_ret ?_
              | refine exec_true rfl ?_
              | refine exec_false rfl ?_)
          | refine ops_nil ?_
          | (refine ops_more ?_; first
              | (apply ops_pl rfl rfl rfl ?_ rfl ?_; rotate_left; focus first | exact (.neSelf rfl rfl rfl rfl) | exact (.eqSelf rfl rfl rfl rfl) | exact (.p rfl rfl) | exact (.l rfl (fun _ _ => rfl)) | exact (.l rfl (look_agg 0 rfl rfl rfl rfl)) | exact (.l rfl (look_agg 1 rfl rfl rfl rfl)) | exact (.l rfl (look_agg 2 rfl rfl rfl rfl)) | exact (.l rfl (look_agg 3 rfl rfl rfl rfl)))
              | refine ops_skip rfl rfl rfl ?_
              | (refine ops_step rfl rfl rfl ?_; first | (refine step_box rfl rfl rfl (fun _ => ?_)) | (refine step_alloc rfl rfl rfl rfl (fun _ => ?_)) | (refine step_buildSliceF rfl rfl rfl rfl rfl rfl (fun _ => ?_)) | (refine step_map rfl (fun _ => ?_)) | (refine step_storeZ 0 rfl rfl rfl rfl rfl rfl rfl rfl rfl ?_) | (refine step_storeZ 1 rfl rfl rfl rfl rfl rfl rfl rfl rfl ?_) | (refine step_storeZ 2 rfl rfl rfl rfl rfl rfl rfl rfl rfl ?_))))
      exact ⟨trivial, _, rfl, rfl⟩
    repeat (first
        | (refine draw_more ?_; first
            | (apply draw_pl rfl rfl rfl rfl ?_ rfl rfl ?_; rotate_left; focus first | exact (.neSelf rfl rfl rfl rfl) | exact (.eqSelf rfl rfl rfl rfl) | exact (.p rfl rfl) | exact (.l rfl (fun _ _ => rfl)) | exact (.l rfl (look_agg 0 rfl rfl rfl rfl)) | exact (.l rfl (look_agg 1 rfl rfl rfl rfl)) | exact (.l rfl (look_agg 2 rfl rfl rfl rfl)) | exact (.l rfl (look_agg 3 rfl rfl rfl rfl)))
            | refine draw_skip rfl rfl rfl rfl ?_))
    try refine draw_nil ?_
    refine draw_w rfl rfl rfl rfl rfl rfl (step_call_pure rfl rfl rfl (fun H hs => fits_ok (a := b) (b := a) hm ((hT.mono (by repeat first | exact List.Sublist.refl _ | apply List.Sublist.cons)).pure hs)) ⟨by repeat (first | exact True.intro | refine And.intro (.inl rfl) ?_ | refine And.intro (.inr ⟨veq_refl rfl, (fun _ _ => rfl)⟩) ?_ | refine And.intro (.inr ⟨veq_refl rfl, (look_agg 0 rfl rfl rfl rfl)⟩) ?_ | refine And.intro (.inr ⟨veq_refl rfl, (look_agg 1 rfl rfl rfl rfl)⟩) ?_ | refine And.intro (.inr ⟨veq_refl rfl, (look_agg 2 rfl rfl rfl rfl)⟩) ?_ | refine And.intro (.inr ⟨veq_refl rfl, (look_agg 3 rfl rfl rfl rfl)⟩) ?_), ?_⟩)
    cases f4 : fitsB (tmA m6) b a
    · skip
      repeat (first
          | (refine draw_more ?_; first
              | (apply draw_pl rfl rfl rfl rfl ?_ rfl rfl ?_; rotate_left; focus first | exact (.neSelf rfl rfl rfl rfl) | exact (.eqSelf rfl rfl rfl rfl) | exact (.p rfl rfl) | exact (.l rfl (fun _ _ => rfl)) | exact (.l rfl (look_agg 0 rfl rfl rfl rfl)) | exact (.l rfl (look_agg 1 rfl rfl rfl rfl)) | exact (.l rfl (look_agg 2 rfl rfl rfl rfl)) | exact (.l rfl (look_agg 3 rfl rfl rfl rfl)))
              | refine draw_skip rfl rfl rfl rfl ?_))
      try refine draw_nil ?_
      refine draw_w rfl rfl rfl rfl rfl rfl (step_call_pure rfl rfl rfl (fun H hs => join_ok (a := a) (b := topT) hm ((hT.mono (by repeat first | exact List.Sublist.refl _ | apply List.Sublist.cons)).pure hs)) ⟨by repeat (first | exact True.intro | refine And.intro (.inl rfl) ?_ | refine And.intro (.inr ⟨veq_refl rfl, (fun _ _ => rfl)⟩) ?_ | refine And.intro (.inr ⟨veq_refl rfl, (look_agg 0 rfl rfl rfl rfl)⟩) ?_ | refine And.intro (.inr ⟨veq_refl rfl, (look_agg 1 rfl rfl rfl rfl)⟩) ?_ | refine And.intro (.inr ⟨veq_refl rfl, (look_agg 2 rfl rfl rfl rfl)⟩) ?_ | refine And.intro (.inr ⟨veq_refl rfl, (look_agg 3 rfl rfl rfl rfl)⟩) ?_), ?_⟩)
      rw [q6]
      repeat (first
          | (refine draw_more ?_; first
              | (apply draw_pl rfl rfl rfl rfl ?_ rfl rfl ?_; rotate_left; focus first | exact (.neSelf rfl rfl rfl rfl) | exact (.eqSelf rfl rfl rfl rfl) | exact (.p rfl rfl) | exact (.l rfl (fun _ _ => rfl)) | exact (.l rfl (look_agg 0 rfl rfl rfl rfl)) | exact (.l rfl (look_agg 1 rfl rfl rfl rfl)) | exact (.l rfl (look_agg 2 rfl rfl rfl rfl)) | exact (.l rfl (look_agg 3 rfl rfl rfl rfl)))
              | refine draw_skip rfl rfl rfl rfl ?_))
      try refine draw_nil ?_
      repeat (first
          | (refine exec_more ?_; first
              | refine exec_seq ?_
              | refine exec_region ?_
              | refine exec_block ?_
              | refine exec_skip ?_
              | refine exec_exit ?_
              | refine exec_ret ?_
              | refine exec_true rfl ?_
              | refine exec_false rfl ?_)
          | refine ops_nil ?_
          | (refine ops_more ?_; first
              | (apply ops_pl rfl rfl rfl ?_ rfl ?_; rotate_left; focus first | exact (.neSelf rfl rfl rfl rfl) | exact (.eqSelf rfl rfl rfl rfl) | exact (.p rfl rfl) | exact (.l rfl (fun _ _ => rfl)) | exact (.l rfl (look_agg 0 rfl rfl rfl rfl)) | exact (.l rfl (look_agg 1 rfl rfl rfl rfl)) | exact (.l rfl (look_agg 2 rfl rfl rfl rfl)) | exact (.l rfl (look_agg 3 rfl rfl rfl rfl)))
              | refine ops_skip rfl rfl rfl ?_
              | (refine ops_step rfl rfl rfl ?_; first | (refine step_box rfl rfl rfl (fun _ => ?_)) | (refine step_alloc rfl rfl rfl rfl (fun _ => ?_)) | (refine step_buildSliceF rfl rfl rfl rfl rfl rfl (fun _ => ?_)) | (refine step_map rfl (fun _ => ?_)) | (refine step_storeZ 0 rfl rfl rfl rfl rfl rfl rfl rfl rfl ?_) | (refine step_storeZ 1 rfl rfl rfl rfl rfl rfl rfl rfl rfl ?_) | (refine step_storeZ 2 rfl rfl rfl rfl rfl rfl rfl rfl rfl ?_))))
      exact ⟨trivial, _, rfl, rfl⟩
    repeat (first
        | (refine draw_more ?_; first
            | (apply draw_pl rfl rfl rfl rfl ?_ rfl rfl ?_; rotate_left; focus first | exact (.neSelf rfl rfl rfl rfl) | exact (.eqSelf rfl rfl rfl rfl) | exact (.p rfl rfl) | exact (.l rfl (fun _ _ => rfl)) | exact (.l rfl (look_agg 0 rfl rfl rfl rfl)) | exact (.l rfl (look_agg 1 rfl rfl rfl rfl)) | exact (.l rfl (look_agg 2 rfl rfl rfl rfl)) | exact (.l rfl (look_agg 3 rfl rfl rfl rfl)))
            | refine draw_skip rfl rfl rfl rfl ?_))
    try refine draw_nil ?_
    refine draw_w rfl rfl rfl rfl rfl rfl (step_call_pure rfl rfl rfl (fun H hs => refers_ok (a := b)) ⟨by repeat (first | exact True.intro | refine And.intro (.inl rfl) ?_ | refine And.intro (.inr ⟨veq_refl rfl, (fun _ _ => rfl)⟩) ?_ | refine And.intro (.inr ⟨veq_refl rfl, (look_agg 0 rfl rfl rfl rfl)⟩) ?_ | refine And.intro (.inr ⟨veq_refl rfl, (look_agg 1 rfl rfl rfl rfl)⟩) ?_ | refine And.intro (.inr ⟨veq_refl rfl, (look_agg 2 rfl rfl rfl rfl)⟩) ?_ | refine And.intro (.inr ⟨veq_refl rfl, (look_agg 3 rfl rfl rfl rfl)⟩) ?_), ?_⟩)
    rw [q5 f4 f3]
    repeat (first
        | (refine draw_more ?_; first
            | (apply draw_pl rfl rfl rfl rfl ?_ rfl rfl ?_; rotate_left; focus first | exact (.neSelf rfl rfl rfl rfl) | exact (.eqSelf rfl rfl rfl rfl) | exact (.p rfl rfl) | exact (.l rfl (fun _ _ => rfl)) | exact (.l rfl (look_agg 0 rfl rfl rfl rfl)) | exact (.l rfl (look_agg 1 rfl rfl rfl rfl)) | exact (.l rfl (look_agg 2 rfl rfl rfl rfl)) | exact (.l rfl (look_agg 3 rfl rfl rfl rfl)))
            | refine draw_skip rfl rfl rfl rfl ?_))
    try refine draw_nil ?_
    refine draw_w rfl rfl rfl rfl rfl rfl (step_call_pure rfl rfl rfl (fun H hs => join_ok (a := a) (b := topT) hm ((hT.mono (by repeat first | exact List.Sublist.refl _ | apply List.Sublist.cons)).pure hs)) ⟨by repeat (first | exact True.intro | refine And.intro (.inl rfl) ?_ | refine And.intro (.inr ⟨veq_refl rfl, (fun _ _ => rfl)⟩) ?_ | refine And.intro (.inr ⟨veq_refl rfl, (look_agg 0 rfl rfl rfl rfl)⟩) ?_ | refine And.intro (.inr ⟨veq_refl rfl, (look_agg 1 rfl rfl rfl rfl)⟩) ?_ | refine And.intro (.inr ⟨veq_refl rfl, (look_agg 2 rfl rfl rfl rfl)⟩) ?_ | refine And.intro (.inr ⟨veq_refl rfl, (look_agg 3 rfl rfl rfl rfl)⟩) ?_), ?_⟩)
    rw [q6]
    repeat (first
        | (refine draw_more ?_; first
            | (apply draw_pl rfl rfl rfl rfl ?_ rfl rfl ?_; rotate_left; focus first | exact (.neSelf rfl rfl rfl rfl) | exact (.eqSelf rfl rfl rfl rfl) | exact (.p rfl rfl) | exact (.l rfl (fun _ _ => rfl)) | exact (.l rfl (look_agg 0 rfl rfl rfl rfl)) | exact (.l rfl (look_agg 1 rfl rfl rfl rfl)) | exact (.l rfl (look_agg 2 rfl rfl rfl rfl)) | exact (.l rfl (look_agg 3 rfl rfl rfl rfl)))
            | refine draw_skip rfl rfl rfl rfl ?_))
    try refine draw_nil ?_
    repeat (first
        | (refine exec_more ?_; first
            | refine exec_seq ?_
            | refine exec_region ?_
            | refine exec_block ?_
            | refine exec_skip ?_
            | refine exec_exit ?_
            | refine exec_ret ?_
            | refine exec_true rfl ?_
            | refine exec_false rfl ?_)
        | refine ops_nil ?_
        | (refine ops_more ?_; first
            | (apply ops_pl rfl rfl rfl ?_ rfl ?_; rotate_left; focus first | exact (.neSelf rfl rfl rfl rfl) | exact (.eqSelf rfl rfl rfl rfl) | exact (.p rfl rfl) | exact (.l rfl (fun _ _ => rfl)) | exact (.l rfl (look_agg 0 rfl rfl rfl rfl)) | exact (.l rfl (look_agg 1 rfl rfl rfl rfl)) | exact (.l rfl (look_agg 2 rfl rfl rfl rfl)) | exact (.l rfl (look_agg 3 rfl rfl rfl rfl)))
            | refine ops_skip rfl rfl rfl ?_
            | (refine ops_step rfl rfl rfl ?_; first | (refine step_box rfl rfl rfl (fun _ => ?_)) | (refine step_alloc rfl rfl rfl rfl (fun _ => ?_)) | (refine step_buildSliceF rfl rfl rfl rfl rfl rfl (fun _ => ?_)) | (refine step_map rfl (fun _ => ?_)) | (refine step_storeZ 0 rfl rfl rfl rfl rfl rfl rfl rfl rfl ?_) | (refine step_storeZ 1 rfl rfl rfl rfl rfl rfl rfl rfl rfl ?_) | (refine step_storeZ 2 rfl rfl rfl rfl rfl rfl rfl rfl rfl ?_))))
    exact ⟨trivial, _, rfl, rfl⟩
  repeat (first
      | (refine draw_more ?_; first
          | (apply draw_pl rfl rfl rfl rfl ?_ rfl rfl ?_; rotate_left; focus first | exact (.neSelf rfl rfl rfl rfl) | exact (.eqSelf rfl rfl rfl rfl) | exact (.p rfl rfl) | exact (.l rfl (fun _ _ => rfl)) | exact (.l rfl (look_agg 0 rfl rfl rfl rfl)) | exact (.l rfl (look_agg 1 rfl rfl rfl rfl)) | exact (.l rfl (look_agg 2 rfl rfl rfl rfl)) | exact (.l rfl (look_agg 3 rfl rfl rfl rfl)))
          | refine draw_skip rfl rfl rfl rfl ?_))
  try refine draw_nil ?_
  refine draw_w rfl rfl rfl rfl rfl rfl (step_call_pure rfl rfl rfl (fun H hs => fits_ok (a := b) (b := c) hm ((hT.mono (by repeat first | exact List.Sublist.refl _ | apply List.Sublist.cons)).pure hs)) ⟨by repeat (first | exact True.intro | refine And.intro (.inl rfl) ?_ | refine And.intro (.inr ⟨veq_refl rfl, (fun _ _ => rfl)⟩) ?_ | refine And.intro (.inr ⟨veq_refl rfl, (look_agg 0 rfl rfl rfl rfl)⟩) ?_ | refine And.intro (.inr ⟨veq_refl rfl, (look_agg 1 rfl rfl rfl rfl)⟩) ?_ | refine And.intro (.inr ⟨veq_refl rfl, (look_agg 2 rfl rfl rfl rfl)⟩) ?_ | refine And.intro (.inr ⟨veq_refl rfl, (look_agg 3 rfl rfl rfl rfl)⟩) ?_), ?_⟩)
  cases f2 : fitsB (tmA m6) b c
  · skip
    repeat (first
        | (refine draw_more ?_; first
            | (apply draw_pl rfl rfl rfl rfl ?_ rfl rfl ?_; rotate_left; focus first | exact (.neSelf rfl rfl rfl rfl) | exact (.eqSelf rfl rfl rfl rfl) | exact (.p rfl rfl) | exact (.l rfl (fun _ _ => rfl)) | exact (.l rfl (look_agg 0 rfl rfl rfl rfl)) | exact (.l rfl (look_agg 1 rfl rfl rfl rfl)) | exact (.l rfl (look_agg 2 rfl rfl rfl rfl)) | exact (.l rfl (look_agg 3 rfl rfl rfl rfl)))
            | refine draw_skip rfl rfl rfl rfl ?_))
    try refine draw_nil ?_
    first | refine ops_pl rfl rfl rfl (PL.neqTyp (a := a) (b := topT) rfl rfl rfl) rfl ?_ | refine draw_pl rfl rfl rfl rfl (PL.neqTyp (a := a) (b := topT) rfl rfl rfl) rfl rfl ?_
    repeat (first
        | (refine draw_more ?_; first
            | (apply draw_pl rfl rfl rfl rfl ?_ rfl rfl ?_; rotate_left; focus first | exact (.neSelf rfl rfl rfl rfl) | exact (.eqSelf rfl rfl rfl rfl) | exact (.p rfl rfl) | exact (.l rfl (fun _ _ => rfl)) | exact (.l rfl (look_agg 0 rfl rfl rfl rfl)) | exact (.l rfl (look_agg 1 rfl rfl rfl rfl)) | exact (.l rfl (look_agg 2 rfl rfl rfl rfl)) | exact (.l rfl (look_agg 3 rfl rfl rfl rfl)))
            | refine draw_skip rfl rfl rfl rfl ?_))
    try refine draw_nil ?_
    refine draw_w rfl rfl rfl rfl rfl rfl (step_call_pure rfl rfl rfl (fun H hs => fits_ok (a := a) (b := a) hm ((hT.mono (by repeat first | exact List.Sublist.refl _ | apply List.Sublist.cons)).pure hs)) ⟨by repeat (first | exact True.intro | refine And.intro (.inl rfl) ?_ | refine And.intro (.inr ⟨veq_refl rfl, (fun _ _ => rfl)⟩) ?_ | refine And.intro (.inr ⟨veq_refl rfl, (look_agg 0 rfl rfl rfl rfl)⟩) ?_ | refine And.intro (.inr ⟨veq_refl rfl, (look_agg 1 rfl rfl rfl rfl)⟩) ?_ | refine And.intro (.inr ⟨veq_refl rfl, (look_agg 2 rfl rfl rfl rfl)⟩) ?_ | refine And.intro (.inr ⟨veq_refl rfl, (look_agg 3 rfl rfl rfl rfl)⟩) ?_), ?_⟩)
    rw [q2]
    repeat (first
        | (refine draw_more ?_; first
            | (apply draw_pl rfl rfl rfl rfl ?_ rfl rfl ?_; rotate_left; focus first | exact (.neSelf rfl rfl rfl rfl) | exact (.eqSelf rfl rfl rfl rfl) | exact (.p rfl rfl) | exact (.l rfl (fun _ _ => rfl)) | exact (.l rfl (look_agg 0 rfl rfl rfl rfl)) | exact (.l rfl (look_agg 1 rfl rfl rfl rfl)) | exact (.l rfl (look_agg 2 rfl rfl rfl rfl)) | exact (.l rfl (look_agg 3 rfl rfl rfl rfl)))
            | refine draw_skip rfl rfl rfl rfl ?_))
    try refine draw_nil ?_
    refine draw_w rfl rfl rfl rfl rfl rfl (step_call_pure rfl rfl rfl (fun H hs => fits_ok (a := a) (b := topT) hm ((hT.mono (by repeat first | exact List.Sublist.refl _ | apply List.Sublist.cons)).pure hs)) ⟨by repeat (first | exact True.intro | refine And.intro (.inl rfl) ?_ | refine And.intro (.inr ⟨veq_refl rfl, (fun _ _ => rfl)⟩) ?_ | refine And.intro (.inr ⟨veq_refl rfl, (look_agg 0 rfl rfl rfl rfl)⟩) ?_ | refine And.intro (.inr ⟨veq_refl rfl, (look_agg 1 rfl rfl rfl rfl)⟩) ?_ | refine And.intro (.inr ⟨veq_refl rfl, (look_agg 2 rfl rfl rfl rfl)⟩) ?_ | refine And.intro (.inr ⟨veq_refl rfl, (look_agg 3 rfl rfl rfl rfl)⟩) ?_), ?_⟩)
    rw [q3]
    repeat (first
        | (refine draw_more ?_; first
            | (apply draw_pl rfl rfl rfl rfl ?_ rfl rfl ?_; rotate_left; focus first | exact (.neSelf rfl rfl rfl rfl) | exact (.eqSelf rfl rfl rfl rfl) | exact (.p rfl rfl) | exact (.l rfl (fun _ _ => rfl)) | exact (.l rfl (look_agg 0 rfl rfl rfl rfl)) | exact (.l rfl (look_agg 1 rfl rfl rfl rfl)) | exact (.l rfl (look_agg 2 rfl rfl rfl rfl)) | exact (.l rfl (look_agg 3 rfl rfl rfl rfl)))
            | refine draw_skip rfl rfl rfl rfl ?_))
    try refine draw_nil ?_
    refine draw_w rfl rfl rfl rfl rfl rfl (step_call_pure rfl rfl rfl (fun H hs => fits_ok (a := topT) (b := a) hm ((hT.mono (by repeat first | exact List.Sublist.refl _ | apply List.Sublist.cons)).pure hs)) ⟨by repeat (first | exact True.intro | refine And.intro (.inl rfl) ?_ | refine And.intro (.inr ⟨veq_refl rfl, (fun _ _ => rfl)⟩) ?_ | refine And.intro (.inr ⟨veq_refl rfl, (look_agg 0 rfl rfl rfl rfl)⟩) ?_ | refine And.intro (.inr ⟨veq_refl rfl, (look_agg 1 rfl rfl rfl rfl)⟩) ?_ | refine And.intro (.inr ⟨veq_refl rfl, (look_agg 2 rfl rfl rfl rfl)⟩) ?_ | refine And.intro (.inr ⟨veq_refl rfl, (look_agg 3 rfl rfl rfl rfl)⟩) ?_), ?_⟩)
    rw [q4]
    repeat (first
        | (refine draw_more ?_; first
            | (apply draw_pl rfl rfl rfl rfl ?_ rfl rfl ?_; rotate_left; focus first | exact (.neSelf rfl rfl rfl rfl) | exact (.eqSelf rfl rfl rfl rfl) | exact (.p rfl rfl) | exact (.l rfl (fun _ _ => rfl)) | exact (.l rfl (look_agg 0 rfl rfl rfl rfl)) | exact (.l rfl (look_agg 1 rfl rfl rfl rfl)) | exact (.l rfl (look_agg 2 rfl rfl rfl rfl)) | exact (.l rfl (look_agg 3 rfl rfl rfl rfl)))
            | refine draw_skip rfl rfl rfl rfl ?_))
    try refine draw_nil ?_
    refine draw_w rfl rfl rfl rfl rfl rfl (step_call_pure rfl rfl rfl (fun H hs => refers_ok (a := a)) ⟨by repeat (first | exact True.intro | refine And.intro (.inl rfl) ?_ | refine And.intro (.inr ⟨veq_refl rfl, (fun _ _ => rfl)⟩) ?_ | refine And.intro (.inr ⟨veq_refl rfl, (look_agg 0 rfl rfl rfl rfl)⟩) ?_ | refine And.intro (.inr ⟨veq_refl rfl, (look_agg 1 rfl rfl rfl rfl)⟩) ?_ | refine And.intro (.inr ⟨veq_refl rfl, (look_agg 2 rfl rfl rfl rfl)⟩) ?_ | refine And.intro (.inr ⟨veq_refl rfl, (look_agg 3 rfl rfl rfl rfl)⟩) ?_), ?_⟩)
    cases f3 : refersB a
    · skip
      repeat (first
          | (refine draw_more ?_; first
              | (apply draw_pl rfl rfl rfl rfl ?_ rfl rfl ?_; rotate_left; focus first | exact (.neSelf rfl rfl rfl rfl) | exact (.eqSelf rfl rfl rfl rfl) | exact (.p rfl rfl) | exact (.l rfl (fun _ _ => rfl)) | exact (.l rfl (look_agg 0 rfl rfl rfl rfl)) | exact (.l rfl (look_agg 1 rfl rfl rfl rfl)) | exact (.l rfl (look_agg 2 rfl rfl rfl rfl)) | exact (.l rfl (look_agg 3 rfl rfl rfl rfl)))
              | refine draw_skip rfl rfl rfl rfl ?_))
      try refine draw_nil ?_
      refine draw_w rfl rfl rfl rfl rfl rfl (step_call_pure rfl rfl rfl (fun H hs => join_ok (a := a) (b := topT) hm ((hT.mono (by repeat first | exact List.Sublist.refl _ | apply List.Sublist.cons)).pure hs)) ⟨by repeat (first | exact True.intro | refine And.intro (.inl rfl) ?_ | refine And.intro (.inr ⟨veq_refl rfl, (fun _ _ => rfl)⟩) ?_ | refine And.intro (.inr ⟨veq_refl rfl, (look_agg 0 rfl rfl rfl rfl)⟩) ?_ | refine And.intro (.inr ⟨veq_refl rfl, (look_agg 1 rfl rfl rfl rfl)⟩) ?_ | refine And.intro (.inr ⟨veq_refl rfl, (look_agg 2 rfl rfl rfl rfl)⟩) ?_ | refine And.intro (.inr ⟨veq_refl rfl, (look_agg 3 rfl rfl rfl rfl)⟩) ?_), ?_⟩)
      rw [q6]
      repeat (first
          | (refine draw_more ?_; first
              | (apply draw_pl rfl rfl rfl rfl ?_ rfl rfl ?_; rotate_left; focus first | exact (.neSelf rfl rfl rfl rfl) | exact (.eqSelf rfl rfl rfl rfl) | exact (.p rfl rfl) | exact (.l rfl (fun _ _ => rfl)) | exact (.l rfl (look_agg 0 rfl rfl rfl rfl)) | exact (.l rfl (look_agg 1 rfl rfl rfl rfl)) | exact (.l rfl (look_agg 2 rfl rfl rfl rfl)) | exact (.l rfl (look_agg 3 rfl rfl rfl rfl)))
              | refine draw_skip rfl rfl rfl rfl ?_))
      try refine draw_nil ?_
      repeat (first
          | (refine exec_more ?_; first
              | refine exec_seq ?_
              | refine exec_region ?_
              | refine exec_block ?_
              | refine exec_skip ?_
              | refine exec_exit ?_
              | refine exec_ret ?_
              | refine exec_true rfl ?_
              | refine exec_false rfl ?_)
          | refine ops_nil ?_
          | (refine ops_more ?_; first
              | (apply ops_pl rfl rfl rfl ?_ rfl ?_; rotate_left; focus first | exact (.neSelf rfl rfl rfl rfl) | exact (.eqSelf rfl rfl rfl rfl) | exact (.p rfl rfl) | exact (.l rfl (fun _ _ => rfl)) | exact (.l rfl (look_agg 0 rfl rfl rfl rfl)) | exact (.l rfl (look_agg 1 rfl rfl rfl rfl)) | exact (.l rfl (look_agg 2 rfl rfl rfl rfl)) | exact (.l rfl (look_agg 3 rfl rfl rfl rfl)))
              | refine ops_skip rfl rfl rfl ?_
              | (refine ops_step rfl rfl rfl ?_; first | (refine step_box rfl rfl rfl (fun _ => ?_)) | (refine step_alloc rfl rfl rfl rfl (fun _ => ?_)) | (refine step_buildSliceF rfl rfl rfl rfl rfl rfl (fun _ => ?_)) | (refine step_map rfl (fun _ => ?_)) | (refine step_storeZ 0 rfl rfl rfl rfl rfl rfl rfl rfl rfl ?_) | (refine step_storeZ 1 rfl rfl rfl rfl rfl rfl rfl rfl rfl ?_) | (refine step_storeZ 2 rfl rfl rfl rfl rfl rfl rfl rfl rfl ?_))))
      exact ⟨trivial, _, rfl, rfl⟩
    repeat (first
        | (refine draw_more ?_; first
            | (apply draw_pl rfl rfl rfl rfl ?_ rfl rfl ?_; rotate_left; focus first | exact (.neSelf rfl rfl rfl rfl) | exact (.eqSelf rfl rfl rfl rfl) | exact (.p rfl rfl) | exact (.l rfl (fun _ _ => rfl)) | exact (.l rfl (look_agg 0 rfl rfl rfl rfl)) | exact (.l rfl (look_agg 1 rfl rfl rfl rfl)) | exact (.l rfl (look_agg 2 rfl rfl rfl rfl)) | exact (.l rfl (look_agg 3 rfl rfl rfl rfl)))
            | refine draw_skip rfl rfl rfl rfl ?_))
    try refine draw_nil ?_
    refine draw_w rfl rfl rfl rfl rfl rfl (step_call_pure rfl rfl rfl (fun H hs => fits_ok (a := b) (b := a) hm ((hT.mono (by repeat first | exact List.Sublist.refl _ | apply List.Sublist.cons)).pure hs)) ⟨by repeat (first | exact True.intro | refine And.intro (.inl rfl) ?_ | refine And.intro (.inr ⟨veq_refl rfl, (fun _ _ => rfl)⟩) ?_ | refine And.intro (.inr ⟨veq_refl rfl, (look_agg 0 rfl rfl rfl rfl)⟩) ?_ | refine And.intro (.inr ⟨veq_refl rfl, (look_agg 1 rfl rfl rfl rfl)⟩) ?_ | refine And.intro (.inr ⟨veq_refl rfl, (look_agg 2 rfl rfl rfl rfl)⟩) ?_ | refine And.intro (.inr ⟨veq_refl rfl, (look_agg 3 rfl rfl rfl rfl)⟩) ?_), ?_⟩)
    cases f4 : fitsB (tmA m6) b a
    · skip
      repeat (first
          | (refine draw_more ?_; first
              | (apply draw_pl rfl rfl rfl rfl ?_ rfl rfl ?_; rotate_left; focus first | exact (.neSelf rfl rfl rfl rfl) | exact (.eqSelf rfl rfl rfl rfl) | exact (.p rfl rfl) | exact (.l rfl (fun _ _ => rfl)) | exact (.l rfl (look_agg 0 rfl rfl rfl rfl)) | exact (.l rfl (look_agg 1 rfl rfl rfl rfl)) | exact (.l rfl (look_agg 2 rfl rfl rfl rfl)) | exact (.l rfl (look_agg 3 rfl rfl rfl rfl)))
              | refine draw_skip rfl rfl rfl rfl ?_))
      try refine draw_nil ?_
      refine draw_w rfl rfl rfl rfl rfl rfl (step_call_pure rfl rfl rfl (fun H hs => join_ok (a := a) (b := topT) hm ((hT.mono (by repeat first | exact List.Sublist.refl _ | apply List.Sublist.cons)).pure hs)) ⟨by repeat (first | exact True.intro | refine And.intro (.inl rfl) ?_ | refine And.intro (.inr ⟨veq_refl rfl, (fun _ _ => rfl)⟩) ?_ | refine And.intro (.inr ⟨veq_refl rfl, (look_agg 0 rfl rfl rfl rfl)⟩) ?_ | refine And.intro (.inr ⟨veq_refl rfl, (look_agg 1 rfl rfl rfl rfl)⟩) ?_ | refine And.intro (.inr ⟨veq_refl rfl, (look_agg 2 rfl rfl rfl rfl)⟩) ?_ | refine And.intro (.inr ⟨veq_refl rfl, (look_agg 3 rfl rfl rfl rfl)⟩) ?_), ?_⟩)
      rw [q6]
      repeat (first
          | (refine draw_more ?_; first
              | (apply draw_pl rfl rfl rfl rfl ?_ rfl rfl ?_; rotate_left; focus first | exact (.neSelf rfl rfl rfl rfl) | exact (.eqSelf rfl rfl rfl rfl) | exact (.p rfl rfl) | exact (.l rfl (fun _ _ => rfl)) | exact (.l rfl (look_agg 0 rfl rfl rfl rfl)) | exact (.l rfl (look_agg 1 rfl rfl rfl rfl)) | exact (.l rfl (look_agg 2 rfl rfl rfl rfl)) | exact (.l rfl (look_agg 3 rfl rfl rfl rfl)))
              | refine draw_skip rfl rfl rfl rfl ?_))
      try refine draw_nil ?_
      repeat (first
          | (refine exec_more ?_; first
              | refine exec_seq ?_
              | refine exec_region ?_
              | refine exec_block ?_
              | refine exec_skip ?_
              | refine exec_exit ?_
              | refine exec_ret ?_
              | refine exec_true rfl ?_
              | refine exec_false rfl ?_)
          | refine ops_nil ?_
          | (refine ops_more ?_; first
              | (apply ops_pl rfl rfl rfl ?_ rfl ?_; rotate_left; focus first | exact (.neSelf rfl rfl rfl rfl) | exact (.eqSelf rfl rfl rfl rfl) | exact (.p rfl rfl) | exact (.l rfl (fun _ _ => rfl)) | exact (.l rfl (look_agg 0 rfl rfl rfl rfl)) | exact (.l rfl (look_agg 1 rfl rfl rfl rfl)) | exact (.l rfl (look_agg 2 rfl rfl rfl rfl)) | exact (.l rfl (look_agg 3 rfl rfl rfl rfl)))
              | refine ops_skip rfl rfl rfl ?_
              | (refine ops_step rfl rfl rfl ?_; first | (refine step_box rfl rfl rfl (fun _ => ?_)) | (refine step_alloc rfl rfl rfl rfl (fun _ => ?_)) | (refine step_buildSliceF rfl rfl rfl rfl rfl rfl (fun _ => ?_)) | (refine step_map rfl (fun _ => ?_)) | (refine step_storeZ 0 rfl rfl rfl rfl rfl rfl rfl rfl rfl ?_) | (refine step_storeZ 1 rfl rfl rfl rfl rfl rfl rfl rfl rfl ?_) | (refine step_storeZ 2 rfl rfl rfl rfl rfl rfl rfl rfl rfl ?_))))
      exact ⟨trivial, _, rfl, rfl⟩
    repeat (first
        | (refine draw_more ?_; first
            | (apply draw_pl rfl rfl rfl rfl ?_ rfl rfl ?_; rotate_left; focus first | exact (.neSelf rfl rfl rfl rfl) | exact (.eqSelf rfl rfl rfl rfl) | exact (.p rfl rfl) | exact (.l rfl (fun _ _ => rfl)) | exact (.l rfl (look_agg 0 rfl rfl rfl rfl)) | exact (.l rfl (look_agg 1 rfl rfl rfl rfl)) | exact (.l rfl (look_agg 2 rfl rfl rfl rfl)) | exact (.l rfl (look_agg 3 rfl rfl rfl rfl)))
            | refine draw_skip rfl rfl rfl rfl ?_))
    try refine draw_nil ?_
    refine draw_w rfl rfl rfl rfl rfl rfl (step_call_pure rfl rfl rfl (fun H hs => refers_ok (a := b)) ⟨by repeat (first | exact True.intro | refine And.intro (.inl rfl) ?_ | refine And.intro (.inr ⟨veq_refl rfl, (fun _ _ => rfl)⟩) ?_ | refine And.intro (.inr ⟨veq_refl rfl, (look_agg 0 rfl rfl rfl rfl)⟩) ?_ | refine And.intro (.inr ⟨veq_refl rfl, (look_agg 1 rfl rfl rfl rfl)⟩) ?_ | refine And.intro (.inr ⟨veq_refl rfl, (look_agg 2 rfl rfl rfl rfl)⟩) ?_ | refine And.intro (.inr ⟨veq_refl rfl, (look_agg 3 rfl rfl rfl rfl)⟩) ?_), ?_⟩)
    rw [q5 f4 f3]
    repeat (first
        | (refine draw_more ?_; first
            | (apply draw_pl rfl rfl rfl rfl ?_ rfl rfl ?_; rotate_left; focus first | exact (.neSelf rfl rfl rfl rfl) | exact (.eqSelf rfl rfl rfl rfl) | exact (.p rfl rfl) | exact (.l rfl (fun _ _ => rfl)) | exact (.l rfl (look_agg 0 rfl rfl rfl rfl)) | exact (.l rfl (look_agg 1 rfl rfl rfl rfl)) | exact (.l rfl (look_agg 2 rfl rfl rfl rfl)) | exact (.l rfl (look_agg 3 rfl rfl rfl rfl)))
            | refine draw_skip rfl rfl rfl rfl ?_))
    try refine draw_nil ?_
    refine draw_w rfl rfl rfl rfl rfl rfl (step_call_pure rfl rfl rfl (fun H hs => join_ok (a := a) (b := topT) hm ((hT.mono (by repeat first | exact List.Sublist.refl _ | apply List.Sublist.cons)).pure hs)) ⟨by repeat (first | exact True.intro | refine And.intro (.inl rfl) ?_ | refine And.intro (.inr ⟨veq_refl rfl, (fun _ _ => rfl)⟩) ?_ | refine And.intro (.inr ⟨veq_refl rfl, (look_agg 0 rfl rfl rfl rfl)⟩) ?_ | refine And.intro (.inr ⟨veq_refl rfl, (look_agg 1 rfl rfl rfl rfl)⟩) ?_ | refine And.intro (.inr ⟨veq_refl rfl, (look_agg 2 rfl rfl rfl rfl)⟩) ?_ | refine And.intro (.inr ⟨veq_refl rfl, (look_agg 3 rfl rfl rfl rfl)⟩) ?_), ?_⟩)
    rw [q6]
    repeat (first
        | (refine draw_more ?_; first
            | (apply draw_pl rfl rfl rfl rfl ?_ rfl rfl ?_; rotate_left; focus first | exact (.neSelf rfl rfl rfl rfl) | exact (.eqSelf rfl rfl rfl rfl) | exact (.p rfl rfl) | exact (.l rfl (fun _ _ => rfl)) | exact (.l rfl (look_agg 0 rfl rfl rfl rfl)) | exact (.l rfl (look_agg 1 rfl rfl rfl rfl)) | exact (.l rfl (look_agg 2 rfl rfl rfl rfl)) | exact (.l rfl (look_agg 3 rfl rfl rfl rfl)))
            | refine draw_skip rfl rfl rfl rfl ?_))
    try refine draw_nil ?_
    repeat (first
        | (refine exec_more ?_; first
            | refine exec_seq ?_
            | refine exec_region ?_
            | refine exec_block ?_
            | refine exec_skip ?_
            | refine exec_exit ?_
            | refine exec_ret ?_
            | refine exec_true rfl ?_
            | refine exec_false rfl ?_)
        | refine ops_nil ?_
        | (refine ops_more ?_; first
            | (apply ops_pl rfl rfl rfl ?_ rfl ?_; rotate_left; focus first | exact (.neSelf rfl rfl rfl rfl) | exact (.eqSelf rfl rfl rfl rfl) | exact (.p rfl rfl) | exact (.l rfl (fun _ _ => rfl)) | exact (.l rfl (look_agg 0 rfl rfl rfl rfl)) | exact (.l rfl (look_agg 1 rfl rfl rfl rfl)) | exact (.l rfl (look_agg 2 rfl rfl rfl rfl)) | exact (.l rfl (look_agg 3 rfl rfl rfl rfl)))
            | refine ops_skip rfl rfl rfl ?_
            | (refine ops_step rfl rfl rfl ?_; first | (refine step_box rfl rfl rfl (fun _ => ?_)) | (refine step_alloc rfl rfl rfl rfl (fun _ => ?_)) | (refine step_buildSliceF rfl rfl rfl rfl rfl rfl (fun _ => ?_)) | (refine step_map rfl (fun _ => ?_)) | (refine step_storeZ 0 rfl rfl rfl rfl rfl rfl rfl rfl rfl ?_) | (refine step_storeZ 1 rfl rfl rfl rfl rfl rfl rfl rfl rfl ?_) | (refine step_storeZ 2 rfl rfl rfl rfl rfl rfl rfl rfl rfl ?_))))
    exact ⟨trivial, _, rfl, rfl⟩
  repeat (first
      | (refine draw_more ?_; first
          | (apply draw_pl rfl rfl rfl rfl ?_ rfl rfl ?_; rotate_left; focus first | exact (.neSelf rfl rfl rfl rfl) | exact (.eqSelf rfl rfl rfl rfl) | exact (.p rfl rfl) | exact (.l rfl (fun _ _ => rfl)) | exact (.l rfl (look_agg 0 rfl rfl rfl rfl)) | exact (.l rfl (look_agg 1 rfl rfl rfl rfl)) | exact (.l rfl (look_agg 2 rfl rfl rfl rfl)) | exact (.l rfl (look_agg 3 rfl rfl rfl rfl)))
          | refine draw_skip rfl rfl rfl rfl ?_))
  try refine draw_nil ?_
  refine draw_w rfl rfl rfl rfl rfl rfl (step_call_pure rfl rfl rfl (fun H hs => fits_ok (a := a) (b := c) hm ((hT.mono (by repeat first | exact List.Sublist.refl _ | apply List.Sublist.cons)).pure hs)) ⟨by repeat (first | exact True.intro | refine And.intro (.inl rfl) ?_ | refine And.intro (.inr ⟨veq_refl rfl, (fun _ _ => rfl)⟩) ?_ | refine And.intro (.inr ⟨veq_refl rfl, (look_agg 0 rfl rfl rfl rfl)⟩) ?_ | refine And.intro (.inr ⟨veq_refl rfl, (look_agg 1 rfl rfl rfl rfl)⟩) ?_ | refine And.intro (.inr ⟨veq_refl rfl, (look_agg 2 rfl rfl rfl rfl)⟩) ?_ | refine And.intro (.inr ⟨veq_refl rfl, (look_agg 3 rfl rfl rfl rfl)⟩) ?_), ?_⟩)
  rw [q1 f1 f2]
  repeat (first
      | (refine draw_more ?_; first
          | (apply draw_pl rfl rfl rfl rfl ?_ rfl rfl ?_; rotate_left; focus first | exact (.neSelf rfl rfl rfl rfl) | exact (.eqSelf rfl rfl rfl rfl) | exact (.p rfl rfl) | exact (.l rfl (fun _ _ => rfl)) | exact (.l rfl (look_agg 0 rfl rfl rfl rfl)) | exact (.l rfl (look_agg 1 rfl rfl rfl rfl)) | exact (.l rfl (look_agg 2 rfl rfl rfl rfl)) | exact (.l rfl (look_agg 3 rfl rfl rfl rfl)))
          | refine draw_skip rfl rfl rfl rfl ?_))
  try refine draw_nil ?_
  first | refine ops_pl rfl rfl rfl (PL.neqTyp (a := a) (b := topT) rfl rfl rfl) rfl ?_ | refine draw_pl rfl rfl rfl rfl (PL.neqTyp (a := a) (b := topT) rfl rfl rfl) rfl rfl ?_
  repeat (first
      | (refine draw_more ?_; first
          | (apply draw_pl rfl rfl rfl rfl ?_ rfl rfl ?_; rotate_left; focus first | exact (.neSelf rfl rfl rfl rfl) | exact (.eqSelf rfl rfl rfl rfl) | exact (.p rfl rfl) | exact (.l rfl (fun _ _ => rfl)) | exact (.l rfl (look_agg 0 rfl rfl rfl rfl)) | exact (.l rfl (look_agg 1 rfl rfl rfl rfl)) | exact (.l rfl (look_agg 2 rfl rfl rfl rfl)) | exact (.l rfl (look_agg 3 rfl rfl rfl rfl)))
          | refine draw_skip rfl rfl rfl rfl ?_))
  try refine draw_nil ?_
  refine draw_w rfl rfl rfl rfl rfl rfl (step_call_pure rfl rfl rfl (fun H hs => fits_ok (a := a) (b := a) hm ((hT.mono (by repeat first | exact List.Sublist.refl _ | apply List.Sublist.cons)).pure hs)) ⟨by repeat (first | exact True.intro | refine And.intro (.inl rfl) ?_ | refine And.intro (.inr ⟨veq_refl rfl, (fun _ _ => rfl)⟩) ?_ | refine And.intro (.inr ⟨veq_refl rfl, (look_agg 0 rfl rfl rfl rfl)⟩) ?_ | refine And.intro (.inr ⟨veq_refl rfl, (look_agg 1 rfl rfl rfl rfl)⟩) ?_ | refine And.intro (.inr ⟨veq_refl rfl, (look_agg 2 rfl rfl rfl rfl)⟩) ?_ | refine And.intro (.inr ⟨veq_refl rfl, (look_agg 3 rfl rfl rfl rfl)⟩) ?_), ?_⟩)
  rw [q2]
  repeat (first
      | (refine draw_more ?_; first
          | (apply draw_pl rfl rfl rfl rfl ?_ rfl rfl ?_; rotate_left; focus first | exact (.neSelf rfl rfl rfl rfl) | exact (.eqSelf rfl rfl rfl rfl) | exact (.p rfl rfl) | exact (.l rfl (fun _ _ => rfl)) | exact (.l rfl (look_agg 0 rfl rfl rfl rfl)) | exact (.l rfl (look_agg 1 rfl rfl rfl rfl)) | exact (.l rfl (look_agg 2 rfl rfl rfl rfl)) | exact (.l rfl (look_agg 3 rfl rfl rfl rfl)))
          | refine draw_skip rfl rfl rfl rfl ?_))
  try refine draw_nil ?_
  refine draw_w rfl rfl rfl rfl rfl rfl (step_call_pure rfl rfl rfl (fun H hs => fits_ok (a := a) (b := topT) hm ((hT.mono (by repeat first | exact List.Sublist.refl _ | apply List.Sublist.cons)).pure hs)) ⟨by repeat (first | exact True.intro | refine And.intro (.inl rfl) ?_ | refine And.intro (.inr ⟨veq_refl rfl, (fun _ _ => rfl)⟩) ?_ | refine And.intro (.inr ⟨veq_refl rfl, (look_agg 0 rfl rfl rfl rfl)⟩) ?_ | refine And.intro (.inr ⟨veq_refl rfl, (look_agg 1 rfl rfl rfl rfl)⟩) ?_ | refine And.intro (.inr ⟨veq_refl rfl, (look_agg 2 rfl rfl rfl rfl)⟩) ?_ | refine And.intro (.inr ⟨veq_refl rfl, (look_agg 3 rfl rfl rfl rfl)⟩) ?_), ?_⟩)
  rw [q3]
  repeat (first
      | (refine draw_more ?_; first
          | (apply draw_pl rfl rfl rfl rfl ?_ rfl rfl ?_; rotate_left; focus first | exact (.neSelf rfl rfl rfl rfl) | exact (.eqSelf rfl rfl rfl rfl) | exact (.p rfl rfl) | exact (.l rfl (fun _ _ => rfl)) | exact (.l rfl (look_agg 0 rfl rfl rfl rfl)) | exact (.l rfl (look_agg 1 rfl rfl rfl rfl)) | exact (.l rfl (look_agg 2 rfl rfl rfl rfl)) | exact (.l rfl (look_agg 3 rfl rfl rfl rfl)))
          | refine draw_skip rfl rfl rfl rfl ?_))
  try refine draw_nil ?_
  refine draw_w rfl rfl rfl rfl rfl rfl (step_call_pure rfl rfl rfl (fun H hs => fits_ok (a := topT) (b := a) hm ((hT.mono (by repeat first | exact List.Sublist.refl _ | apply List.Sublist.cons)).pure hs)) ⟨by repeat (first | exact True.intro | refine And.intro (.inl rfl) ?_ | refine And.intro (.inr ⟨veq_refl rfl, (fun _ _ => rfl)⟩) ?_ | refine And.intro (.inr ⟨veq_refl rfl, (look_agg 0 rfl rfl rfl rfl)⟩) ?_ | refine And.intro (.inr ⟨veq_refl rfl, (look_agg 1 rfl rfl rfl rfl)⟩) ?_ | refine And.intro (.inr ⟨veq_refl rfl, (look_agg 2 rfl rfl rfl rfl)⟩) ?_ | refine And.intro (.inr ⟨veq_refl rfl, (look_agg 3 rfl rfl rfl rfl)⟩) ?_), ?_⟩)
  rw [q4]
  repeat (first
      | (refine draw_more ?_; first
          | (apply draw_pl rfl rfl rfl rfl ?_ rfl rfl ?_; rotate_left; focus first | exact (.neSelf rfl rfl rfl rfl) | exact (.eqSelf rfl rfl rfl rfl) | exact (.p rfl rfl) | exact (.l rfl (fun _ _ => rfl)) | exact (.l rfl (look_agg 0 rfl rfl rfl rfl)) | exact (.l rfl (look_agg 1 rfl rfl rfl rfl)) | exact (.l rfl (look_agg 2 rfl rfl rfl rfl)) | exact (.l rfl (look_agg 3 rfl rfl rfl rfl)))
          | refine draw_skip rfl rfl rfl rfl ?_))
  try refine draw_nil ?_
  refine draw_w rfl rfl rfl rfl rfl rfl (step_call_pure rfl rfl rfl (fun H hs => refers_ok (a := a)) ⟨by repeat (first | exact True.intro | refine And.intro (.inl rfl) ?_ | refine And.intro (.inr ⟨veq_refl rfl, (fun _ _ => rfl)⟩) ?_ | refine And.intro (.inr ⟨veq_refl rfl, (look_agg 0 rfl rfl rfl rfl)⟩) ?_ | refine And.intro (.inr ⟨veq_refl rfl, (look_agg 1 rfl rfl rfl rfl)⟩) ?_ | refine And.intro (.inr ⟨veq_refl rfl, (look_agg 2 rfl rfl rfl rfl)⟩) ?_ | refine And.intro (.inr ⟨veq_refl rfl, (look_agg 3 rfl rfl rfl rfl)⟩) ?_), ?_⟩)
  cases f3 : refersB a
  · skip
    repeat (first
        | (refine draw_more ?_; first
            | (apply draw_pl rfl rfl rfl rfl ?_ rfl rfl ?_; rotate_left; focus first | exact (.neSelf rfl rfl rfl rfl) | exact (.eqSelf rfl rfl rfl rfl) | exact (.p rfl rfl) | exact (.l rfl (fun _ _ => rfl)) | exact (.l rfl (look_agg 0 rfl rfl rfl rfl)) | exact (.l rfl (look_agg 1 rfl rfl rfl rfl)) | exact (.l rfl (look_agg 2 rfl rfl rfl rfl)) | exact (.l rfl (look_agg 3 rfl rfl rfl rfl)))
            | refine draw_skip rfl rfl rfl rfl ?_))
    try refine draw_nil ?_
    refine draw_w rfl rfl rfl rfl rfl rfl (step_call_pure rfl rfl rfl (fun H hs => join_ok (a := a) (b := topT) hm ((hT.mono (by repeat first | exact List.Sublist.refl _ | apply List.Sublist.cons)).pure hs)) ⟨by repeat (first | exact True.intro | refine And.intro (.inl rfl) ?_ | refine And.intro (.inr ⟨veq_refl rfl, (fun _ _ => rfl)⟩) ?_ | refine And.intro (.inr ⟨veq_refl rfl, (look_agg 0 rfl rfl rfl rfl)⟩) ?_ | refine And.intro (.inr ⟨veq_refl rfl, (look_agg 1 rfl rfl rfl rfl)⟩) ?_ | refine And.intro (.inr ⟨veq_refl rfl, (look_agg 2 rfl rfl rfl rfl)⟩) ?_ | refine And.intro (.inr ⟨veq_refl rfl, (look_agg 3 rfl rfl rfl rfl)⟩) ?_), ?_⟩)
    rw [q6]
    repeat (first
        | (refine draw_more ?_; first
            | (apply draw_pl rfl rfl rfl rfl ?_ rfl rfl ?_; rotate_left; focus first | exact (.neSelf rfl rfl rfl rfl) | exact (.eqSelf rfl rfl rfl rfl) | exact (.p rfl rfl) | exact (.l rfl (fun _ _ => rfl)) | exact (.l rfl (look_agg 0 rfl rfl rfl rfl)) | exact (.l rfl (look_agg 1 rfl rfl rfl rfl)) | exact (.l rfl (look_agg 2 rfl rfl rfl rfl)) | exact (.l rfl (look_agg 3 rfl rfl rfl rfl)))
            | refine draw_skip rfl rfl rfl rfl ?_))
    try refine draw_nil ?_
    repeat (first
        | (refine exec_more ?_; first
            | refine exec_seq ?_
            | refine exec_region ?_
            | refine exec_block ?_
            | refine exec_skip ?_
            | refine exec_exit ?_
            | refine exec_ret ?_
            | refine exec_true rfl ?_
            | refine exec_false rfl ?_)
        | refine ops_nil ?_
        | (refine ops_more ?_; first
            | (apply ops_pl rfl rfl rfl ?_ rfl ?_; rotate_left; focus first | exact (.neSelf rfl rfl rfl rfl) | exact (.eqSelf rfl rfl rfl rfl) | exact (.p rfl rfl) | exact (.l rfl (fun _ _ => rfl)) | exact (.l rfl (look_agg 0 rfl rfl rfl rfl)) | exact (.l rfl (look_agg 1 rfl rfl rfl rfl)) | exact (.l rfl (look_agg 2 rfl rfl rfl rfl)) | exact (.l rfl (look_agg 3 rfl rfl rfl rfl)))
            | refine ops_skip rfl rfl rfl ?_
            | (refine ops_step rfl rfl rfl ?_; first | (refine step_box rfl rfl rfl (fun _ => ?_)) | (refine step_alloc rfl rfl rfl rfl (fun _ => ?_)) | (refine step_buildSliceF rfl rfl rfl rfl rfl rfl (fun _ => ?_)) | (refine step_map rfl (fun _ => ?_)) | (refine step_storeZ 0 rfl rfl rfl rfl rfl rfl rfl rfl rfl ?_) | (refine step_storeZ 1 rfl rfl rfl rfl rfl rfl rfl rfl rfl ?_) | (refine step_storeZ 2 rfl rfl rfl rfl rfl rfl rfl rfl rfl ?_))))
    exact ⟨trivial, _, rfl, rfl⟩
  repeat (first
      | (refine draw_more ?_; first
          | (apply draw_pl rfl rfl rfl rfl ?_ rfl rfl ?_; rotate_left; focus first | exact (.neSelf rfl rfl rfl rfl) | exact (.eqSelf rfl rfl rfl rfl) | exact (.p rfl rfl) | exact (.l rfl (fun _ _ => rfl)) | exact (.l rfl (look_agg 0 rfl rfl rfl rfl)) | exact (.l rfl (look_agg 1 rfl rfl rfl rfl)) | exact (.l rfl (look_agg 2 rfl rfl rfl rfl)) | exact (.l rfl (look_agg 3 rfl rfl rfl rfl)))
          | refine draw_skip rfl rfl rfl rfl ?_))
  try refine draw_nil ?_
  refine draw_w rfl rfl rfl rfl rfl rfl (step_call_pure rfl rfl rfl (fun H hs => fits_ok (a := b) (b := a) hm ((hT.mono (by repeat first | exact List.Sublist.refl _ | apply List.Sublist.cons)).pure hs)) ⟨by repeat (first | exact True.intro | refine And.intro (.inl rfl) ?_ | refine And.intro (.inr ⟨veq_refl rfl, (fun _ _ => rfl)⟩) ?_ | refine And.intro (.inr ⟨veq_refl rfl, (look_agg 0 rfl rfl rfl rfl)⟩) ?_ | refine And.intro (.inr ⟨veq_refl rfl, (look_agg 1 rfl rfl rfl rfl)⟩) ?_ | refine And.intro (.inr ⟨veq_refl rfl, (look_agg 2 rfl rfl rfl rfl)⟩) ?_ | refine And.intro (.inr ⟨veq_refl rfl, (look_agg 3 rfl rfl rfl rfl)⟩) ?_), ?_⟩)
  cases f4 : fitsB (tmA m6) b a
  · skip
    repeat (first
        | (refine draw_more ?_; first
            | (apply draw_pl rfl rfl rfl rfl ?_ rfl rfl ?_; rotate_left; focus first | exact (.neSelf rfl rfl rfl rfl) | exact (.eqSelf rfl rfl rfl rfl) | exact (.p rfl rfl) | exact (.l rfl (fun _ _ => rfl)) | exact (.l rfl (look_agg 0 rfl rfl rfl rfl)) | exact (.l rfl (look_agg 1 rfl rfl rfl rfl)) | exact (.l rfl (look_agg 2 rfl rfl rfl rfl)) | exact (.l rfl (look_agg 3 rfl rfl rfl rfl)))
            | refine draw_skip rfl rfl rfl rfl ?_))
    try refine draw_nil ?_
    refine draw_w rfl rfl rfl rfl rfl rfl (step_call_pure rfl rfl rfl (fun H hs => join_ok (a := a) (b := topT) hm ((hT.mono (by repeat first | exact List.Sublist.refl _ | apply List.Sublist.cons)).pure hs)) ⟨by repeat (first | exact True.intro | refine And.intro (.inl rfl) ?_ | refine And.intro (.inr ⟨veq_refl rfl, (fun _ _ => rfl)⟩) ?_ | refine And.intro (.inr ⟨veq_refl rfl, (look_agg 0 rfl rfl rfl rfl)⟩) ?_ | refine And.intro (.inr ⟨veq_refl rfl, (look_agg 1 rfl rfl rfl rfl)⟩) ?_ | refine And.intro (.inr ⟨veq_refl rfl, (look_agg 2 rfl rfl rfl rfl)⟩) ?_ | refine And.intro (.inr ⟨veq_refl rfl, (look_agg 3 rfl rfl rfl rfl)⟩) ?_), ?_⟩)
    rw [q6]
    repeat (first
        | (refine draw_more ?_; first
            | (apply draw_pl rfl rfl rfl rfl ?_ rfl rfl ?_; rotate_left; focus first | exact (.neSelf rfl rfl rfl rfl) | exact (.eqSelf rfl rfl rfl rfl) | exact (.p rfl rfl) | exact (.l rfl (fun _ _ => rfl)) | exact (.l rfl (look_agg 0 rfl rfl rfl rfl)) | exact (.l rfl (look_agg 1 rfl rfl rfl rfl)) | exact (.l rfl (look_agg 2 rfl rfl rfl rfl)) | exact (.l rfl (look_agg 3 rfl rfl rfl rfl)))
            | refine draw_skip rfl rfl rfl rfl ?_))
    try refine draw_nil ?_
    repeat (first
        | (refine exec_more ?_; first
            | refine exec_seq ?_
            | refine exec_region ?_
            | refine exec_block ?_
            | refine exec_skip ?_
            | refine exec_exit ?_
            | refine exec_ret ?_
            | refine exec_true rfl ?_
            | refine exec_false rfl ?_)
        | refine ops_nil ?_
        | (refine ops_more ?_; first
            | (apply ops_pl rfl rfl rfl ?_ rfl ?_; rotate_left; focus first | exact (.neSelf rfl rfl rfl rfl) | exact (.eqSelf rfl rfl rfl rfl) | exact (.p rfl rfl) | exact (.l rfl (fun _ _ => rfl)) | exact (.l rfl (look_agg 0 rfl rfl rfl rfl)) | exact (.l rfl (look_agg 1 rfl rfl rfl rfl)) | exact (.l rfl (look_agg 2 rfl rfl rfl rfl)) | exact (.l rfl (look_agg 3 rfl rfl rfl rfl)))
            | refine ops_skip rfl rfl rfl ?_
            | (refine ops_step rfl rfl rfl ?_; first | (refine step_box rfl rfl rfl (fun _ => ?_)) | (refine step_alloc rfl rfl rfl rfl (fun _ => ?_)) | (refine step_buildSliceF rfl rfl rfl rfl rfl rfl (fun _ => ?_)) | (refine step_map rfl (fun _ => ?_)) | (refine step_storeZ 0 rfl rfl rfl rfl rfl rfl rfl rfl rfl ?_) | (refine step_storeZ 1 rfl rfl rfl rfl rfl rfl rfl rfl rfl ?_) | (refine step_storeZ 2 rfl rfl rfl rfl rfl rfl rfl rfl rfl ?_))))
    exact ⟨trivial, _, rfl, rfl⟩
  repeat (first
      | (refine draw_more ?_; first
          | (apply draw_pl rfl rfl rfl rfl ?_ rfl rfl ?_; rotate_left; focus first | exact (.neSelf rfl rfl rfl rfl) | exact (.eqSelf rfl rfl rfl rfl) | exact (.p rfl rfl) | exact (.l rfl (fun _ _ => rfl)) | exact (.l rfl (look_agg 0 rfl rfl rfl rfl)) | exact (.l rfl (look_agg 1 rfl rfl rfl rfl)) | exact (.l rfl (look_agg 2 rfl rfl rfl rfl)) | exact (.l rfl (look_agg 3 rfl rfl rfl rfl)))
          | refine draw_skip rfl rfl rfl rfl ?_))
  try refine draw_nil ?_
  refine draw_w rfl rfl rfl rfl rfl rfl (step_call_pure rfl rfl rfl (fun H hs => refers_ok (a := b)) ⟨by repeat (first | exact True.intro | refine And.intro (.inl rfl) ?_ | refine And.intro (.inr ⟨veq_refl rfl, (fun _ _ => rfl)⟩) ?_ | refine And.intro (.inr ⟨veq_refl rfl, (look_agg 0 rfl rfl rfl rfl)⟩) ?_ | refine And.intro (.inr ⟨veq_refl rfl, (look_agg 1 rfl rfl rfl rfl)⟩) ?_ | refine And.intro (.inr ⟨veq_refl rfl, (look_agg 2 rfl rfl rfl rfl)⟩) ?_ | refine And.intro (.inr ⟨veq_refl rfl, (look_agg 3 rfl rfl rfl rfl)⟩) ?_), ?_⟩)
  rw [q5 f4 f3]
  repeat (first
      | (refine draw_more ?_; first
          | (apply draw_pl rfl rfl rfl rfl ?_ rfl rfl ?_; rotate_left; focus first | exact (.neSelf rfl rfl rfl rfl) | exact (.eqSelf rfl rfl rfl rfl) | exact (.p rfl rfl) | exact (.l rfl (fun _ _ => rfl)) | exact (.l rfl (look_agg 0 rfl rfl rfl rfl)) | exact (.l rfl (look_agg 1 rfl rfl rfl rfl)) | exact (.l rfl (look_agg 2 rfl rfl rfl rfl)) | exact (.l rfl (look_agg 3 rfl rfl rfl rfl)))
          | refine draw_skip rfl rfl rfl rfl ?_))
  try refine draw_nil ?_
  refine draw_w rfl rfl rfl rfl rfl rfl (step_call_pure rfl rfl rfl (fun H hs => join_ok (a := a) (b := topT) hm ((hT.mono (by repeat first | exact List.Sublist.refl _ | apply List.Sublist.cons)).pure hs)) ⟨by repeat (first | exact True.intro | refine And.intro (.inl rfl) ?_ | refine And.intro (.inr ⟨veq_refl rfl, (fun _ _ => rfl)⟩) ?_ | refine And.intro (.inr ⟨veq_refl rfl, (look_agg 0 rfl rfl rfl rfl)⟩) ?_ | refine And.intro (.inr ⟨veq_refl rfl, (look_agg 1 rfl rfl rfl rfl)⟩) ?_ | refine And.intro (.inr ⟨veq_refl rfl, (look_agg 2 rfl rfl rfl rfl)⟩) ?_ | refine And.intro (.inr ⟨veq_refl rfl, (look_agg 3 rfl rfl rfl rfl)⟩) ?_), ?_⟩)
  rw [q6]
  repeat (first
      | (refine draw_more ?_; first
          | (apply draw_pl rfl rfl rfl rfl ?_ rfl rfl ?_; rotate_left; focus first | exact (.neSelf rfl rfl rfl rfl) | exact (.eqSelf rfl rfl rfl rfl) | exact (.p rfl rfl) | exact (.l rfl (fun _ _ => rfl)) | exact (.l rfl (look_agg 0 rfl rfl rfl rfl)) | exact (.l rfl (look_agg 1 rfl rfl rfl rfl)) | exact (.l rfl (look_agg 2 rfl rfl rfl rfl)) | exact (.l rfl (look_agg 3 rfl rfl rfl rfl)))
          | refine draw_skip rfl rfl rfl rfl ?_))
  try refine draw_nil ?_
  repeat (first
      | (refine exec_more ?_; first
          | refine exec_seq ?_
          | refine exec_region ?_
          | refine exec_block ?_
          | refine exec_skip ?_
          | refine exec_exit ?_
          | refine exec_ret ?_
          | refine exec_true rfl ?_
          | refine exec_false rfl ?_)
      | refine ops_nil ?_
      | (refine ops_more ?_; first
          | (apply ops_pl rfl rfl rfl ?_ rfl ?_; rotate_left; focus first | exact (.neSelf rfl rfl rfl rfl) | exact (.eqSelf rfl rfl rfl rfl) | exact (.p rfl rfl) | exact (.l rfl (fun _ _ => rfl)) | exact (.l rfl (look_agg 0 rfl rfl rfl rfl)) | exact (.l rfl (look_agg 1 rfl rfl rfl rfl)) | exact (.l rfl (look_agg 2 rfl rfl rfl rfl)) | exact (.l rfl (look_agg 3 rfl rfl rfl rfl)))
          | refine ops_skip rfl rfl rfl ?_
          | (refine ops_step rfl rfl rfl ?_; first | (refine step_box rfl rfl rfl (fun _ => ?_)) | (refine step_alloc rfl rfl rfl rfl (fun _ => ?_)) | (refine step_buildSliceF rfl rfl rfl rfl rfl rfl (fun _ => ?_)) | (refine step_map rfl (fun _ => ?_)) | (refine step_storeZ 0 rfl rfl rfl rfl rfl rfl rfl rfl rfl ?_) | (refine step_storeZ 1 rfl rfl rfl rfl rfl rfl rfl rfl rfl ?_) | (refine step_storeZ 2 rfl rfl rfl rfl rfl rfl rfl rfl rfl ?_))))
  exact ⟨trivial, _, rfl, rfl⟩
end Go.Proofs.Ythifbkjkiijkoaa

