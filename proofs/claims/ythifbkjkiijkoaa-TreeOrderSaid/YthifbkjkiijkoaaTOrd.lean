/-
  'bonsailaw8.TreeOrder' is true at every input: the walk.
-/
import Derived.Test.YthifbkjkiijkoaaTm
import Derived.Test.YthifbkjkiijkoaaEvArgA
namespace Go.Proofs.Ythifbkjkiijkoaa
open Go.Ev Go.Ev.Wk
set_option linter.unusedVariables false
set_option linter.unusedSimpArgs false
variable {O : Old}


def ordN : List (List UInt8) := [[65], [66], [66, 97, 115, 101], [73], [74], [77, 105, 100], [67], [68], [69, 114, 114], [69, 114, 114, 50], [77, 97, 105, 110], [79, 98, 106, 101, 99, 116], [70, 97, 117, 108, 116], [67, 97, 115, 116, 70, 97, 117, 108, 116]]
def ordA (n : Nat) : List UInt8 := ordN[n % 14]?.getD []
theorem ordA_get (n : Nat) : (ordN.map str)[0 + ((n % 14 : Nat) : Int).toNat * 1]? = some (str (ordA n)) := by
  have h : n % 14 < ordN.length := Nat.mod_lt _ (by decide)
  rw [show 0 + ((n % 14 : Nat) : Int).toNat * 1 = n % 14 from by omega, List.getElem?_map, ordA, List.getElem?_eq_getElem h]
  rfl
theorem ordA_mem (n : Nat) : ordA n ∈ ordN := by
  have h : n % 14 < ordN.length := Nat.mod_lt _ (by decide)
  rw [ordA, List.getElem?_eq_getElem h]
  exact List.getElem_mem h

theorem ord_law : ∀ (m6 : Bool), ∀ a ∈ ordN, (tmA m6).sub a a = true ∧ (tmA m6).sub a objB = true ∧ ∀ b ∈ ordN, ((tmA m6).sub a b = true → (tmA m6).sub b a = true → a = b) ∧ (tmA m6).sub a ((tmA m6).common a b) = true ∧ (tmA m6).sub b ((tmA m6).common a b) = true ∧ (tmA m6).common b a = (tmA m6).common a b ∧
    ∀ c ∈ ordN, ((tmA m6).sub a b = true → (tmA m6).sub b c = true → (tmA m6).sub a c = true) ∧ (tmA m6).common a ((tmA m6).common b c) = (tmA m6).common ((tmA m6).common a b) c := by decide +kernel

set_option maxHeartbeats 32000000 in
set_option maxRecDepth 100000 in
theorem treeOrder_walk {k0 k1 k2 k3 x y z : Int} (h0 : 0 ≤ k0 ∧ k0 ≤ 255) (h1 : 0 ≤ k1 ∧ k1 ≤ 255) (h2 : 0 ≤ k2 ∧ k2 ≤ 255) (h3 : 0 ≤ k3 ∧ k3 ≤ 255) (hx : 0 ≤ x ∧ x ≤ 255) (hy : 0 ≤ y ∧ y ≤ 255) (hz : 0 ≤ z ∧ z ≤ 255) :
    CallC TT O 3 [.agg #[.int .u8 k0, .int .u8 k1, .int .u8 k2, .int .u8 k3], .int .u8 x, .int .u8 y, .int .u8 z] .empty fun v H' => v = .bool true ∧ Ext .empty H' := by
  obtain ⟨n, rfl⟩ := Int.eq_ofNat_of_zero_le hx.1
  obtain ⟨n2, rfl⟩ := Int.eq_ofNat_of_zero_le hy.1
  obtain ⟨n3, rfl⟩ := Int.eq_ofNat_of_zero_le hz.1
  have t1 : (n : Int).tmod ((14 : Nat) : Int) = ((n % 14 : Nat) : Int) := tmodN (m := 14) (by omega) rfl
  have t2 : (n2 : Int).tmod ((14 : Nat) : Int) = ((n2 % 14 : Nat) : Int) := tmodN (m := 14) (by omega) rfl
  have t3 : (n3 : Int).tmod ((14 : Nat) : Int) = ((n3 % 14 : Nat) : Int) := tmodN (m := 14) (by omega) rfl
  refine call_pure rfl rfl rfl rfl rfl ?_
  repeat (first
      | (refine exec_more ?_; first
          | refine exec_seq ?_
          | refine exec_region ?_
          | refine exec_block ?_
          | refine exec_skip ?_
          | refine exec_exit ?_
          | refine exec_ret ?_
          | refine exec_true rfl ?_
          | refine exec_false rfl ?_)
      | refine ops_nil ?_
      | (refine ops_more ?_; first
          | (apply ops_pl rfl rfl rfl ?_ rfl ?_; rotate_left; focus first | exact (.bld rfl rfl rfl rfl) | exact (.cat rfl rfl rfl (by first | (simp; done) | (simp; omega))) | exact (.neSelf rfl rfl rfl rfl) | exact (.eqSelf rfl rfl rfl rfl) | exact (.wr64 rfl rfl (by omega) (by omega)) | exact (.p rfl rfl) | exact (.cv64 rfl (fun _ => rfl) (by omega) (by omega)) | exact (.l rfl (fun _ _ => rfl)) | exact (.l rfl (look_own 0 rfl rfl rfl rfl)) | exact (.l rfl (look_own 1 rfl rfl rfl rfl)) | exact (.l rfl (look_own 2 rfl rfl rfl rfl)) | exact (.l rfl (look_own 3 rfl rfl rfl rfl)) | exact (.l rfl (look_agg 0 rfl rfl rfl rfl)))
          | refine ops_skip rfl rfl rfl ?_
          | (refine ops_step rfl rfl rfl ?_; first | (refine step_box rfl rfl rfl (fun _ => ?_)) | (refine step_alloc rfl rfl rfl rfl (fun _ => ?_)) | (refine step_buildSliceF rfl rfl rfl rfl rfl rfl (fun _ => ?_)) | (refine step_map rfl (fun _ => ?_)) | (refine step_storeZ 0 rfl rfl rfl rfl rfl rfl rfl rfl rfl ?_))))
  refine ops_step rfl rfl rfl (step_call_pure rfl rfl rfl (fun H hs => call_known rfl) ?_)
  repeat (first
      | (refine exec_more ?_; first
          | refine exec_seq ?_
          | refine exec_region ?_
          | refine exec_block ?_
          | refine exec_skip ?_
          | refine exec_exit ?_
          | refine exec_ret ?_
          | refine exec_true rfl ?_
          | refine exec_false rfl ?_)
      | refine ops_nil ?_
      | (refine ops_more ?_; first
          | (apply ops_pl rfl rfl rfl ?_ rfl ?_; rotate_left; focus first | exact (.bld rfl rfl rfl rfl) | exact (.cat rfl rfl rfl (by first | (simp; done) | (simp; omega))) | exact (.neSelf rfl rfl rfl rfl) | exact (.eqSelf rfl rfl rfl rfl) | exact (.wr64 rfl rfl (by omega) (by omega)) | exact (.p rfl rfl) | exact (.cv64 rfl (fun _ => rfl) (by omega) (by omega)) | exact (.l rfl (fun _ _ => rfl)) | exact (.l rfl (look_own 0 rfl rfl rfl rfl)) | exact (.l rfl (look_own 1 rfl rfl rfl rfl)) | exact (.l rfl (look_own 2 rfl rfl rfl rfl)) | exact (.l rfl (look_own 3 rfl rfl rfl rfl)) | exact (.l rfl (look_agg 0 rfl rfl rfl rfl)))
          | refine ops_skip rfl rfl rfl ?_
          | (refine ops_step rfl rfl rfl ?_; first | (refine step_box rfl rfl rfl (fun _ => ?_)) | (refine step_alloc rfl rfl rfl rfl (fun _ => ?_)) | (refine step_buildSliceF rfl rfl rfl rfl rfl rfl (fun _ => ?_)) | (refine step_map rfl (fun _ => ?_)) | (refine step_storeZ 0 rfl rfl rfl rfl rfl rfl rfl rfl rfl ?_))))
  refine ops_step rfl rfl rfl (step_call_fp [] _ rfl rfl rfl (List.Perm.refl _) (fun H hs hst => seatArchive_ok hst h0 h1 h2 h3) (fun v F' h => ?_))
  obtain ⟨aa, ac, m6, kd, c4, c5, c6, c7, c8, c9, c11, c12, c13, c14, c15, c16, c17, cl, rfl, hF, hper, hR, hZ⟩ := h
  have hm := tmA_ok (arc_entG hF hR hper)
  have hl13 : cl.length = 13 := by rw [hper.length_eq]; rfl
  refine ops_step rfl rfl rfl (step_call_fp [] _ rfl rfl rfl (List.Perm.refl _) (fun H hs hst => new_ok hst hl13 (by omega) ((hZ.mono (List.sublist_append_left _ _)).pure hs)) (fun v F2 h => ?_))
  obtain ⟨tb, mb, es, rfl, rfl, hsay⟩ := h
  obtain ⟨A, hA⟩ : ∃ A : Atoms, A = (some tb, .cells 0 [.map (some mb), .slice aa 13 ac] 0 78) :: (some mb, .map es) :: F' := ⟨_, rfl⟩
  have hT : Rd A fun H => TreeH O H tb mb (.slice aa 13 ac) (gOf cl) := fun X' H0' H' hst' => (hZ.at (hst'.sublist (by rw [hA]; exact List.Sublist.cons _ (List.Sublist.cons _ (List.Sublist.refl _))))).tree (fun c h => h) (hst'.has _ _ (by rw [hA]; simp)) (hst'.has _ _ (by rw [hA]; simp)) hsay
  refine OpsS.weak (pickE_sub (ks := [1, 2, 3, 19]) rfl) (L' := A) (by rw [hA]; exact List.Sublist.cons_cons _ (List.Sublist.cons_cons _ (List.sublist_append_left _ _))) ?_
  clear hA hsay hZ hR hper hF hl13
  generalize gOf cl = g at hm hT
  obtain ⟨s1, s7, s⟩ := ord_law m6 _ (ordA_mem n)
  obtain ⟨s3, s4, s4', s5, s⟩ := s _ (ordA_mem n2)
  obtain ⟨s2, s6⟩ := s _ (ordA_mem n3)
  repeat (first
      | (refine exec_more ?_; first
          | refine exec_seq ?_
          | refine exec_region ?_
          | refine exec_block ?_
          | refine exec_skip ?_
          | refine exec_exit ?_
          | refine exec_ret ?_
          | refine exec_true rfl ?_
          | refine exec_false rfl ?_)
      | refine ops_nil ?_
      | (refine ops_more ?_; first
          | (apply ops_pl rfl rfl rfl ?_ rfl ?_; rotate_left; focus first | exact (.bld rfl rfl rfl rfl) | exact (.cat rfl rfl rfl (by first | (simp; done) | (simp; omega))) | exact (.neSelf rfl rfl rfl rfl) | exact (.eqSelf rfl rfl rfl rfl) | exact (.wr64 rfl rfl (by omega) (by omega)) | exact (.p rfl rfl) | exact (.cv64 rfl (fun _ => rfl) (by omega) (by omega)) | exact (.l rfl (fun _ _ => rfl)) | exact (.l rfl (look_own 0 rfl rfl rfl rfl)) | exact (.l rfl (look_own 1 rfl rfl rfl rfl)) | exact (.l rfl (look_own 2 rfl rfl rfl rfl)) | exact (.l rfl (look_own 3 rfl rfl rfl rfl)) | exact (.l rfl (look_agg 0 rfl rfl rfl rfl)))
          | refine ops_skip rfl rfl rfl ?_
          | (refine ops_step rfl rfl rfl ?_; first | (refine step_box rfl rfl rfl (fun _ => ?_)) | (refine step_alloc rfl rfl rfl rfl (fun _ => ?_)) | (refine step_buildSliceF rfl rfl rfl rfl rfl rfl (fun _ => ?_)) | (refine step_map rfl (fun _ => ?_)) | (refine step_storeZ 0 rfl rfl rfl rfl rfl rfl rfl rfl rfl ?_))))
  refine exec_draw (lst := [(0, 0), (1, 0), (2, 2), (3, 0), (4, 8), (5, 30), (6, 63), (7, 127), (8, 0), (9, 0), (10, 512), (11, 0), (12, 2048), (13, 7680), (14, 16128), (15, 32512), (16, 0), (17, 0), (18, 131072), (19, 0), (20, 524288), (21, 1966080), (22, 4128768), (23, 8323072), (24, 255), (25, 16842751), (26, 67108863)]) (full := 134217727) (by kernel_rfl) (by kernel_rfl) (by kernel_rfl) (by kernel_rfl) ?_
  repeat (first
      | (refine draw_more ?_; first
          | (apply draw_pl rfl rfl rfl rfl ?_ rfl rfl ?_; rotate_left; focus first | exact (.bld rfl rfl rfl rfl) | exact (.cat rfl rfl rfl (by first | (simp; done) | (simp; omega))) | exact (.neSelf rfl rfl rfl rfl) | exact (.eqSelf rfl rfl rfl rfl) | exact (.wr64 rfl rfl (by omega) (by omega)) | exact (.p rfl rfl) | exact (.cv64 rfl (fun _ => rfl) (by omega) (by omega)) | exact (.l rfl (fun _ _ => rfl)) | exact (.l rfl (look_own 0 rfl rfl rfl rfl)) | exact (.l rfl (look_own 1 rfl rfl rfl rfl)) | exact (.l rfl (look_own 2 rfl rfl rfl rfl)) | exact (.l rfl (look_own 3 rfl rfl rfl rfl)) | exact (.l rfl (look_agg 0 rfl rfl rfl rfl)))
          | refine draw_skip rfl rfl rfl rfl ?_))
  try refine draw_nil ?_
  rw [t1]
  first | refine ops_pl rfl rfl rfl (.p rfl (opP_idxo (z := 1) rfl rfl rfl rfl (by omega) (by omega))) rfl ?_ | refine draw_pl rfl rfl rfl rfl (.p rfl (opP_idxo (z := 1) rfl rfl rfl rfl (by omega) (by omega))) rfl rfl ?_
  first | refine ops_pl rfl rfl rfl (.l rfl (look_own 0 rfl rfl rfl (ordA_get n))) rfl ?_ | refine draw_pl rfl rfl rfl rfl (.l rfl (look_own 0 rfl rfl rfl (ordA_get n))) rfl rfl ?_
  repeat (first
      | (refine draw_more ?_; first
          | (apply draw_pl rfl rfl rfl rfl ?_ rfl rfl ?_; rotate_left; focus first | exact (.bld rfl rfl rfl rfl) | exact (.cat rfl rfl rfl (by first | (simp; done) | (simp; omega))) | exact (.neSelf rfl rfl rfl rfl) | exact (.eqSelf rfl rfl rfl rfl) | exact (.wr64 rfl rfl (by omega) (by omega)) | exact (.p rfl rfl) | exact (.cv64 rfl (fun _ => rfl) (by omega) (by omega)) | exact (.l rfl (fun _ _ => rfl)) | exact (.l rfl (look_own 0 rfl rfl rfl rfl)) | exact (.l rfl (look_own 1 rfl rfl rfl rfl)) | exact (.l rfl (look_own 2 rfl rfl rfl rfl)) | exact (.l rfl (look_own 3 rfl rfl rfl rfl)) | exact (.l rfl (look_agg 0 rfl rfl rfl rfl)))
          | refine draw_skip rfl rfl rfl rfl ?_))
  try refine draw_nil ?_
  rw [t2]
  first | refine ops_pl rfl rfl rfl (.p rfl (opP_idxo (z := 1) rfl rfl rfl rfl (by omega) (by omega))) rfl ?_ | refine draw_pl rfl rfl rfl rfl (.p rfl (opP_idxo (z := 1) rfl rfl rfl rfl (by omega) (by omega))) rfl rfl ?_
  first | refine ops_pl rfl rfl rfl (.l rfl (look_own 0 rfl rfl rfl (ordA_get n2))) rfl ?_ | refine draw_pl rfl rfl rfl rfl (.l rfl (look_own 0 rfl rfl rfl (ordA_get n2))) rfl rfl ?_
  repeat (first
      | (refine draw_more ?_; first
          | (apply draw_pl rfl rfl rfl rfl ?_ rfl rfl ?_; rotate_left; focus first | exact (.bld rfl rfl rfl rfl) | exact (.cat rfl rfl rfl (by first | (simp; done) | (simp; omega))) | exact (.neSelf rfl rfl rfl rfl) | exact (.eqSelf rfl rfl rfl rfl) | exact (.wr64 rfl rfl (by omega) (by omega)) | exact (.p rfl rfl) | exact (.cv64 rfl (fun _ => rfl) (by omega) (by omega)) | exact (.l rfl (fun _ _ => rfl)) | exact (.l rfl (look_own 0 rfl rfl rfl rfl)) | exact (.l rfl (look_own 1 rfl rfl rfl rfl)) | exact (.l rfl (look_own 2 rfl rfl rfl rfl)) | exact (.l rfl (look_own 3 rfl rfl rfl rfl)) | exact (.l rfl (look_agg 0 rfl rfl rfl rfl)))
          | refine draw_skip rfl rfl rfl rfl ?_))
  try refine draw_nil ?_
  rw [t3]
  first | refine ops_pl rfl rfl rfl (.p rfl (opP_idxo (z := 1) rfl rfl rfl rfl (by omega) (by omega))) rfl ?_ | refine draw_pl rfl rfl rfl rfl (.p rfl (opP_idxo (z := 1) rfl rfl rfl rfl (by omega) (by omega))) rfl rfl ?_
  first | refine ops_pl rfl rfl rfl (.l rfl (look_own 0 rfl rfl rfl (ordA_get n3))) rfl ?_ | refine draw_pl rfl rfl rfl rfl (.l rfl (look_own 0 rfl rfl rfl (ordA_get n3))) rfl rfl ?_
  repeat (first
      | (refine draw_more ?_; first
          | (apply draw_pl rfl rfl rfl rfl ?_ rfl rfl ?_; rotate_left; focus first | exact (.bld rfl rfl rfl rfl) | exact (.cat rfl rfl rfl (by first | (simp; done) | (simp; omega))) | exact (.neSelf rfl rfl rfl rfl) | exact (.eqSelf rfl rfl rfl rfl) | exact (.wr64 rfl rfl (by omega) (by omega)) | exact (.p rfl rfl) | exact (.cv64 rfl (fun _ => rfl) (by omega) (by omega)) | exact (.l rfl (fun _ _ => rfl)) | exact (.l rfl (look_own 0 rfl rfl rfl rfl)) | exact (.l rfl (look_own 1 rfl rfl rfl rfl)) | exact (.l rfl (look_own 2 rfl rfl rfl rfl)) | exact (.l rfl (look_own 3 rfl rfl rfl rfl)) | exact (.l rfl (look_agg 0 rfl rfl rfl rfl)))
          | refine draw_skip rfl rfl rfl rfl ?_))
  try refine draw_nil ?_
  generalize ordA n = a at s1 s2 s3 s4 s4' s5 s6 s7
  generalize ordA n2 = b at s2 s3 s4 s4' s5 s6
  generalize ordA n3 = c at s2 s6

  repeat (first
      | (refine exec_more ?_; first
          | refine exec_seq ?_
          | refine exec_region ?_
          | refine exec_block ?_
          | refine exec_skip ?_
          | refine exec_exit ?_
          | refine exec_ret ?_
          | refine exec_true rfl ?_
          | refine exec_false rfl ?_)
      | refine ops_nil ?_
      | (refine ops_more ?_; first
          | (apply ops_pl rfl rfl rfl ?_ rfl ?_; rotate_left; focus first | exact (.neSelf rfl rfl rfl rfl) | exact (.eqSelf rfl rfl rfl rfl) | exact (.p rfl rfl) | exact (.l rfl (fun _ _ => rfl)))
          | refine ops_skip rfl rfl rfl ?_
          | (refine ops_step rfl rfl rfl ?_; first | (refine step_box rfl rfl rfl (fun _ => ?_)) | (refine step_alloc rfl rfl rfl rfl (fun _ => ?_)) | (refine step_buildSliceF rfl rfl rfl rfl rfl rfl (fun _ => ?_)) | (refine step_map rfl (fun _ => ?_)) | (refine step_storeZ 0 rfl rfl rfl rfl rfl rfl rfl rfl rfl ?_))))
  refine ops_step rfl rfl rfl (step_call_pure rfl rfl rfl (fun H hs => commonM_ok (a := a) (b := b) hm ((hT.mono (by repeat first | exact List.Sublist.refl _ | apply List.Sublist.cons)).pure hs)) ?_)
  generalize hd : (tmA m6).common a b = d at s4 s4' s5 s6
  repeat (first
      | (refine exec_more ?_; first
          | refine exec_seq ?_
          | refine exec_region ?_
          | refine exec_block ?_
          | refine exec_skip ?_
          | refine exec_exit ?_
          | refine exec_ret ?_
          | refine exec_true rfl ?_
          | refine exec_false rfl ?_)
      | refine ops_nil ?_
      | (refine ops_more ?_; first
          | (apply ops_pl rfl rfl rfl ?_ rfl ?_; rotate_left; focus first | exact (.neSelf rfl rfl rfl rfl) | exact (.eqSelf rfl rfl rfl rfl) | exact (.p rfl rfl) | exact (.l rfl (fun _ _ => rfl)))
          | refine ops_skip rfl rfl rfl ?_
          | (refine ops_step rfl rfl rfl ?_; first | (refine step_box rfl rfl rfl (fun _ => ?_)) | (refine step_alloc rfl rfl rfl rfl (fun _ => ?_)) | (refine step_buildSliceF rfl rfl rfl rfl rfl rfl (fun _ => ?_)) | (refine step_map rfl (fun _ => ?_)) | (refine step_storeZ 0 rfl rfl rfl rfl rfl rfl rfl rfl rfl ?_))))
  refine ops_step rfl rfl rfl (step_call_pure rfl rfl rfl (fun H hs => subM_ok (a := a) (b := a) hm ((hT.mono (by repeat first | exact List.Sublist.refl _ | apply List.Sublist.cons)).pure hs)) ?_)
  rw [s1]
  repeat (first
      | (refine exec_more ?_; first
          | refine exec_seq ?_
          | refine exec_region ?_
          | refine exec_block ?_
          | refine exec_skip ?_
          | refine exec_exit ?_
          | refine exec_ret ?_
          | refine exec_true rfl ?_
          | refine exec_false rfl ?_)
      | refine ops_nil ?_
      | (refine ops_more ?_; first
          | (apply ops_pl rfl rfl rfl ?_ rfl ?_; rotate_left; focus first | exact (.neSelf rfl rfl rfl rfl) | exact (.eqSelf rfl rfl rfl rfl) | exact (.p rfl rfl) | exact (.l rfl (fun _ _ => rfl)))
          | refine ops_skip rfl rfl rfl ?_
          | (refine ops_step rfl rfl rfl ?_; first | (refine step_box rfl rfl rfl (fun _ => ?_)) | (refine step_alloc rfl rfl rfl rfl (fun _ => ?_)) | (refine step_buildSliceF rfl rfl rfl rfl rfl rfl (fun _ => ?_)) | (refine step_map rfl (fun _ => ?_)) | (refine step_storeZ 0 rfl rfl rfl rfl rfl rfl rfl rfl rfl ?_))))
  refine ops_step rfl rfl rfl (step_call_pure rfl rfl rfl (fun H hs => subM_ok (a := a) (b := b) hm ((hT.mono (by repeat first | exact List.Sublist.refl _ | apply List.Sublist.cons)).pure hs)) ?_)
  cases f1 : (tmA m6).sub a b
  · repeat (first
        | (refine exec_more ?_; first
            | refine exec_seq ?_
            | refine exec_region ?_
            | refine exec_block ?_
            | refine exec_skip ?_
            | refine exec_exit ?_
            | refine exec_ret ?_
            | refine exec_true rfl ?_
            | refine exec_false rfl ?_)
        | refine ops_nil ?_
        | (refine ops_more ?_; first
            | (apply ops_pl rfl rfl rfl ?_ rfl ?_; rotate_left; focus first | exact (.neSelf rfl rfl rfl rfl) | exact (.eqSelf rfl rfl rfl rfl) | exact (.p rfl rfl) | exact (.l rfl (fun _ _ => rfl)))
            | refine ops_skip rfl rfl rfl ?_
            | (refine ops_step rfl rfl rfl ?_; first | (refine step_box rfl rfl rfl (fun _ => ?_)) | (refine step_alloc rfl rfl rfl rfl (fun _ => ?_)) | (refine step_buildSliceF rfl rfl rfl rfl rfl rfl (fun _ => ?_)) | (refine step_map rfl (fun _ => ?_)) | (refine step_storeZ 0 rfl rfl rfl rfl rfl rfl rfl rfl rfl ?_))))
    refine ops_step rfl rfl rfl (step_call_pure rfl rfl rfl (fun H hs => subM_ok (a := a) (b := b) hm ((hT.mono (by repeat first | exact List.Sublist.refl _ | apply List.Sublist.cons)).pure hs)) ?_)
    rw [f1]
    repeat (first
        | (refine exec_more ?_; first
            | refine exec_seq ?_
            | refine exec_region ?_
            | refine exec_block ?_
            | refine exec_skip ?_
            | refine exec_exit ?_
            | refine exec_ret ?_
            | refine exec_true rfl ?_
            | refine exec_false rfl ?_)
        | refine ops_nil ?_
        | (refine ops_more ?_; first
            | (apply ops_pl rfl rfl rfl ?_ rfl ?_; rotate_left; focus first | exact (.neSelf rfl rfl rfl rfl) | exact (.eqSelf rfl rfl rfl rfl) | exact (.p rfl rfl) | exact (.l rfl (fun _ _ => rfl)))
            | refine ops_skip rfl rfl rfl ?_
            | (refine ops_step rfl rfl rfl ?_; first | (refine step_box rfl rfl rfl (fun _ => ?_)) | (refine step_alloc rfl rfl rfl rfl (fun _ => ?_)) | (refine step_buildSliceF rfl rfl rfl rfl rfl rfl (fun _ => ?_)) | (refine step_map rfl (fun _ => ?_)) | (refine step_storeZ 0 rfl rfl rfl rfl rfl rfl rfl rfl rfl ?_))))
    refine ops_step rfl rfl rfl (step_call_pure rfl rfl rfl (fun H hs => subM_ok (a := a) (b := d) hm ((hT.mono (by repeat first | exact List.Sublist.refl _ | apply List.Sublist.cons)).pure hs)) ?_)
    rw [s4]
    repeat (first
        | (refine exec_more ?_; first
            | refine exec_seq ?_
            | refine exec_region ?_
            | refine exec_block ?_
            | refine exec_skip ?_
            | refine exec_exit ?_
            | refine exec_ret ?_
            | refine exec_true rfl ?_
            | refine exec_false rfl ?_)
        | refine ops_nil ?_
        | (refine ops_more ?_; first
            | (apply ops_pl rfl rfl rfl ?_ rfl ?_; rotate_left; focus first | exact (.neSelf rfl rfl rfl rfl) | exact (.eqSelf rfl rfl rfl rfl) | exact (.p rfl rfl) | exact (.l rfl (fun _ _ => rfl)))
            | refine ops_skip rfl rfl rfl ?_
            | (refine ops_step rfl rfl rfl ?_; first | (refine step_box rfl rfl rfl (fun _ => ?_)) | (refine step_alloc rfl rfl rfl rfl (fun _ => ?_)) | (refine step_buildSliceF rfl rfl rfl rfl rfl rfl (fun _ => ?_)) | (refine step_map rfl (fun _ => ?_)) | (refine step_storeZ 0 rfl rfl rfl rfl rfl rfl rfl rfl rfl ?_))))
    refine ops_step rfl rfl rfl (step_call_pure rfl rfl rfl (fun H hs => subM_ok (a := b) (b := d) hm ((hT.mono (by repeat first | exact List.Sublist.refl _ | apply List.Sublist.cons)).pure hs)) ?_)
    rw [s4']
    repeat (first
        | (refine exec_more ?_; first
            | refine exec_seq ?_
            | refine exec_region ?_
            | refine exec_block ?_
            | refine exec_skip ?_
            | refine exec_exit ?_
            | refine exec_ret ?_
            | refine exec_true rfl ?_
            | refine exec_false rfl ?_)
        | refine ops_nil ?_
        | (refine ops_more ?_; first
            | (apply ops_pl rfl rfl rfl ?_ rfl ?_; rotate_left; focus first | exact (.neSelf rfl rfl rfl rfl) | exact (.eqSelf rfl rfl rfl rfl) | exact (.p rfl rfl) | exact (.l rfl (fun _ _ => rfl)))
            | refine ops_skip rfl rfl rfl ?_
            | (refine ops_step rfl rfl rfl ?_; first | (refine step_box rfl rfl rfl (fun _ => ?_)) | (refine step_alloc rfl rfl rfl rfl (fun _ => ?_)) | (refine step_buildSliceF rfl rfl rfl rfl rfl rfl (fun _ => ?_)) | (refine step_map rfl (fun _ => ?_)) | (refine step_storeZ 0 rfl rfl rfl rfl rfl rfl rfl rfl rfl ?_))))
    refine ops_step rfl rfl rfl (step_call_pure rfl rfl rfl (fun H hs => commonM_ok (a := b) (b := a) hm ((hT.mono (by repeat first | exact List.Sublist.refl _ | apply List.Sublist.cons)).pure hs)) ?_)
    rw [s5]
    repeat (first
        | (refine exec_more ?_; first
            | refine exec_seq ?_
            | refine exec_region ?_
            | refine exec_block ?_
            | refine exec_skip ?_
            | refine exec_exit ?_
            | refine exec_ret ?_
            | refine exec_true rfl ?_
            | refine exec_false rfl ?_)
        | refine ops_nil ?_
        | (refine ops_more ?_; first
            | (apply ops_pl rfl rfl rfl ?_ rfl ?_; rotate_left; focus first | exact (.neSelf rfl rfl rfl rfl) | exact (.eqSelf rfl rfl rfl rfl) | exact (.p rfl rfl) | exact (.l rfl (fun _ _ => rfl)))
            | refine ops_skip rfl rfl rfl ?_
            | (refine ops_step rfl rfl rfl ?_; first | (refine step_box rfl rfl rfl (fun _ => ?_)) | (refine step_alloc rfl rfl rfl rfl (fun _ => ?_)) | (refine step_buildSliceF rfl rfl rfl rfl rfl rfl (fun _ => ?_)) | (refine step_map rfl (fun _ => ?_)) | (refine step_storeZ 0 rfl rfl rfl rfl rfl rfl rfl rfl rfl ?_))))
    rw [baEq d d, decide_eq_true rfl]
    repeat (first
        | (refine exec_more ?_; first
            | refine exec_seq ?_
            | refine exec_region ?_
            | refine exec_block ?_
            | refine exec_skip ?_
            | refine exec_exit ?_
            | refine exec_ret ?_
            | refine exec_true rfl ?_
            | refine exec_false rfl ?_)
        | refine ops_nil ?_
        | (refine ops_more ?_; first
            | (apply ops_pl rfl rfl rfl ?_ rfl ?_; rotate_left; focus first | exact (.neSelf rfl rfl rfl rfl) | exact (.eqSelf rfl rfl rfl rfl) | exact (.p rfl rfl) | exact (.l rfl (fun _ _ => rfl)))
            | refine ops_skip rfl rfl rfl ?_
            | (refine ops_step rfl rfl rfl ?_; first | (refine step_box rfl rfl rfl (fun _ => ?_)) | (refine step_alloc rfl rfl rfl rfl (fun _ => ?_)) | (refine step_buildSliceF rfl rfl rfl rfl rfl rfl (fun _ => ?_)) | (refine step_map rfl (fun _ => ?_)) | (refine step_storeZ 0 rfl rfl rfl rfl rfl rfl rfl rfl rfl ?_))))
    refine ops_step rfl rfl rfl (step_call_pure rfl rfl rfl (fun H hs => commonM_ok (a := b) (b := c) hm ((hT.mono (by repeat first | exact List.Sublist.refl _ | apply List.Sublist.cons)).pure hs)) ?_)
    repeat (first
        | (refine exec_more ?_; first
            | refine exec_seq ?_
            | refine exec_region ?_
            | refine exec_block ?_
            | refine exec_skip ?_
            | refine exec_exit ?_
            | refine exec_ret ?_
            | refine exec_true rfl ?_
            | refine exec_false rfl ?_)
        | refine ops_nil ?_
        | (refine ops_more ?_; first
            | (apply ops_pl rfl rfl rfl ?_ rfl ?_; rotate_left; focus first | exact (.neSelf rfl rfl rfl rfl) | exact (.eqSelf rfl rfl rfl rfl) | exact (.p rfl rfl) | exact (.l rfl (fun _ _ => rfl)))
            | refine ops_skip rfl rfl rfl ?_
            | (refine ops_step rfl rfl rfl ?_; first | (refine step_box rfl rfl rfl (fun _ => ?_)) | (refine step_alloc rfl rfl rfl rfl (fun _ => ?_)) | (refine step_buildSliceF rfl rfl rfl rfl rfl rfl (fun _ => ?_)) | (refine step_map rfl (fun _ => ?_)) | (refine step_storeZ 0 rfl rfl rfl rfl rfl rfl rfl rfl rfl ?_))))
    refine ops_step rfl rfl rfl (step_call_pure rfl rfl rfl (fun H hs => commonM_ok (a := a) (b := (tmA m6).common b c) hm ((hT.mono (by repeat first | exact List.Sublist.refl _ | apply List.Sublist.cons)).pure hs)) ?_)
    rw [s6]
    repeat (first
        | (refine exec_more ?_; first
            | refine exec_seq ?_
            | refine exec_region ?_
            | refine exec_block ?_
            | refine exec_skip ?_
            | refine exec_exit ?_
            | refine exec_ret ?_
            | refine exec_true rfl ?_
            | refine exec_false rfl ?_)
        | refine ops_nil ?_
        | (refine ops_more ?_; first
            | (apply ops_pl rfl rfl rfl ?_ rfl ?_; rotate_left; focus first | exact (.neSelf rfl rfl rfl rfl) | exact (.eqSelf rfl rfl rfl rfl) | exact (.p rfl rfl) | exact (.l rfl (fun _ _ => rfl)))
            | refine ops_skip rfl rfl rfl ?_
            | (refine ops_step rfl rfl rfl ?_; first | (refine step_box rfl rfl rfl (fun _ => ?_)) | (refine step_alloc rfl rfl rfl rfl (fun _ => ?_)) | (refine step_buildSliceF rfl rfl rfl rfl rfl rfl (fun _ => ?_)) | (refine step_map rfl (fun _ => ?_)) | (refine step_storeZ 0 rfl rfl rfl rfl rfl rfl rfl rfl rfl ?_))))
    refine ops_step rfl rfl rfl (step_call_pure rfl rfl rfl (fun H hs => commonM_ok (a := a) (b := b) hm ((hT.mono (by repeat first | exact List.Sublist.refl _ | apply List.Sublist.cons)).pure hs)) ?_)
    rw [hd]
    repeat (first
        | (refine exec_more ?_; first
            | refine exec_seq ?_
            | refine exec_region ?_
            | refine exec_block ?_
            | refine exec_skip ?_
            | refine exec_exit ?_
            | refine exec_ret ?_
            | refine exec_true rfl ?_
            | refine exec_false rfl ?_)
        | refine ops_nil ?_
        | (refine ops_more ?_; first
            | (apply ops_pl rfl rfl rfl ?_ rfl ?_; rotate_left; focus first | exact (.neSelf rfl rfl rfl rfl) | exact (.eqSelf rfl rfl rfl rfl) | exact (.p rfl rfl) | exact (.l rfl (fun _ _ => rfl)))
            | refine ops_skip rfl rfl rfl ?_
            | (refine ops_step rfl rfl rfl ?_; first | (refine step_box rfl rfl rfl (fun _ => ?_)) | (refine step_alloc rfl rfl rfl rfl (fun _ => ?_)) | (refine step_buildSliceF rfl rfl rfl rfl rfl rfl (fun _ => ?_)) | (refine step_map rfl (fun _ => ?_)) | (refine step_storeZ 0 rfl rfl rfl rfl rfl rfl rfl rfl rfl ?_))))
    refine ops_step rfl rfl rfl (step_call_pure rfl rfl rfl (fun H hs => commonM_ok (a := d) (b := c) hm ((hT.mono (by repeat first | exact List.Sublist.refl _ | apply List.Sublist.cons)).pure hs)) ?_)
    repeat (first
        | (refine exec_more ?_; first
            | refine exec_seq ?_
            | refine exec_region ?_
            | refine exec_block ?_
            | refine exec_skip ?_
            | refine exec_exit ?_
            | refine exec_ret ?_
            | refine exec_true rfl ?_
            | refine exec_false rfl ?_)
        | refine ops_nil ?_
        | (refine ops_more ?_; first
            | (apply ops_pl rfl rfl rfl ?_ rfl ?_; rotate_left; focus first | exact (.neSelf rfl rfl rfl rfl) | exact (.eqSelf rfl rfl rfl rfl) | exact (.p rfl rfl) | exact (.l rfl (fun _ _ => rfl)))
            | refine ops_skip rfl rfl rfl ?_
            | (refine ops_step rfl rfl rfl ?_; first | (refine step_box rfl rfl rfl (fun _ => ?_)) | (refine step_alloc rfl rfl rfl rfl (fun _ => ?_)) | (refine step_buildSliceF rfl rfl rfl rfl rfl rfl (fun _ => ?_)) | (refine step_map rfl (fun _ => ?_)) | (refine step_storeZ 0 rfl rfl rfl rfl rfl rfl rfl rfl rfl ?_))))
    rw [baEq, decide_eq_true rfl]
    repeat (first
        | (refine exec_more ?_; first
            | refine exec_seq ?_
            | refine exec_region ?_
            | refine exec_block ?_
            | refine exec_skip ?_
            | refine exec_exit ?_
            | refine exec_ret ?_
            | refine exec_true rfl ?_
            | refine exec_false rfl ?_)
        | refine ops_nil ?_
        | (refine ops_more ?_; first
            | (apply ops_pl rfl rfl rfl ?_ rfl ?_; rotate_left; focus first | exact (.neSelf rfl rfl rfl rfl) | exact (.eqSelf rfl rfl rfl rfl) | exact (.p rfl rfl) | exact (.l rfl (fun _ _ => rfl)))
            | refine ops_skip rfl rfl rfl ?_
            | (refine ops_step rfl rfl rfl ?_; first | (refine step_box rfl rfl rfl (fun _ => ?_)) | (refine step_alloc rfl rfl rfl rfl (fun _ => ?_)) | (refine step_buildSliceF rfl rfl rfl rfl rfl rfl (fun _ => ?_)) | (refine step_map rfl (fun _ => ?_)) | (refine step_storeZ 0 rfl rfl rfl rfl rfl rfl rfl rfl rfl ?_))))
    refine ops_step rfl rfl rfl (step_call_pure rfl rfl rfl (fun H hs => subM_ok (a := a) (b := objB) hm ((hT.mono (by repeat first | exact List.Sublist.refl _ | apply List.Sublist.cons)).pure hs)) ?_)
    rw [s7]
    repeat (first
        | (refine exec_more ?_; first
            | refine exec_seq ?_
            | refine exec_region ?_
            | refine exec_block ?_
            | refine exec_skip ?_
            | refine exec_exit ?_
            | refine exec_ret ?_
            | refine exec_true rfl ?_
            | refine exec_false rfl ?_)
        | refine ops_nil ?_
        | (refine ops_more ?_; first
            | (apply ops_pl rfl rfl rfl ?_ rfl ?_; rotate_left; focus first | exact (.neSelf rfl rfl rfl rfl) | exact (.eqSelf rfl rfl rfl rfl) | exact (.p rfl rfl) | exact (.l rfl (fun _ _ => rfl)))
            | refine ops_skip rfl rfl rfl ?_
            | (refine ops_step rfl rfl rfl ?_; first | (refine step_box rfl rfl rfl (fun _ => ?_)) | (refine step_alloc rfl rfl rfl rfl (fun _ => ?_)) | (refine step_buildSliceF rfl rfl rfl rfl rfl rfl (fun _ => ?_)) | (refine step_map rfl (fun _ => ?_)) | (refine step_storeZ 0 rfl rfl rfl rfl rfl rfl rfl rfl rfl ?_))))
    exact ⟨trivial, _, rfl, rfl⟩
  repeat (first
      | (refine exec_more ?_; first
          | refine exec_seq ?_
          | refine exec_region ?_
          | refine exec_block ?_
          | refine exec_skip ?_
          | refine exec_exit ?_
          | refine exec_ret ?_
          | refine exec_true rfl ?_
          | refine exec_false rfl ?_)
      | refine ops_nil ?_
      | (refine ops_more ?_; first
          | (apply ops_pl rfl rfl rfl ?_ rfl ?_; rotate_left; focus first | exact (.neSelf rfl rfl rfl rfl) | exact (.eqSelf rfl rfl rfl rfl) | exact (.p rfl rfl) | exact (.l rfl (fun _ _ => rfl)))
          | refine ops_skip rfl rfl rfl ?_
          | (refine ops_step rfl rfl rfl ?_; first | (refine step_box rfl rfl rfl (fun _ => ?_)) | (refine step_alloc rfl rfl rfl rfl (fun _ => ?_)) | (refine step_buildSliceF rfl rfl rfl rfl rfl rfl (fun _ => ?_)) | (refine step_map rfl (fun _ => ?_)) | (refine step_storeZ 0 rfl rfl rfl rfl rfl rfl rfl rfl rfl ?_))))
  refine ops_step rfl rfl rfl (step_call_pure rfl rfl rfl (fun H hs => subM_ok (a := b) (b := c) hm ((hT.mono (by repeat first | exact List.Sublist.refl _ | apply List.Sublist.cons)).pure hs)) ?_)
  cases f2 : (tmA m6).sub b c
  · skip
    repeat (first
        | (refine exec_more ?_; first
            | refine exec_seq ?_
            | refine exec_region ?_
            | refine exec_block ?_
            | refine exec_skip ?_
            | refine exec_exit ?_
            | refine exec_ret ?_
            | refine exec_true rfl ?_
            | refine exec_false rfl ?_)
        | refine ops_nil ?_
        | (refine ops_more ?_; first
            | (apply ops_pl rfl rfl rfl ?_ rfl ?_; rotate_left; focus first | exact (.neSelf rfl rfl rfl rfl) | exact (.eqSelf rfl rfl rfl rfl) | exact (.p rfl rfl) | exact (.l rfl (fun _ _ => rfl)))
            | refine ops_skip rfl rfl rfl ?_
            | (refine ops_step rfl rfl rfl ?_; first | (refine step_box rfl rfl rfl (fun _ => ?_)) | (refine step_alloc rfl rfl rfl rfl (fun _ => ?_)) | (refine step_buildSliceF rfl rfl rfl rfl rfl rfl (fun _ => ?_)) | (refine step_map rfl (fun _ => ?_)) | (refine step_storeZ 0 rfl rfl rfl rfl rfl rfl rfl rfl rfl ?_))))
    refine ops_step rfl rfl rfl (step_call_pure rfl rfl rfl (fun H hs => subM_ok (a := a) (b := b) hm ((hT.mono (by repeat first | exact List.Sublist.refl _ | apply List.Sublist.cons)).pure hs)) ?_)
    rw [f1]
    repeat (first
        | (refine exec_more ?_; first
            | refine exec_seq ?_
            | refine exec_region ?_
            | refine exec_block ?_
            | refine exec_skip ?_
            | refine exec_exit ?_
            | refine exec_ret ?_
            | refine exec_true rfl ?_
            | refine exec_false rfl ?_)
        | refine ops_nil ?_
        | (refine ops_more ?_; first
            | (apply ops_pl rfl rfl rfl ?_ rfl ?_; rotate_left; focus first | exact (.neSelf rfl rfl rfl rfl) | exact (.eqSelf rfl rfl rfl rfl) | exact (.p rfl rfl) | exact (.l rfl (fun _ _ => rfl)))
            | refine ops_skip rfl rfl rfl ?_
            | (refine ops_step rfl rfl rfl ?_; first | (refine step_box rfl rfl rfl (fun _ => ?_)) | (refine step_alloc rfl rfl rfl rfl (fun _ => ?_)) | (refine step_buildSliceF rfl rfl rfl rfl rfl rfl (fun _ => ?_)) | (refine step_map rfl (fun _ => ?_)) | (refine step_storeZ 0 rfl rfl rfl rfl rfl rfl rfl rfl rfl ?_))))
    refine ops_step rfl rfl rfl (step_call_pure rfl rfl rfl (fun H hs => subM_ok (a := b) (b := a) hm ((hT.mono (by repeat first | exact List.Sublist.refl _ | apply List.Sublist.cons)).pure hs)) ?_)
    cases f4 : (tmA m6).sub b a
    · skip
      repeat (first
          | (refine exec_more ?_; first
              | refine exec_seq ?_
              | refine exec_region ?_
              | refine exec_block ?_
              | refine exec_skip ?_
              | refine exec_exit ?_
              | refine exec_ret ?_
              | refine exec_true rfl ?_
              | refine exec_false rfl ?_)
          | refine ops_nil ?_
          | (refine ops_more ?_; first
              | (apply ops_pl rfl rfl rfl ?_ rfl ?_; rotate_left; focus first | exact (.neSelf rfl rfl rfl rfl) | exact (.eqSelf rfl rfl rfl rfl) | exact (.p rfl rfl) | exact (.l rfl (fun _ _ => rfl)))
              | refine ops_skip rfl rfl rfl ?_
              | (refine ops_step rfl rfl rfl ?_; first | (refine step_box rfl rfl rfl (fun _ => ?_)) | (refine step_alloc rfl rfl rfl rfl (fun _ => ?_)) | (refine step_buildSliceF rfl rfl rfl rfl rfl rfl (fun _ => ?_)) | (refine step_map rfl (fun _ => ?_)) | (refine step_storeZ 0 rfl rfl rfl rfl rfl rfl rfl rfl rfl ?_))))
      refine ops_step rfl rfl rfl (step_call_pure rfl rfl rfl (fun H hs => subM_ok (a := a) (b := d) hm ((hT.mono (by repeat first | exact List.Sublist.refl _ | apply List.Sublist.cons)).pure hs)) ?_)
      rw [s4]
      repeat (first
          | (refine exec_more ?_; first
              | refine exec_seq ?_
              | refine exec_region ?_
              | refine exec_block ?_
              | refine exec_skip ?_
              | refine exec_exit ?_
              | refine exec_ret ?_
              | refine exec_true rfl ?_
              | refine exec_false rfl ?_)
          | refine ops_nil ?_
          | (refine ops_more ?_; first
              | (apply ops_pl rfl rfl rfl ?_ rfl ?_; rotate_left; focus first | exact (.neSelf rfl rfl rfl rfl) | exact (.eqSelf rfl rfl rfl rfl) | exact (.p rfl rfl) | exact (.l rfl (fun _ _ => rfl)))
              | refine ops_skip rfl rfl rfl ?_
              | (refine ops_step rfl rfl rfl ?_; first | (refine step_box rfl rfl rfl (fun _ => ?_)) | (refine step_alloc rfl rfl rfl rfl (fun _ => ?_)) | (refine step_buildSliceF rfl rfl rfl rfl rfl rfl (fun _ => ?_)) | (refine step_map rfl (fun _ => ?_)) | (refine step_storeZ 0 rfl rfl rfl rfl rfl rfl rfl rfl rfl ?_))))
      refine ops_step rfl rfl rfl (step_call_pure rfl rfl rfl (fun H hs => subM_ok (a := b) (b := d) hm ((hT.mono (by repeat first | exact List.Sublist.refl _ | apply List.Sublist.cons)).pure hs)) ?_)
      rw [s4']
      repeat (first
          | (refine exec_more ?_; first
              | refine exec_seq ?_
              | refine exec_region ?_
              | refine exec_block ?_
              | refine exec_skip ?_
              | refine exec_exit ?_
              | refine exec_ret ?_
              | refine exec_true rfl ?_
              | refine exec_false rfl ?_)
          | refine ops_nil ?_
          | (refine ops_more ?_; first
              | (apply ops_pl rfl rfl rfl ?_ rfl ?_; rotate_left; focus first | exact (.neSelf rfl rfl rfl rfl) | exact (.eqSelf rfl rfl rfl rfl) | exact (.p rfl rfl) | exact (.l rfl (fun _ _ => rfl)))
              | refine ops_skip rfl rfl rfl ?_
              | (refine ops_step rfl rfl rfl ?_; first | (refine step_box rfl rfl rfl (fun _ => ?_)) | (refine step_alloc rfl rfl rfl rfl (fun _ => ?_)) | (refine step_buildSliceF rfl rfl rfl rfl rfl rfl (fun _ => ?_)) | (refine step_map rfl (fun _ => ?_)) | (refine step_storeZ 0 rfl rfl rfl rfl rfl rfl rfl rfl rfl ?_))))
      refine ops_step rfl rfl rfl (step_call_pure rfl rfl rfl (fun H hs => commonM_ok (a := b) (b := a) hm ((hT.mono (by repeat first | exact List.Sublist.refl _ | apply List.Sublist.cons)).pure hs)) ?_)
      rw [s5]
      repeat (first
          | (refine exec_more ?_; first
              | refine exec_seq ?_
              | refine exec_region ?_
              | refine exec_block ?_
              | refine exec_skip ?_
              | refine exec_exit ?_
              | refine exec_ret ?_
              | refine exec_true rfl ?_
              | refine exec_false rfl ?_)
          | refine ops_nil ?_
          | (refine ops_more ?_; first
              | (apply ops_pl rfl rfl rfl ?_ rfl ?_; rotate_left; focus first | exact (.neSelf rfl rfl rfl rfl) | exact (.eqSelf rfl rfl rfl rfl) | exact (.p rfl rfl) | exact (.l rfl (fun _ _ => rfl)))
              | refine ops_skip rfl rfl rfl ?_
              | (refine ops_step rfl rfl rfl ?_; first | (refine step_box rfl rfl rfl (fun _ => ?_)) | (refine step_alloc rfl rfl rfl rfl (fun _ => ?_)) | (refine step_buildSliceF rfl rfl rfl rfl rfl rfl (fun _ => ?_)) | (refine step_map rfl (fun _ => ?_)) | (refine step_storeZ 0 rfl rfl rfl rfl rfl rfl rfl rfl rfl ?_))))
      rw [baEq d d, decide_eq_true rfl]
      repeat (first
          | (refine exec_more ?_; first
              | refine exec_seq ?_
              | refine exec_region ?_
              | refine exec_block ?_
              | refine exec_skip ?_
              | refine exec_exit ?_
              | refine exec_ret ?_
              | refine exec_true rfl ?_
              | refine exec_false rfl ?_)
          | refine ops_nil ?_
          | (refine ops_more ?_; first
              | (apply ops_pl rfl rfl rfl ?_ rfl ?_; rotate_left; focus first | exact (.neSelf rfl rfl rfl rfl) | exact (.eqSelf rfl rfl rfl rfl) | exact (.p rfl rfl) | exact (.l rfl (fun _ _ => rfl)))
              | refine ops_skip rfl rfl rfl ?_
              | (refine ops_step rfl rfl rfl ?_; first | (refine step_box rfl rfl rfl (fun _ => ?_)) | (refine step_alloc rfl rfl rfl rfl (fun _ => ?_)) | (refine step_buildSliceF rfl rfl rfl rfl rfl rfl (fun _ => ?_)) | (refine step_map rfl (fun _ => ?_)) | (refine step_storeZ 0 rfl rfl rfl rfl rfl rfl rfl rfl rfl ?_))))
      refine ops_step rfl rfl rfl (step_call_pure rfl rfl rfl (fun H hs => commonM_ok (a := b) (b := c) hm ((hT.mono (by repeat first | exact List.Sublist.refl _ | apply List.Sublist.cons)).pure hs)) ?_)
      repeat (first
          | (refine exec_more ?_; first
              | refine exec_seq ?_
              | refine exec_region ?_
              | refine exec_block ?_
              | refine exec_skip ?_
              | refine exec_exit ?_
              | refine exec_ret ?_
              | refine exec_true rfl ?_
              | refine exec_false rfl ?_)
          | refine ops_nil ?_
          | (refine ops_more ?_; first
              | (apply ops_pl rfl rfl rfl ?_ rfl ?_; rotate_left; focus first | exact (.neSelf rfl rfl rfl rfl) | exact (.eqSelf rfl rfl rfl rfl) | exact (.p rfl rfl) | exact (.l rfl (fun _ _ => rfl)))
              | refine ops_skip rfl rfl rfl ?_
              | (refine ops_step rfl rfl rfl ?_; first | (refine step_box rfl rfl rfl (fun _ => ?_)) | (refine step_alloc rfl rfl rfl rfl (fun _ => ?_)) | (refine step_buildSliceF rfl rfl rfl rfl rfl rfl (fun _ => ?_)) | (refine step_map rfl (fun _ => ?_)) | (refine step_storeZ 0 rfl rfl rfl rfl rfl rfl rfl rfl rfl ?_))))
      refine ops_step rfl rfl rfl (step_call_pure rfl rfl rfl (fun H hs => commonM_ok (a := a) (b := (tmA m6).common b c) hm ((hT.mono (by repeat first | exact List.Sublist.refl _ | apply List.Sublist.cons)).pure hs)) ?_)
      rw [s6]
      repeat (first
          | (refine exec_more ?_; first
              | refine exec_seq ?_
              | refine exec_region ?_
              | refine exec_block ?_
              | refine exec_skip ?_
              | refine exec_exit ?_
              | refine exec_ret ?_
              | refine exec_true rfl ?_
              | refine exec_false rfl ?_)
          | refine ops_nil ?_
          | (refine ops_more ?_; first
              | (apply ops_pl rfl rfl rfl ?_ rfl ?_; rotate_left; focus first | exact (.neSelf rfl rfl rfl rfl) | exact (.eqSelf rfl rfl rfl rfl) | exact (.p rfl rfl) | exact (.l rfl (fun _ _ => rfl)))
              | refine ops_skip rfl rfl rfl ?_
              | (refine ops_step rfl rfl rfl ?_; first | (refine step_box rfl rfl rfl (fun _ => ?_)) | (refine step_alloc rfl rfl rfl rfl (fun _ => ?_)) | (refine step_buildSliceF rfl rfl rfl rfl rfl rfl (fun _ => ?_)) | (refine step_map rfl (fun _ => ?_)) | (refine step_storeZ 0 rfl rfl rfl rfl rfl rfl rfl rfl rfl ?_))))
      refine ops_step rfl rfl rfl (step_call_pure rfl rfl rfl (fun H hs => commonM_ok (a := a) (b := b) hm ((hT.mono (by repeat first | exact List.Sublist.refl _ | apply List.Sublist.cons)).pure hs)) ?_)
      rw [hd]
      repeat (first
          | (refine exec_more ?_; first
              | refine exec_seq ?_
              | refine exec_region ?_
              | refine exec_block ?_
              | refine exec_skip ?_
              | refine exec_exit ?_
              | refine exec_ret ?_
              | refine exec_true rfl ?_
              | refine exec_false rfl ?_)
          | refine ops_nil ?_
          | (refine ops_more ?_; first
              | (apply ops_pl rfl rfl rfl ?_ rfl ?_; rotate_left; focus first | exact (.neSelf rfl rfl rfl rfl) | exact (.eqSelf rfl rfl rfl rfl) | exact (.p rfl rfl) | exact (.l rfl (fun _ _ => rfl)))
              | refine ops_skip rfl rfl rfl ?_
              | (refine ops_step rfl rfl rfl ?_; first | (refine step_box rfl rfl rfl (fun _ => ?_)) | (refine step_alloc rfl rfl rfl rfl (fun _ => ?_)) | (refine step_buildSliceF rfl rfl rfl rfl rfl rfl (fun _ => ?_)) | (refine step_map rfl (fun _ => ?_)) | (refine step_storeZ 0 rfl rfl rfl rfl rfl rfl rfl rfl rfl ?_))))
      refine ops_step rfl rfl rfl (step_call_pure rfl rfl rfl (fun H hs => commonM_ok (a := d) (b := c) hm ((hT.mono (by repeat first | exact List.Sublist.refl _ | apply List.Sublist.cons)).pure hs)) ?_)
      repeat (first
          | (refine exec_more ?_; first
              | refine exec_seq ?_
              | refine exec_region ?_
              | refine exec_block ?_
              | refine exec_skip ?_
              | refine exec_exit ?_
              | refine exec_ret ?_
              | refine exec_true rfl ?_
              | refine exec_false rfl ?_)
          | refine ops_nil ?_
          | (refine ops_more ?_; first
              | (apply ops_pl rfl rfl rfl ?_ rfl ?_; rotate_left; focus first | exact (.neSelf rfl rfl rfl rfl) | exact (.eqSelf rfl rfl rfl rfl) | exact (.p rfl rfl) | exact (.l rfl (fun _ _ => rfl)))
              | refine ops_skip rfl rfl rfl ?_
              | (refine ops_step rfl rfl rfl ?_; first | (refine step_box rfl rfl rfl (fun _ => ?_)) | (refine step_alloc rfl rfl rfl rfl (fun _ => ?_)) | (refine step_buildSliceF rfl rfl rfl rfl rfl rfl (fun _ => ?_)) | (refine step_map rfl (fun _ => ?_)) | (refine step_storeZ 0 rfl rfl rfl rfl rfl rfl rfl rfl rfl ?_))))
      rw [baEq, decide_eq_true rfl]
      repeat (first
          | (refine exec_more ?_; first
              | refine exec_seq ?_
              | refine exec_region ?_
              | refine exec_block ?_
              | refine exec_skip ?_
              | refine exec_exit ?_
              | refine exec_ret ?_
              | refine exec_true rfl ?_
              | refine exec_false rfl ?_)
          | refine ops_nil ?_
          | (refine ops_more ?_; first
              | (apply ops_pl rfl rfl rfl ?_ rfl ?_; rotate_left; focus first | exact (.neSelf rfl rfl rfl rfl) | exact (.eqSelf rfl rfl rfl rfl) | exact (.p rfl rfl) | exact (.l rfl (fun _ _ => rfl)))
              | refine ops_skip rfl rfl rfl ?_
              | (refine ops_step rfl rfl rfl ?_; first | (refine step_box rfl rfl rfl (fun _ => ?_)) | (refine step_alloc rfl rfl rfl rfl (fun _ => ?_)) | (refine step_buildSliceF rfl rfl rfl rfl rfl rfl (fun _ => ?_)) | (refine step_map rfl (fun _ => ?_)) | (refine step_storeZ 0 rfl rfl rfl rfl rfl rfl rfl rfl rfl ?_))))
      refine ops_step rfl rfl rfl (step_call_pure rfl rfl rfl (fun H hs => subM_ok (a := a) (b := objB) hm ((hT.mono (by repeat first | exact List.Sublist.refl _ | apply List.Sublist.cons)).pure hs)) ?_)
      rw [s7]
      repeat (first
          | (refine exec_more ?_; first
              | refine exec_seq ?_
              | refine exec_region ?_
              | refine exec_block ?_
              | refine exec_skip ?_
              | refine exec_exit ?_
              | refine exec_ret ?_
              | refine exec_true rfl ?_
              | refine exec_false rfl ?_)
          | refine ops_nil ?_
          | (refine ops_more ?_; first
              | (apply ops_pl rfl rfl rfl ?_ rfl ?_; rotate_left; focus first | exact (.neSelf rfl rfl rfl rfl) | exact (.eqSelf rfl rfl rfl rfl) | exact (.p rfl rfl) | exact (.l rfl (fun _ _ => rfl)))
              | refine ops_skip rfl rfl rfl ?_
              | (refine ops_step rfl rfl rfl ?_; first | (refine step_box rfl rfl rfl (fun _ => ?_)) | (refine step_alloc rfl rfl rfl rfl (fun _ => ?_)) | (refine step_buildSliceF rfl rfl rfl rfl rfl rfl (fun _ => ?_)) | (refine step_map rfl (fun _ => ?_)) | (refine step_storeZ 0 rfl rfl rfl rfl rfl rfl rfl rfl rfl ?_))))
      exact ⟨trivial, _, rfl, rfl⟩
    repeat (first
        | (refine exec_more ?_; first
            | refine exec_seq ?_
            | refine exec_region ?_
            | refine exec_block ?_
            | refine exec_skip ?_
            | refine exec_exit ?_
            | refine exec_ret ?_
            | refine exec_true rfl ?_
            | refine exec_false rfl ?_)
        | refine ops_nil ?_
        | (refine ops_more ?_; first
            | (apply ops_pl rfl rfl rfl ?_ rfl ?_; rotate_left; focus first | exact (.neSelf rfl rfl rfl rfl) | exact (.eqSelf rfl rfl rfl rfl) | exact (.p rfl rfl) | exact (.l rfl (fun _ _ => rfl)))
            | refine ops_skip rfl rfl rfl ?_
            | (refine ops_step rfl rfl rfl ?_; first | (refine step_box rfl rfl rfl (fun _ => ?_)) | (refine step_alloc rfl rfl rfl rfl (fun _ => ?_)) | (refine step_buildSliceF rfl rfl rfl rfl rfl rfl (fun _ => ?_)) | (refine step_map rfl (fun _ => ?_)) | (refine step_storeZ 0 rfl rfl rfl rfl rfl rfl rfl rfl rfl ?_))))
    rw [baEq a b, decide_eq_true (s3 f1 f4)]
    repeat (first
        | (refine exec_more ?_; first
            | refine exec_seq ?_
            | refine exec_region ?_
            | refine exec_block ?_
            | refine exec_skip ?_
            | refine exec_exit ?_
            | refine exec_ret ?_
            | refine exec_true rfl ?_
            | refine exec_false rfl ?_)
        | refine ops_nil ?_
        | (refine ops_more ?_; first
            | (apply ops_pl rfl rfl rfl ?_ rfl ?_; rotate_left; focus first | exact (.neSelf rfl rfl rfl rfl) | exact (.eqSelf rfl rfl rfl rfl) | exact (.p rfl rfl) | exact (.l rfl (fun _ _ => rfl)))
            | refine ops_skip rfl rfl rfl ?_
            | (refine ops_step rfl rfl rfl ?_; first | (refine step_box rfl rfl rfl (fun _ => ?_)) | (refine step_alloc rfl rfl rfl rfl (fun _ => ?_)) | (refine step_buildSliceF rfl rfl rfl rfl rfl rfl (fun _ => ?_)) | (refine step_map rfl (fun _ => ?_)) | (refine step_storeZ 0 rfl rfl rfl rfl rfl rfl rfl rfl rfl ?_))))
    refine ops_step rfl rfl rfl (step_call_pure rfl rfl rfl (fun H hs => subM_ok (a := a) (b := d) hm ((hT.mono (by repeat first | exact List.Sublist.refl _ | apply List.Sublist.cons)).pure hs)) ?_)
    rw [s4]
    repeat (first
        | (refine exec_more ?_; first
            | refine exec_seq ?_
            | refine exec_region ?_
            | refine exec_block ?_
            | refine exec_skip ?_
            | refine exec_exit ?_
            | refine exec_ret ?_
            | refine exec_true rfl ?_
            | refine exec_false rfl ?_)
        | refine ops_nil ?_
        | (refine ops_more ?_; first
            | (apply ops_pl rfl rfl rfl ?_ rfl ?_; rotate_left; focus first | exact (.neSelf rfl rfl rfl rfl) | exact (.eqSelf rfl rfl rfl rfl) | exact (.p rfl rfl) | exact (.l rfl (fun _ _ => rfl)))
            | refine ops_skip rfl rfl rfl ?_
            | (refine ops_step rfl rfl rfl ?_; first | (refine step_box rfl rfl rfl (fun _ => ?_)) | (refine step_alloc rfl rfl rfl rfl (fun _ => ?_)) | (refine step_buildSliceF rfl rfl rfl rfl rfl rfl (fun _ => ?_)) | (refine step_map rfl (fun _ => ?_)) | (refine step_storeZ 0 rfl rfl rfl rfl rfl rfl rfl rfl rfl ?_))))
    refine ops_step rfl rfl rfl (step_call_pure rfl rfl rfl (fun H hs => subM_ok (a := b) (b := d) hm ((hT.mono (by repeat first | exact List.Sublist.refl _ | apply List.Sublist.cons)).pure hs)) ?_)
    rw [s4']
    repeat (first
        | (refine exec_more ?_; first
            | refine exec_seq ?_
            | refine exec_region ?_
            | refine exec_block ?_
            | refine exec_skip ?_
            | refine exec_exit ?_
            | refine exec_ret ?_
            | refine exec_true rfl ?_
            | refine exec_false rfl ?_)
        | refine ops_nil ?_
        | (refine ops_more ?_; first
            | (apply ops_pl rfl rfl rfl ?_ rfl ?_; rotate_left; focus first | exact (.neSelf rfl rfl rfl rfl) | exact (.eqSelf rfl rfl rfl rfl) | exact (.p rfl rfl) | exact (.l rfl (fun _ _ => rfl)))
            | refine ops_skip rfl rfl rfl ?_
            | (refine ops_step rfl rfl rfl ?_; first | (refine step_box rfl rfl rfl (fun _ => ?_)) | (refine step_alloc rfl rfl rfl rfl (fun _ => ?_)) | (refine step_buildSliceF rfl rfl rfl rfl rfl rfl (fun _ => ?_)) | (refine step_map rfl (fun _ => ?_)) | (refine step_storeZ 0 rfl rfl rfl rfl rfl rfl rfl rfl rfl ?_))))
    refine ops_step rfl rfl rfl (step_call_pure rfl rfl rfl (fun H hs => commonM_ok (a := b) (b := a) hm ((hT.mono (by repeat first | exact List.Sublist.refl _ | apply List.Sublist.cons)).pure hs)) ?_)
    rw [s5]
    repeat (first
        | (refine exec_more ?_; first
            | refine exec_seq ?_
            | refine exec_region ?_
            | refine exec_block ?_
            | refine exec_skip ?_
            | refine exec_exit ?_
            | refine exec_ret ?_
            | refine exec_true rfl ?_
            | refine exec_false rfl ?_)
        | refine ops_nil ?_
        | (refine ops_more ?_; first
            | (apply ops_pl rfl rfl rfl ?_ rfl ?_; rotate_left; focus first | exact (.neSelf rfl rfl rfl rfl) | exact (.eqSelf rfl rfl rfl rfl) | exact (.p rfl rfl) | exact (.l rfl (fun _ _ => rfl)))
            | refine ops_skip rfl rfl rfl ?_
            | (refine ops_step rfl rfl rfl ?_; first | (refine step_box rfl rfl rfl (fun _ => ?_)) | (refine step_alloc rfl rfl rfl rfl (fun _ => ?_)) | (refine step_buildSliceF rfl rfl rfl rfl rfl rfl (fun _ => ?_)) | (refine step_map rfl (fun _ => ?_)) | (refine step_storeZ 0 rfl rfl rfl rfl rfl rfl rfl rfl rfl ?_))))
    rw [baEq d d, decide_eq_true rfl]
    repeat (first
        | (refine exec_more ?_; first
            | refine exec_seq ?_
            | refine exec_region ?_
            | refine exec_block ?_
            | refine exec_skip ?_
            | refine exec_exit ?_
            | refine exec_ret ?_
            | refine exec_true rfl ?_
            | refine exec_false rfl ?_)
        | refine ops_nil ?_
        | (refine ops_more ?_; first
            | (apply ops_pl rfl rfl rfl ?_ rfl ?_; rotate_left; focus first | exact (.neSelf rfl rfl rfl rfl) | exact (.eqSelf rfl rfl rfl rfl) | exact (.p rfl rfl) | exact (.l rfl (fun _ _ => rfl)))
            | refine ops_skip rfl rfl rfl ?_
            | (refine ops_step rfl rfl rfl ?_; first | (refine step_box rfl rfl rfl (fun _ => ?_)) | (refine step_alloc rfl rfl rfl rfl (fun _ => ?_)) | (refine step_buildSliceF rfl rfl rfl rfl rfl rfl (fun _ => ?_)) | (refine step_map rfl (fun _ => ?_)) | (refine step_storeZ 0 rfl rfl rfl rfl rfl rfl rfl rfl rfl ?_))))
    refine ops_step rfl rfl rfl (step_call_pure rfl rfl rfl (fun H hs => commonM_ok (a := b) (b := c) hm ((hT.mono (by repeat first | exact List.Sublist.refl _ | apply List.Sublist.cons)).pure hs)) ?_)
    repeat (first
        | (refine exec_more ?_; first
            | refine exec_seq ?_
            | refine exec_region ?_
            | refine exec_block ?_
            | refine exec_skip ?_
            | refine exec_exit ?_
            | refine exec_ret ?_
            | refine exec_true rfl ?_
            | refine exec_false rfl ?_)
        | refine ops_nil ?_
        | (refine ops_more ?_; first
            | (apply ops_pl rfl rfl rfl ?_ rfl ?_; rotate_left; focus first | exact (.neSelf rfl rfl rfl rfl) | exact (.eqSelf rfl rfl rfl rfl) | exact (.p rfl rfl) | exact (.l rfl (fun _ _ => rfl)))
            | refine ops_skip rfl rfl rfl ?_
            | (refine ops_step rfl rfl rfl ?_; first | (refine step_box rfl rfl rfl (fun _ => ?_)) | (refine step_alloc rfl rfl rfl rfl (fun _ => ?_)) | (refine step_buildSliceF rfl rfl rfl rfl rfl rfl (fun _ => ?_)) | (refine step_map rfl (fun _ => ?_)) | (refine step_storeZ 0 rfl rfl rfl rfl rfl rfl rfl rfl rfl ?_))))
    refine ops_step rfl rfl rfl (step_call_pure rfl rfl rfl (fun H hs => commonM_ok (a := a) (b := (tmA m6).common b c) hm ((hT.mono (by repeat first | exact List.Sublist.refl _ | apply List.Sublist.cons)).pure hs)) ?_)
    rw [s6]
    repeat (first
        | (refine exec_more ?_; first
            | refine exec_seq ?_
            | refine exec_region ?_
            | refine exec_block ?_
            | refine exec_skip ?_
            | refine exec_exit ?_
            | refine exec_ret ?_
            | refine exec_true rfl ?_
            | refine exec_false rfl ?_)
        | refine ops_nil ?_
        | (refine ops_more ?_; first
            | (apply ops_pl rfl rfl rfl ?_ rfl ?_; rotate_left; focus first | exact (.neSelf rfl rfl rfl rfl) | exact (.eqSelf rfl rfl rfl rfl) | exact (.p rfl rfl) | exact (.l rfl (fun _ _ => rfl)))
            | refine ops_skip rfl rfl rfl ?_
            | (refine ops_step rfl rfl rfl ?_; first | (refine step_box rfl rfl rfl (fun _ => ?_)) | (refine step_alloc rfl rfl rfl rfl (fun _ => ?_)) | (refine step_buildSliceF rfl rfl rfl rfl rfl rfl (fun _ => ?_)) | (refine step_map rfl (fun _ => ?_)) | (refine step_storeZ 0 rfl rfl rfl rfl rfl rfl rfl rfl rfl ?_))))
    refine ops_step rfl rfl rfl (step_call_pure rfl rfl rfl (fun H hs => commonM_ok (a := a) (b := b) hm ((hT.mono (by repeat first | exact List.Sublist.refl _ | apply List.Sublist.cons)).pure hs)) ?_)
    rw [hd]
    repeat (first
        | (refine exec_more ?_; first
            | refine exec_seq ?_
            | refine exec_region ?_
            | refine exec_block ?_
            | refine exec_skip ?_
            | refine exec_exit ?_
            | refine exec_ret ?_
            | refine exec_true rfl ?_
            | refine exec_false rfl ?_)
        | refine ops_nil ?_
        | (refine ops_more ?_; first
            | (apply ops_pl rfl rfl rfl ?_ rfl ?_; rotate_left; focus first | exact (.neSelf rfl rfl rfl rfl) | exact (.eqSelf rfl rfl rfl rfl) | exact (.p rfl rfl) | exact (.l rfl (fun _ _ => rfl)))
            | refine ops_skip rfl rfl rfl ?_
            | (refine ops_step rfl rfl rfl ?_; first | (refine step_box rfl rfl rfl (fun _ => ?_)) | (refine step_alloc rfl rfl rfl rfl (fun _ => ?_)) | (refine step_buildSliceF rfl rfl rfl rfl rfl rfl (fun _ => ?_)) | (refine step_map rfl (fun _ => ?_)) | (refine step_storeZ 0 rfl rfl rfl rfl rfl rfl rfl rfl rfl ?_))))
    refine ops_step rfl rfl rfl (step_call_pure rfl rfl rfl (fun H hs => commonM_ok (a := d) (b := c) hm ((hT.mono (by repeat first | exact List.Sublist.refl _ | apply List.Sublist.cons)).pure hs)) ?_)
    repeat (first
        | (refine exec_more ?_; first
            | refine exec_seq ?_
            | refine exec_region ?_
            | refine exec_block ?_
            | refine exec_skip ?_
            | refine exec_exit ?_
            | refine exec_ret ?_
            | refine exec_true rfl ?_
            | refine exec_false rfl ?_)
        | refine ops_nil ?_
        | (refine ops_more ?_; first
            | (apply ops_pl rfl rfl rfl ?_ rfl ?_; rotate_left; focus first | exact (.neSelf rfl rfl rfl rfl) | exact (.eqSelf rfl rfl rfl rfl) | exact (.p rfl rfl) | exact (.l rfl (fun _ _ => rfl)))
            | refine ops_skip rfl rfl rfl ?_
            | (refine ops_step rfl rfl rfl ?_; first | (refine step_box rfl rfl rfl (fun _ => ?_)) | (refine step_alloc rfl rfl rfl rfl (fun _ => ?_)) | (refine step_buildSliceF rfl rfl rfl rfl rfl rfl (fun _ => ?_)) | (refine step_map rfl (fun _ => ?_)) | (refine step_storeZ 0 rfl rfl rfl rfl rfl rfl rfl rfl rfl ?_))))
    rw [baEq, decide_eq_true rfl]
    repeat (first
        | (refine exec_more ?_; first
            | refine exec_seq ?_
            | refine exec_region ?_
            | refine exec_block ?_
            | refine exec_skip ?_
            | refine exec_exit ?_
            | refine exec_ret ?_
            | refine exec_true rfl ?_
            | refine exec_false rfl ?_)
        | refine ops_nil ?_
        | (refine ops_more ?_; first
            | (apply ops_pl rfl rfl rfl ?_ rfl ?_; rotate_left; focus first | exact (.neSelf rfl rfl rfl rfl) | exact (.eqSelf rfl rfl rfl rfl) | exact (.p rfl rfl) | exact (.l rfl (fun _ _ => rfl)))
            | refine ops_skip rfl rfl rfl ?_
            | (refine ops_step rfl rfl rfl ?_; first | (refine step_box rfl rfl rfl (fun _ => ?_)) | (refine step_alloc rfl rfl rfl rfl (fun _ => ?_)) | (refine step_buildSliceF rfl rfl rfl rfl rfl rfl (fun _ => ?_)) | (refine step_map rfl (fun _ => ?_)) | (refine step_storeZ 0 rfl rfl rfl rfl rfl rfl rfl rfl rfl ?_))))
    refine ops_step rfl rfl rfl (step_call_pure rfl rfl rfl (fun H hs => subM_ok (a := a) (b := objB) hm ((hT.mono (by repeat first | exact List.Sublist.refl _ | apply List.Sublist.cons)).pure hs)) ?_)
    rw [s7]
    repeat (first
        | (refine exec_more ?_; first
            | refine exec_seq ?_
            | refine exec_region ?_
            | refine exec_block ?_
            | refine exec_skip ?_
            | refine exec_exit ?_
            | refine exec_ret ?_
            | refine exec_true rfl ?_
            | refine exec_false rfl ?_)
        | refine ops_nil ?_
        | (refine ops_more ?_; first
            | (apply ops_pl rfl rfl rfl ?_ rfl ?_; rotate_left; focus first | exact (.neSelf rfl rfl rfl rfl) | exact (.eqSelf rfl rfl rfl rfl) | exact (.p rfl rfl) | exact (.l rfl (fun _ _ => rfl)))
            | refine ops_skip rfl rfl rfl ?_
            | (refine ops_step rfl rfl rfl ?_; first | (refine step_box rfl rfl rfl (fun _ => ?_)) | (refine step_alloc rfl rfl rfl rfl (fun _ => ?_)) | (refine step_buildSliceF rfl rfl rfl rfl rfl rfl (fun _ => ?_)) | (refine step_map rfl (fun _ => ?_)) | (refine step_storeZ 0 rfl rfl rfl rfl rfl rfl rfl rfl rfl ?_))))
    exact ⟨trivial, _, rfl, rfl⟩
  repeat (first
      | (refine exec_more ?_; first
          | refine exec_seq ?_
          | refine exec_region ?_
          | refine exec_block ?_
          | refine exec_skip ?_
          | refine exec_exit ?_
          | refine exec_ret ?_
          | refine exec_true rfl ?_
          | refine exec_false rfl ?_)
      | refine ops_nil ?_
      | (refine ops_more ?_; first
          | (apply ops_pl rfl rfl rfl ?_ rfl ?_; rotate_left; focus first | exact (.neSelf rfl rfl rfl rfl) | exact (.eqSelf rfl rfl rfl rfl) | exact (.p rfl rfl) | exact (.l rfl (fun _ _ => rfl)))
          | refine ops_skip rfl rfl rfl ?_
          | (refine ops_step rfl rfl rfl ?_; first | (refine step_box rfl rfl rfl (fun _ => ?_)) | (refine step_alloc rfl rfl rfl rfl (fun _ => ?_)) | (refine step_buildSliceF rfl rfl rfl rfl rfl rfl (fun _ => ?_)) | (refine step_map rfl (fun _ => ?_)) | (refine step_storeZ 0 rfl rfl rfl rfl rfl rfl rfl rfl rfl ?_))))
  refine ops_step rfl rfl rfl (step_call_pure rfl rfl rfl (fun H hs => subM_ok (a := a) (b := c) hm ((hT.mono (by repeat first | exact List.Sublist.refl _ | apply List.Sublist.cons)).pure hs)) ?_)
  rw [s2 f1 f2]
  repeat (first
      | (refine exec_more ?_; first
          | refine exec_seq ?_
          | refine exec_region ?_
          | refine exec_block ?_
          | refine exec_skip ?_
          | refine exec_exit ?_
          | refine exec_ret ?_
          | refine exec_true rfl ?_
          | refine exec_false rfl ?_)
      | refine ops_nil ?_
      | (refine ops_more ?_; first
          | (apply ops_pl rfl rfl rfl ?_ rfl ?_; rotate_left; focus first | exact (.neSelf rfl rfl rfl rfl) | exact (.eqSelf rfl rfl rfl rfl) | exact (.p rfl rfl) | exact (.l rfl (fun _ _ => rfl)))
          | refine ops_skip rfl rfl rfl ?_
          | (refine ops_step rfl rfl rfl ?_; first | (refine step_box rfl rfl rfl (fun _ => ?_)) | (refine step_alloc rfl rfl rfl rfl (fun _ => ?_)) | (refine step_buildSliceF rfl rfl rfl rfl rfl rfl (fun _ => ?_)) | (refine step_map rfl (fun _ => ?_)) | (refine step_storeZ 0 rfl rfl rfl rfl rfl rfl rfl rfl rfl ?_))))
  refine ops_step rfl rfl rfl (step_call_pure rfl rfl rfl (fun H hs => subM_ok (a := a) (b := b) hm ((hT.mono (by repeat first | exact List.Sublist.refl _ | apply List.Sublist.cons)).pure hs)) ?_)
  rw [f1]
  repeat (first
      | (refine exec_more ?_; first
          | refine exec_seq ?_
          | refine exec_region ?_
          | refine exec_block ?_
          | refine exec_skip ?_
          | refine exec_exit ?_
          | refine exec_ret ?_
          | refine exec_true rfl ?_
          | refine exec_false rfl ?_)
      | refine ops_nil ?_
      | (refine ops_more ?_; first
          | (apply ops_pl rfl rfl rfl ?_ rfl ?_; rotate_left; focus first | exact (.neSelf rfl rfl rfl rfl) | exact (.eqSelf rfl rfl rfl rfl) | exact (.p rfl rfl) | exact (.l rfl (fun _ _ => rfl)))
          | refine ops_skip rfl rfl rfl ?_
          | (refine ops_step rfl rfl rfl ?_; first | (refine step_box rfl rfl rfl (fun _ => ?_)) | (refine step_alloc rfl rfl rfl rfl (fun _ => ?_)) | (refine step_buildSliceF rfl rfl rfl rfl rfl rfl (fun _ => ?_)) | (refine step_map rfl (fun _ => ?_)) | (refine step_storeZ 0 rfl rfl rfl rfl rfl rfl rfl rfl rfl ?_))))
  refine ops_step rfl rfl rfl (step_call_pure rfl rfl rfl (fun H hs => subM_ok (a := b) (b := a) hm ((hT.mono (by repeat first | exact List.Sublist.refl _ | apply List.Sublist.cons)).pure hs)) ?_)
  cases f4 : (tmA m6).sub b a
  · skip
    repeat (first
        | (refine exec_more ?_; first
            | refine exec_seq ?_
            | refine exec_region ?_
            | refine exec_block ?_
            | refine exec_skip ?_
            | refine exec_exit ?_
            | refine exec_ret ?_
            | refine exec_true rfl ?_
            | refine exec_false rfl ?_)
        | refine ops_nil ?_
        | (refine ops_more ?_; first
            | (apply ops_pl rfl rfl rfl ?_ rfl ?_; rotate_left; focus first | exact (.neSelf rfl rfl rfl rfl) | exact (.eqSelf rfl rfl rfl rfl) | exact (.p rfl rfl) | exact (.l rfl (fun _ _ => rfl)))
            | refine ops_skip rfl rfl rfl ?_
            | (refine ops_step rfl rfl rfl ?_; first | (refine step_box rfl rfl rfl (fun _ => ?_)) | (refine step_alloc rfl rfl rfl rfl (fun _ => ?_)) | (refine step_buildSliceF rfl rfl rfl rfl rfl rfl (fun _ => ?_)) | (refine step_map rfl (fun _ => ?_)) | (refine step_storeZ 0 rfl rfl rfl rfl rfl rfl rfl rfl rfl ?_))))
    refine ops_step rfl rfl rfl (step_call_pure rfl rfl rfl (fun H hs => subM_ok (a := a) (b := d) hm ((hT.mono (by repeat first | exact List.Sublist.refl _ | apply List.Sublist.cons)).pure hs)) ?_)
    rw [s4]
    repeat (first
        | (refine exec_more ?_; first
            | refine exec_seq ?_
            | refine exec_region ?_
            | refine exec_block ?_
            | refine exec_skip ?_
            | refine exec_exit ?_
            | refine exec_ret ?_
            | refine exec_true rfl ?_
            | refine exec_false rfl ?_)
        | refine ops_nil ?_
        | (refine ops_more ?_; first
            | (apply ops_pl rfl rfl rfl ?_ rfl ?_; rotate_left; focus first | exact (.neSelf rfl rfl rfl rfl) | exact (.eqSelf rfl rfl rfl rfl) | exact (.p rfl rfl) | exact (.l rfl (fun _ _ => rfl)))
            | refine ops_skip rfl rfl rfl ?_
            | (refine ops_step rfl rfl rfl ?_; first | (refine step_box rfl rfl rfl (fun _ => ?_)) | (refine step_alloc rfl rfl rfl rfl (fun _ => ?_)) | (refine step_buildSliceF rfl rfl rfl rfl rfl rfl (fun _ => ?_)) | (refine step_map rfl (fun _ => ?_)) | (refine step_storeZ 0 rfl rfl rfl rfl rfl rfl rfl rfl rfl ?_))))
    refine ops_step rfl rfl rfl (step_call_pure rfl rfl rfl (fun H hs => subM_ok (a := b) (b := d) hm ((hT.mono (by repeat first | exact List.Sublist.refl _ | apply List.Sublist.cons)).pure hs)) ?_)
    rw [s4']
    repeat (first
        | (refine exec_more ?_; first
            | refine exec_seq ?_
            | refine exec_region ?_
            | refine exec_block ?_
            | refine exec_skip ?_
            | refine exec_exit ?_
            | refine exec_ret ?_
            | refine exec_true rfl ?_
            | refine exec_false rfl ?_)
        | refine ops_nil ?_
        | (refine ops_more ?_; first
            | (apply ops_pl rfl rfl rfl ?_ rfl ?_; rotate_left; focus first | exact (.neSelf rfl rfl rfl rfl) | exact (.eqSelf rfl rfl rfl rfl) | exact (.p rfl rfl) | exact (.l rfl (fun _ _ => rfl)))
            | refine ops_skip rfl rfl rfl ?_
            | (refine ops_step rfl rfl rfl ?_; first | (refine step_box rfl rfl rfl (fun _ => ?_)) | (refine step_alloc rfl rfl rfl rfl (fun _ => ?_)) | (refine step_buildSliceF rfl rfl rfl rfl rfl rfl (fun _ => ?_)) | (refine step_map rfl (fun _ => ?_)) | (refine step_storeZ 0 rfl rfl rfl rfl rfl rfl rfl rfl rfl ?_))))
    refine ops_step rfl rfl rfl (step_call_pure rfl rfl rfl (fun H hs => commonM_ok (a := b) (b := a) hm ((hT.mono (by repeat first | exact List.Sublist.refl _ | apply List.Sublist.cons)).pure hs)) ?_)
    rw [s5]
    repeat (first
        | (refine exec_more ?_; first
            | refine exec_seq ?_
            | refine exec_region ?_
            | refine exec_block ?_
            | refine exec_skip ?_
            | refine exec_exit ?_
            | refine exec_ret ?_
            | refine exec_true rfl ?_
            | refine exec_false rfl ?_)
        | refine ops_nil ?_
        | (refine ops_more ?_; first
            | (apply ops_pl rfl rfl rfl ?_ rfl ?_; rotate_left; focus first | exact (.neSelf rfl rfl rfl rfl) | exact (.eqSelf rfl rfl rfl rfl) | exact (.p rfl rfl) | exact (.l rfl (fun _ _ => rfl)))
            | refine ops_skip rfl rfl rfl ?_
            | (refine ops_step rfl rfl rfl ?_; first | (refine step_box rfl rfl rfl (fun _ => ?_)) | (refine step_alloc rfl rfl rfl rfl (fun _ => ?_)) | (refine step_buildSliceF rfl rfl rfl rfl rfl rfl (fun _ => ?_)) | (refine step_map rfl (fun _ => ?_)) | (refine step_storeZ 0 rfl rfl rfl rfl rfl rfl rfl rfl rfl ?_))))
    rw [baEq d d, decide_eq_true rfl]
    repeat (first
        | (refine exec_more ?_; first
            | refine exec_seq ?_
            | refine exec_region ?_
            | refine exec_block ?_
            | refine exec_skip ?_
            | refine exec_exit ?_
            | refine exec_ret ?_
            | refine exec_true rfl ?_
            | refine exec_false rfl ?_)
        | refine ops_nil ?_
        | (refine ops_more ?_; first
            | (apply ops_pl rfl rfl rfl ?_ rfl ?_; rotate_left; focus first | exact (.neSelf rfl rfl rfl rfl) | exact (.eqSelf rfl rfl rfl rfl) | exact (.p rfl rfl) | exact (.l rfl (fun _ _ => rfl)))
            | refine ops_skip rfl rfl rfl ?_
            | (refine ops_step rfl rfl rfl ?_; first | (refine step_box rfl rfl rfl (fun _ => ?_)) | (refine step_alloc rfl rfl rfl rfl (fun _ => ?_)) | (refine step_buildSliceF rfl rfl rfl rfl rfl rfl (fun _ => ?_)) | (refine step_map rfl (fun _ => ?_)) | (refine step_storeZ 0 rfl rfl rfl rfl rfl rfl rfl rfl rfl ?_))))
    refine ops_step rfl rfl rfl (step_call_pure rfl rfl rfl (fun H hs => commonM_ok (a := b) (b := c) hm ((hT.mono (by repeat first | exact List.Sublist.refl _ | apply List.Sublist.cons)).pure hs)) ?_)
    repeat (first
        | (refine exec_more ?_; first
            | refine exec_seq ?_
            | refine exec_region ?_
            | refine exec_block ?_
            | refine exec_skip ?_
            | refine exec_exit ?_
            | refine exec_ret ?_
            | refine exec_true rfl ?_
            | refine exec_false rfl ?_)
        | refine ops_nil ?_
        | (refine ops_more ?_; first
            | (apply ops_pl rfl rfl rfl ?_ rfl ?_; rotate_left; focus first | exact (.neSelf rfl rfl rfl rfl) | exact (.eqSelf rfl rfl rfl rfl) | exact (.p rfl rfl) | exact (.l rfl (fun _ _ => rfl)))
            | refine ops_skip rfl rfl rfl ?_
            | (refine ops_step rfl rfl rfl ?_; first | (refine step_box rfl rfl rfl (fun _ => ?_)) | (refine step_alloc rfl rfl rfl rfl (fun _ => ?_)) | (refine step_buildSliceF rfl rfl rfl rfl rfl rfl (fun _ => ?_)) | (refine step_map rfl (fun _ => ?_)) | (refine step_storeZ 0 rfl rfl rfl rfl rfl rfl rfl rfl rfl ?_))))
    refine ops_step rfl rfl rfl (step_call_pure rfl rfl rfl (fun H hs => commonM_ok (a := a) (b := (tmA m6).common b c) hm ((hT.mono (by repeat first | exact List.Sublist.refl _ | apply List.Sublist.cons)).pure hs)) ?_)
    rw [s6]
    repeat (first
        | (refine exec_more ?_; first
            | refine exec_seq ?_
            | refine exec_region ?_
            | refine exec_block ?_
            | refine exec_skip ?_
            | refine exec_exit ?_
            | refine exec_ret ?_
            | refine exec_true rfl ?_
            | refine exec_false rfl ?_)
        | refine ops_nil ?_
        | (refine ops_more ?_; first
            | (apply ops_pl rfl rfl rfl ?_ rfl ?_; rotate_left; focus first | exact (.neSelf rfl rfl rfl rfl) | exact (.eqSelf rfl rfl rfl rfl) | exact (.p rfl rfl) | exact (.l rfl (fun _ _ => rfl)))
            | refine ops_skip rfl rfl rfl ?_
            | (refine ops_step rfl rfl rfl ?_; first | (refine step_box rfl rfl rfl (fun _ => ?_)) | (refine step_alloc rfl rfl rfl rfl (fun _ => ?_)) | (refine step_buildSliceF rfl rfl rfl rfl rfl rfl (fun _ => ?_)) | (refine step_map rfl (fun _ => ?_)) | (refine step_storeZ 0 rfl rfl rfl rfl rfl rfl rfl rfl rfl ?_))))
    refine ops_step rfl rfl rfl (step_call_pure rfl rfl rfl (fun H hs => commonM_ok (a := a) (b := b) hm ((hT.mono (by repeat first | exact List.Sublist.refl _ | apply List.Sublist.cons)).pure hs)) ?_)
    rw [hd]
    repeat (first
        | (refine exec_more ?_; first
            | refine exec_seq ?_
            | refine exec_region ?_
            | refine exec_block ?_
            | refine exec_skip ?_
            | refine exec_exit ?_
            | refine exec_ret ?_
            | refine exec_true rfl ?_
            | refine exec_false rfl ?_)
        | refine ops_nil ?_
        | (refine ops_more ?_; first
            | (apply ops_pl rfl rfl rfl ?_ rfl ?_; rotate_left; focus first | exact (.neSelf rfl rfl rfl rfl) | exact (.eqSelf rfl rfl rfl rfl) | exact (.p rfl rfl) | exact (.l rfl (fun _ _ => rfl)))
            | refine ops_skip rfl rfl rfl ?_
            | (refine ops_step rfl rfl rfl ?_; first | (refine step_box rfl rfl rfl (fun _ => ?_)) | (refine step_alloc rfl rfl rfl rfl (fun _ => ?_)) | (refine step_buildSliceF rfl rfl rfl rfl rfl rfl (fun _ => ?_)) | (refine step_map rfl (fun _ => ?_)) | (refine step_storeZ 0 rfl rfl rfl rfl rfl rfl rfl rfl rfl ?_))))
    refine ops_step rfl rfl rfl (step_call_pure rfl rfl rfl (fun H hs => commonM_ok (a := d) (b := c) hm ((hT.mono (by repeat first | exact List.Sublist.refl _ | apply List.Sublist.cons)).pure hs)) ?_)
    repeat (first
        | (refine exec_more ?_; first
            | refine exec_seq ?_
            | refine exec_region ?_
            | refine exec_block ?_
            | refine exec_skip ?_
            | refine exec_exit ?_
            | refine exec_ret ?_
            | refine exec_true rfl ?_
            | refine exec_false rfl ?_)
        | refine ops_nil ?_
        | (refine ops_more ?_; first
            | (apply ops_pl rfl rfl rfl ?_ rfl ?_; rotate_left; focus first | exact (.neSelf rfl rfl rfl rfl) | exact (.eqSelf rfl rfl rfl rfl) | exact (.p rfl rfl) | exact (.l rfl (fun _ _ => rfl)))
            | refine ops_skip rfl rfl rfl ?_
            | (refine ops_step rfl rfl rfl ?_; first | (refine step_box rfl rfl rfl (fun _ => ?_)) | (refine step_alloc rfl rfl rfl rfl (fun _ => ?_)) | (refine step_buildSliceF rfl rfl rfl rfl rfl rfl (fun _ => ?_)) | (refine step_map rfl (fun _ => ?_)) | (refine step_storeZ 0 rfl rfl rfl rfl rfl rfl rfl rfl rfl ?_))))
    rw [baEq, decide_eq_true rfl]
    repeat (first
        | (refine exec_more ?_; first
            | refine exec_seq ?_
            | refine exec_region ?_
            | refine exec_block ?_
            | refine exec_skip ?_
            | refine exec_exit ?_
            | refine exec_ret ?_
            | refine exec_true rfl ?_
            | refine exec_false rfl ?_)
        | refine ops_nil ?_
        | (refine ops_more ?_; first
            | (apply ops_pl rfl rfl rfl ?_ rfl ?_; rotate_left; focus first | exact (.neSelf rfl rfl rfl rfl) | exact (.eqSelf rfl rfl rfl rfl) | exact (.p rfl rfl) | exact (.l rfl (fun _ _ => rfl)))
            | refine ops_skip rfl rfl rfl ?_
            | (refine ops_step rfl rfl rfl ?_; first | (refine step_box rfl rfl rfl (fun _ => ?_)) | (refine step_alloc rfl rfl rfl rfl (fun _ => ?_)) | (refine step_buildSliceF rfl rfl rfl rfl rfl rfl (fun _ => ?_)) | (refine step_map rfl (fun _ => ?_)) | (refine step_storeZ 0 rfl rfl rfl rfl rfl rfl rfl rfl rfl ?_))))
    refine ops_step rfl rfl rfl (step_call_pure rfl rfl rfl (fun H hs => subM_ok (a := a) (b := objB) hm ((hT.mono (by repeat first | exact List.Sublist.refl _ | apply List.Sublist.cons)).pure hs)) ?_)
    rw [s7]
    repeat (first
        | (refine exec_more ?_; first
            | refine exec_seq ?_
            | refine exec_region ?_
            | refine exec_block ?_
            | refine exec_skip ?_
            | refine exec_exit ?_
            | refine exec_ret ?_
            | refine exec_true rfl ?_
            | refine exec_false rfl ?_)
        | refine ops_nil ?_
        | (refine ops_more ?_; first
            | (apply ops_pl rfl rfl rfl ?_ rfl ?_; rotate_left; focus first | exact (.neSelf rfl rfl rfl rfl) | exact (.eqSelf rfl rfl rfl rfl) | exact (.p rfl rfl) | exact (.l rfl (fun _ _ => rfl)))
            | refine ops_skip rfl rfl rfl ?_
            | (refine ops_step rfl rfl rfl ?_; first | (refine step_box rfl rfl rfl (fun _ => ?_)) | (refine step_alloc rfl rfl rfl rfl (fun _ => ?_)) | (refine step_buildSliceF rfl rfl rfl rfl rfl rfl (fun _ => ?_)) | (refine step_map rfl (fun _ => ?_)) | (refine step_storeZ 0 rfl rfl rfl rfl rfl rfl rfl rfl rfl ?_))))
    exact ⟨trivial, _, rfl, rfl⟩
  repeat (first
      | (refine exec_more ?_; first
          | refine exec_seq ?_
          | refine exec_region ?_
          | refine exec_block ?_
          | refine exec_skip ?_
          | refine exec_exit ?_
          | refine exec_ret ?_
          | refine exec_true rfl ?_
          | refine exec_false rfl ?_)
      | refine ops_nil ?_
      | (refine ops_more ?_; first
          | (apply ops_pl rfl rfl rfl ?_ rfl ?_; rotate_left; focus first | exact (.neSelf rfl rfl rfl rfl) | exact (.eqSelf rfl rfl rfl rfl) | exact (.p rfl rfl) | exact (.l rfl (fun _ _ => rfl)))
          | refine ops_skip rfl rfl rfl ?_
          | (refine ops_step rfl rfl rfl ?_; first | (refine step_box rfl rfl rfl (fun _ => ?_)) | (refine step_alloc rfl rfl rfl rfl (fun _ => ?_)) | (refine step_buildSliceF rfl rfl rfl rfl rfl rfl (fun _ => ?_)) | (refine step_map rfl (fun _ => ?_)) | (refine step_storeZ 0 rfl rfl rfl rfl rfl rfl rfl rfl rfl ?_))))
  rw [baEq a b, decide_eq_true (s3 f1 f4)]
  repeat (first
      | (refine exec_more ?_; first
          | refine exec_seq ?_
          | refine exec_region ?_
          | refine exec_block ?_
          | refine exec_skip ?_
          | refine exec_exit ?_
          | refine exec_ret ?_
          | refine exec_true rfl ?_
          | refine exec_false rfl ?_)
      | refine ops_nil ?_
      | (refine ops_more ?_; first
          | (apply ops_pl rfl rfl rfl ?_ rfl ?_; rotate_left; focus first | exact (.neSelf rfl rfl rfl rfl) | exact (.eqSelf rfl rfl rfl rfl) | exact (.p rfl rfl) | exact (.l rfl (fun _ _ => rfl)))
          | refine ops_skip rfl rfl rfl ?_
          | (refine ops_step rfl rfl rfl ?_; first | (refine step_box rfl rfl rfl (fun _ => ?_)) | (refine step_alloc rfl rfl rfl rfl (fun _ => ?_)) | (refine step_buildSliceF rfl rfl rfl rfl rfl rfl (fun _ => ?_)) | (refine step_map rfl (fun _ => ?_)) | (refine step_storeZ 0 rfl rfl rfl rfl rfl rfl rfl rfl rfl ?_))))
  refine ops_step rfl rfl rfl (step_call_pure rfl rfl rfl (fun H hs => subM_ok (a := a) (b := d) hm ((hT.mono (by repeat first | exact List.Sublist.refl _ | apply List.Sublist.cons)).pure hs)) ?_)
  rw [s4]
  repeat (first
      | (refine exec_more ?_; first
          | refine exec_seq ?_
          | refine exec_region ?_
          | refine exec_block ?_
          | refine exec_skip ?_
          | refine exec_exit ?_
          | refine exec_ret ?_
          | refine exec_true rfl ?_
          | refine exec_false rfl ?_)
      | refine ops_nil ?_
      | (refine ops_more ?_; first
          | (apply ops_pl rfl rfl rfl ?_ rfl ?_; rotate_left; focus first | exact (.neSelf rfl rfl rfl rfl) | exact (.eqSelf rfl rfl rfl rfl) | exact (.p rfl rfl) | exact (.l rfl (fun _ _ => rfl)))
          | refine ops_skip rfl rfl rfl ?_
          | (refine ops_step rfl rfl rfl ?_; first | (refine step_box rfl rfl rfl (fun _ => ?_)) | (refine step_alloc rfl rfl rfl rfl (fun _ => ?_)) | (refine step_buildSliceF rfl rfl rfl rfl rfl rfl (fun _ => ?_)) | (refine step_map rfl (fun _ => ?_)) | (refine step_storeZ 0 rfl rfl rfl rfl rfl rfl rfl rfl rfl ?_))))
  refine ops_step rfl rfl rfl (step_call_pure rfl rfl rfl (fun H hs => subM_ok (a := b) (b := d) hm ((hT.mono (by repeat first | exact List.Sublist.refl _ | apply List.Sublist.cons)).pure hs)) ?_)
  rw [s4']
  repeat (first
      | (refine exec_more ?_; first
          | refine exec_seq ?_
          | refine exec_region ?_
          | refine exec_block ?_
          | refine exec_skip ?_
          | refine exec_exit ?_
          | refine exec_ret ?_
          | refine exec_true rfl ?_
          | refine exec_false rfl ?_)
      | refine ops_nil ?_
      | (refine ops_more ?_; first
          | (apply ops_pl rfl rfl rfl ?_ rfl ?_; rotate_left; focus first | exact (.neSelf rfl rfl rfl rfl) | exact (.eqSelf rfl rfl rfl rfl) | exact (.p rfl rfl) | exact (.l rfl (fun _ _ => rfl)))
          | refine ops_skip rfl rfl rfl ?_
          | (refine ops_step rfl rfl rfl ?_; first | (refine step_box rfl rfl rfl (fun _ => ?_)) | (refine step_alloc rfl rfl rfl rfl (fun _ => ?_)) | (refine step_buildSliceF rfl rfl rfl rfl rfl rfl (fun _ => ?_)) | (refine step_map rfl (fun _ => ?_)) | (refine step_storeZ 0 rfl rfl rfl rfl rfl rfl rfl rfl rfl ?_))))
  refine ops_step rfl rfl rfl (step_call_pure rfl rfl rfl (fun H hs => commonM_ok (a := b) (b := a) hm ((hT.mono (by repeat first | exact List.Sublist.refl _ | apply List.Sublist.cons)).pure hs)) ?_)
  rw [s5]
  repeat (first
      | (refine exec_more ?_; first
          | refine exec_seq ?_
          | refine exec_region ?_
          | refine exec_block ?_
          | refine exec_skip ?_
          | refine exec_exit ?_
          | refine exec_ret ?_
          | refine exec_true rfl ?_
          | refine exec_false rfl ?_)
      | refine ops_nil ?_
      | (refine ops_more ?_; first
          | (apply ops_pl rfl rfl rfl ?_ rfl ?_; rotate_left; focus first | exact (.neSelf rfl rfl rfl rfl) | exact (.eqSelf rfl rfl rfl rfl) | exact (.p rfl rfl) | exact (.l rfl (fun _ _ => rfl)))
          | refine ops_skip rfl rfl rfl ?_
          | (refine ops_step rfl rfl rfl ?_; first | (refine step_box rfl rfl rfl (fun _ => ?_)) | (refine step_alloc rfl rfl rfl rfl (fun _ => ?_)) | (refine step_buildSliceF rfl rfl rfl rfl rfl rfl (fun _ => ?_)) | (refine step_map rfl (fun _ => ?_)) | (refine step_storeZ 0 rfl rfl rfl rfl rfl rfl rfl rfl rfl ?_))))
  rw [baEq d d, decide_eq_true rfl]
  repeat (first
      | (refine exec_more ?_; first
          | refine exec_seq ?_
          | refine exec_region ?_
          | refine exec_block ?_
          | refine exec_skip ?_
          | refine exec_exit ?_
          | refine exec_ret ?_
          | refine exec_true rfl ?_
          | refine exec_false rfl ?_)
      | refine ops_nil ?_
      | (refine ops_more ?_; first
          | (apply ops_pl rfl rfl rfl ?_ rfl ?_; rotate_left; focus first | exact (.neSelf rfl rfl rfl rfl) | exact (.eqSelf rfl rfl rfl rfl) | exact (.p rfl rfl) | exact (.l rfl (fun _ _ => rfl)))
          | refine ops_skip rfl rfl rfl ?_
          | (refine ops_step rfl rfl rfl ?_; first | (refine step_box rfl rfl rfl (fun _ => ?_)) | (refine step_alloc rfl rfl rfl rfl (fun _ => ?_)) | (refine step_buildSliceF rfl rfl rfl rfl rfl rfl (fun _ => ?_)) | (refine step_map rfl (fun _ => ?_)) | (refine step_storeZ 0 rfl rfl rfl rfl rfl rfl rfl rfl rfl ?_))))
  refine ops_step rfl rfl rfl (step_call_pure rfl rfl rfl (fun H hs => commonM_ok (a := b) (b := c) hm ((hT.mono (by repeat first | exact List.Sublist.refl _ | apply List.Sublist.cons)).pure hs)) ?_)
  repeat (first
      | (refine exec_more ?_; first
          | refine exec_seq ?_
          | refine exec_region ?_
          | refine exec_block ?_
          | refine exec_skip ?_
          | refine exec_exit ?_
          | refine exec_ret ?_
          | refine exec_true rfl ?_
          | refine exec_false rfl ?_)
      | refine ops_nil ?_
      | (refine ops_more ?_; first
          | (apply ops_pl rfl rfl rfl ?_ rfl ?_; rotate_left; focus first | exact (.neSelf rfl rfl rfl rfl) | exact (.eqSelf rfl rfl rfl rfl) | exact (.p rfl rfl) | exact (.l rfl (fun _ _ => rfl)))
          | refine ops_skip rfl rfl rfl ?_
          | (refine ops_step rfl rfl rfl ?_; first | (refine step_box rfl rfl rfl (fun _ => ?_)) | (refine step_alloc rfl rfl rfl rfl (fun _ => ?_)) | (refine step_buildSliceF rfl rfl rfl rfl rfl rfl (fun _ => ?_)) | (refine step_map rfl (fun _ => ?_)) | (refine step_storeZ 0 rfl rfl rfl rfl rfl rfl rfl rfl rfl ?_))))
  refine ops_step rfl rfl rfl (step_call_pure rfl rfl rfl (fun H hs => commonM_ok (a := a) (b := (tmA m6).common b c) hm ((hT.mono (by repeat first | exact List.Sublist.refl _ | apply List.Sublist.cons)).pure hs)) ?_)
  rw [s6]
  repeat (first
      | (refine exec_more ?_; first
          | refine exec_seq ?_
          | refine exec_region ?_
          | refine exec_block ?_
          | refine exec_skip ?_
          | refine exec_exit ?_
          | refine exec_ret ?_
          | refine exec_true rfl ?_
          | refine exec_false rfl ?_)
      | refine ops_nil ?_
      | (refine ops_more ?_; first
          | (apply ops_pl rfl rfl rfl ?_ rfl ?_; rotate_left; focus first | exact (.neSelf rfl rfl rfl rfl) | exact (.eqSelf rfl rfl rfl rfl) | exact (.p rfl rfl) | exact (.l rfl (fun _ _ => rfl)))
          | refine ops_skip rfl rfl rfl ?_
          | (refine ops_step rfl rfl rfl ?_; first | (refine step_box rfl rfl rfl (fun _ => ?_)) | (refine step_alloc rfl rfl rfl rfl (fun _ => ?_)) | (refine step_buildSliceF rfl rfl rfl rfl rfl rfl (fun _ => ?_)) | (refine step_map rfl (fun _ => ?_)) | (refine step_storeZ 0 rfl rfl rfl rfl rfl rfl rfl rfl rfl ?_))))
  refine ops_step rfl rfl rfl (step_call_pure rfl rfl rfl (fun H hs => commonM_ok (a := a) (b := b) hm ((hT.mono (by repeat first | exact List.Sublist.refl _ | apply List.Sublist.cons)).pure hs)) ?_)
  rw [hd]
  repeat (first
      | (refine exec_more ?_; first
          | refine exec_seq ?_
          | refine exec_region ?_
          | refine exec_block ?_
          | refine exec_skip ?_
          | refine exec_exit ?_
          | refine exec_ret ?_
          | refine exec_true rfl ?_
          | refine exec_false rfl ?_)
      | refine ops_nil ?_
      | (refine ops_more ?_; first
          | (apply ops_pl rfl rfl rfl ?_ rfl ?_; rotate_left; focus first | exact (.neSelf rfl rfl rfl rfl) | exact (.eqSelf rfl rfl rfl rfl) | exact (.p rfl rfl) | exact (.l rfl (fun _ _ => rfl)))
          | refine ops_skip rfl rfl rfl ?_
          | (refine ops_step rfl rfl rfl ?_; first | (refine step_box rfl rfl rfl (fun _ => ?_)) | (refine step_alloc rfl rfl rfl rfl (fun _ => ?_)) | (refine step_buildSliceF rfl rfl rfl rfl rfl rfl (fun _ => ?_)) | (refine step_map rfl (fun _ => ?_)) | (refine step_storeZ 0 rfl rfl rfl rfl rfl rfl rfl rfl rfl ?_))))
  refine ops_step rfl rfl rfl (step_call_pure rfl rfl rfl (fun H hs => commonM_ok (a := d) (b := c) hm ((hT.mono (by repeat first | exact List.Sublist.refl _ | apply List.Sublist.cons)).pure hs)) ?_)
  repeat (first
      | (refine exec_more ?_; first
          | refine exec_seq ?_
          | refine exec_region ?_
          | refine exec_block ?_
          | refine exec_skip ?_
          | refine exec_exit ?_
          | refine exec_ret ?_
          | refine exec_true rfl ?_
          | refine exec_false rfl ?_)
      | refine ops_nil ?_
      | (refine ops_more ?_; first
          | (apply ops_pl rfl rfl rfl ?_ rfl ?_; rotate_left; focus first | exact (.neSelf rfl rfl rfl rfl) | exact (.eqSelf rfl rfl rfl rfl) | exact (.p rfl rfl) | exact (.l rfl (fun _ _ => rfl)))
          | refine ops_skip rfl rfl rfl ?_
          | (refine ops_step rfl rfl rfl ?_; first | (refine step_box rfl rfl rfl (fun _ => ?_)) | (refine step_alloc rfl rfl rfl rfl (fun _ => ?_)) | (refine step_buildSliceF rfl rfl rfl rfl rfl rfl (fun _ => ?_)) | (refine step_map rfl (fun _ => ?_)) | (refine step_storeZ 0 rfl rfl rfl rfl rfl rfl rfl rfl rfl ?_))))
  rw [baEq, decide_eq_true rfl]
  repeat (first
      | (refine exec_more ?_; first
          | refine exec_seq ?_
          | refine exec_region ?_
          | refine exec_block ?_
          | refine exec_skip ?_
          | refine exec_exit ?_
          | refine exec_ret ?_
          | refine exec_true rfl ?_
          | refine exec_false rfl ?_)
      | refine ops_nil ?_
      | (refine ops_more ?_; first
          | (apply ops_pl rfl rfl rfl ?_ rfl ?_; rotate_left; focus first | exact (.neSelf rfl rfl rfl rfl) | exact (.eqSelf rfl rfl rfl rfl) | exact (.p rfl rfl) | exact (.l rfl (fun _ _ => rfl)))
          | refine ops_skip rfl rfl rfl ?_
          | (refine ops_step rfl rfl rfl ?_; first | (refine step_box rfl rfl rfl (fun _ => ?_)) | (refine step_alloc rfl rfl rfl rfl (fun _ => ?_)) | (refine step_buildSliceF rfl rfl rfl rfl rfl rfl (fun _ => ?_)) | (refine step_map rfl (fun _ => ?_)) | (refine step_storeZ 0 rfl rfl rfl rfl rfl rfl rfl rfl rfl ?_))))
  refine ops_step rfl rfl rfl (step_call_pure rfl rfl rfl (fun H hs => subM_ok (a := a) (b := objB) hm ((hT.mono (by repeat first | exact List.Sublist.refl _ | apply List.Sublist.cons)).pure hs)) ?_)
  rw [s7]
  repeat (first
      | (refine exec_more ?_; first
          | refine exec_seq ?_
          | refine exec_region ?_
          | refine exec_block ?_
          | refine exec_skip ?_
          | refine exec_exit ?_
          | refine exec_ret ?_
          | refine exec_true rfl ?_
          | refine exec_false rfl ?_)
      | refine ops_nil ?_
      | (refine ops_more ?_; first
          | (apply ops_pl rfl rfl rfl ?_ rfl ?_; rotate_left; focus first | exact (.neSelf rfl rfl rfl rfl) | exact (.eqSelf rfl rfl rfl rfl) | exact (.p rfl rfl) | exact (.l rfl (fun _ _ => rfl)))
          | refine ops_skip rfl rfl rfl ?_
          | (refine ops_step rfl rfl rfl ?_; first | (refine step_box rfl rfl rfl (fun _ => ?_)) | (refine step_alloc rfl rfl rfl rfl (fun _ => ?_)) | (refine step_buildSliceF rfl rfl rfl rfl rfl rfl (fun _ => ?_)) | (refine step_map rfl (fun _ => ?_)) | (refine step_storeZ 0 rfl rfl rfl rfl rfl rfl rfl rfl rfl ?_))))
  exact ⟨trivial, _, rfl, rfl⟩
end Go.Proofs.Ythifbkjkiijkoaa

