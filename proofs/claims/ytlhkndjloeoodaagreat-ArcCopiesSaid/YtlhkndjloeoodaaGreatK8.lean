/-
  Lemmas for the laws of this seat.
-/
import Derived.Test.YtlhkndjloeoodaaGreatK7
set_option linter.unusedVariables false
set_option linter.unusedSimpArgs false
namespace Go.Proofs.YtlhkndjloeoodaaGreat
open Go.Ev Go.Ev.Wk
variable {O : Old}
set_option maxHeartbeats 64000000 in
set_option maxRecDepth 100000 in
theorem bNumbers_ok {H : Heap} {bb : Nat} {code : List Ins} {hl : List HV} {F : Atoms} {k n : Nat} (hst : St (blksOf F) H H F) (hF : BldG bb code hl F) (hn : code.length ≤ 1900) (hh : hl.length ≤ 1000) (h255 : n ≤ 255) :
    FpC TT O 69 [ptr bb, .int .u8 (k : Int), .int .u8 (n : Int)] H F fun v F' => ∃ (code' : List Ins) (hl' : List HV), BldG bb code' hl' F' ∧ Grown 13 code hl code' hl' ∧ v = .bool (decide (k < 16)) := by
  have hF0 := hF
  obtain ⟨a, c, p, ha, hc, q, rfl, own, ownH⟩ := hF
  refine call_fp rfl rfl rfl rfl rfl hst ?_
  repeat (first | refine zr ?_ | (refine zn ?_; intro _))
  refine exec_cond rfl (fun h => ?_) (fun h => ?_)
  · have hk : k = 0 := by have := eq_of_beq h; omega
    subst hk
    repeat (first | refine zr ?_ | (refine zn ?_; intro _) | refine ops_step rfl rfl rfl (step_call_pure rfl rfl rfl (fun H hs => by first | exact seatOne_ok | exact seatNum_ok | exact seatStr_ok | exact seatAt_ok | exact seatOf_ok | exact seatPart_ok | exact seatCall_ok | exact seatWord_ok | exact seatClass_ok) ?_))
    refine ops_step rfl rfl rfl (step_call_fp1 rfl rfl rfl (fun H hs hst => bAdd_ok (new := [⟨4, 0, 0, [], [], [], []⟩, ⟨18, 0, 0, [], [], [], []⟩, ⟨41, 0, 0, [], [], [], []⟩]) hst hF0 (Rd.keep (Rd.sl (i := 0) (n := 3) rfl rfl 3) hs) (by omega)) (fun v2 F2 h2 => ?_))
    repeat (first | refine zr ?_ | (refine zn ?_; intro _))
    exact ⟨trivial, _, rfl, _, [_], List.perm_append_comm (l₁ := [_]), _, _, h2, Grown.add ⟨gAt (by decide) (by decide) (by omega), gOne (by decide) (by decide), gOne (by decide) (by decide), trivial⟩ (by simp), rfl⟩
  have n0 : k ≠ 0 := fun e => by subst e; exact Bool.noConfusion h
  repeat (first | refine zr ?_ | (refine zn ?_; intro _))
  refine exec_cond rfl (fun h => ?_) (fun h => ?_)
  · have hk : k = 1 := by have := eq_of_beq h; omega
    subst hk
    repeat (first | refine zr ?_ | (refine zn ?_; intro _) | refine ops_step rfl rfl rfl (step_call_pure rfl rfl rfl (fun H hs => by first | exact seatOne_ok | exact seatNum_ok | exact seatStr_ok | exact seatAt_ok | exact seatOf_ok | exact seatPart_ok | exact seatCall_ok | exact seatWord_ok | exact seatClass_ok) ?_))
    refine ops_step rfl rfl rfl (step_call_fp1 rfl rfl rfl (fun H hs hst => bAdd_ok (new := [⟨4, 0, 0, [], [], [], []⟩, ⟨1, _, 0, [], [], [], []⟩, ⟨8, 0, 0, [], [], [], []⟩, ⟨5, 0, 0, [], [], [], []⟩]) hst hF0 (Rd.keep (Rd.sl (i := 0) (n := 4) rfl rfl 4) hs) (by omega)) (fun v2 F2 h2 => ?_))
    repeat (first | refine zr ?_ | (refine zn ?_; intro _))
    exact ⟨trivial, _, rfl, _, [_], List.perm_append_comm (l₁ := [_]), _, _, h2, Grown.add ⟨gAt (by decide) (by decide) (by omega), gNum, gOne (by decide) (by decide), gAt (by decide) (by decide) (by omega), trivial⟩ (by simp), rfl⟩
  have n1 : k ≠ 1 := fun e => by subst e; exact Bool.noConfusion h
  repeat (first | refine zr ?_ | (refine zn ?_; intro _))
  refine exec_cond rfl (fun h => ?_) (fun h => ?_)
  · have hk : k = 2 := by have := eq_of_beq h; omega
    subst hk
    repeat (first | refine zr ?_ | (refine zn ?_; intro _) | refine ops_step rfl rfl rfl (step_call_pure rfl rfl rfl (fun H hs => by first | exact seatOne_ok | exact seatNum_ok | exact seatStr_ok | exact seatAt_ok | exact seatOf_ok | exact seatPart_ok | exact seatCall_ok | exact seatWord_ok | exact seatClass_ok) ?_))
    refine ops_step rfl rfl rfl (step_call_fp1 rfl rfl rfl (fun H hs hst => bAdd_ok (new := [⟨42, 0, 0, [], [], [], []⟩, ⟨5, 0, 0, [], [], [], []⟩]) hst hF0 (Rd.keep (Rd.sl (i := 0) (n := 2) rfl rfl 2) hs) (by omega)) (fun v2 F2 h2 => ?_))
    repeat (first | refine zr ?_ | (refine zn ?_; intro _))
    exact ⟨trivial, _, rfl, _, [_], List.perm_append_comm (l₁ := [_]), _, _, h2, Grown.add ⟨gOne (by decide) (by decide), gAt (by decide) (by decide) (by omega), trivial⟩ (by simp), rfl⟩
  have n2 : k ≠ 2 := fun e => by subst e; exact Bool.noConfusion h
  repeat (first | refine zr ?_ | (refine zn ?_; intro _))
  refine exec_cond rfl (fun h => ?_) (fun h => ?_)
  · have hk : k = 3 := by have := eq_of_beq h; omega
    subst hk
    repeat (first | refine zr ?_ | (refine zn ?_; intro _) | refine ops_step rfl rfl rfl (step_call_pure rfl rfl rfl (fun H hs => by first | exact seatOne_ok | exact seatNum_ok | exact seatStr_ok | exact seatAt_ok | exact seatOf_ok | exact seatPart_ok | exact seatCall_ok | exact seatWord_ok | exact seatClass_ok) ?_))
    refine ops_step rfl rfl rfl (step_call_fp1 rfl rfl rfl (fun H hs hst => bAdd_ok (new := [⟨4, 0, 1, [], [], [], []⟩, ⟨2, 0, 0, wordB n, [], [], []⟩, ⟨16, 0, 0, [], [], [], []⟩, ⟨5, 0, 1, [], [], [], []⟩]) hst hF0 (Rd.keep (Rd.sl (i := 0) (n := 4) rfl rfl 4) hs) (by omega)) (fun v2 F2 h2 => ?_))
    repeat (first | refine zr ?_ | (refine zn ?_; intro _))
    exact ⟨trivial, _, rfl, _, [_], List.perm_append_comm (l₁ := [_]), _, _, h2, Grown.add ⟨gAt (by decide) (by decide) (by omega), gStr (wordB_len n), gOne (by decide) (by decide), gAt (by decide) (by decide) (by omega), trivial⟩ (by simp), rfl⟩
  have n3 : k ≠ 3 := fun e => by subst e; exact Bool.noConfusion h
  repeat (first | refine zr ?_ | (refine zn ?_; intro _))
  refine exec_cond rfl (fun h => ?_) (fun h => ?_)
  · have hk : k = 4 := by have := eq_of_beq h; omega
    subst hk
    repeat (first | refine zr ?_ | (refine zn ?_; intro _) | refine ops_step rfl rfl rfl (step_call_pure rfl rfl rfl (fun H hs => by first | exact seatOne_ok | exact seatNum_ok | exact seatStr_ok | exact seatAt_ok | exact seatOf_ok | exact seatPart_ok | exact seatCall_ok | exact seatWord_ok | exact seatClass_ok) ?_))
    refine ops_step rfl rfl rfl (step_call_fp1 rfl rfl rfl (fun H hs hst => bAdd_ok (new := [⟨4, 0, 1, [], [], [], []⟩, ⟨41, 0, 0, [], [], [], []⟩]) hst hF0 (Rd.keep (Rd.sl (i := 0) (n := 2) rfl rfl 2) hs) (by omega)) (fun v2 F2 h2 => ?_))
    repeat (first | refine zr ?_ | (refine zn ?_; intro _))
    exact ⟨trivial, _, rfl, _, [_], List.perm_append_comm (l₁ := [_]), _, _, h2, Grown.add ⟨gAt (by decide) (by decide) (by omega), gOne (by decide) (by decide), trivial⟩ (by simp), rfl⟩
  have n4 : k ≠ 4 := fun e => by subst e; exact Bool.noConfusion h
  repeat (first | refine zr ?_ | (refine zn ?_; intro _))
  refine exec_cond rfl (fun h => ?_) (fun h => ?_)
  · have hk : k = 5 := by have := eq_of_beq h; omega
    subst hk
    repeat (first | refine zr ?_ | (refine zn ?_; intro _) | refine ops_step rfl rfl rfl (step_call_pure rfl rfl rfl (fun H hs => by first | exact seatOne_ok | exact seatNum_ok | exact seatStr_ok | exact seatAt_ok | exact seatOf_ok | exact seatPart_ok | exact seatCall_ok | exact seatWord_ok | exact seatClass_ok) ?_))
    refine ops_step rfl rfl rfl (step_call_fp1 rfl rfl rfl (fun H hs hst => bAdd_ok (new := [⟨4, 0, 2, [], [], [], []⟩, ⟨1, _, 0, [], [], [], []⟩, ⟨4, 0, 0, [], [], [], []⟩, ⟨24, 0, 0, [], [], [], []⟩]) hst hF0 (Rd.keep (Rd.sl (i := 0) (n := 4) rfl rfl 4) hs) (by omega)) (fun v2 F2 h2 => ?_))
    repeat (first | refine zr ?_ | (refine zn ?_; intro _))
    exact ⟨trivial, _, rfl, _, [_], List.perm_append_comm (l₁ := [_]), _, _, h2, Grown.add ⟨gAt (by decide) (by decide) (by omega), gNum, gAt (by decide) (by decide) (by omega), gOne (by decide) (by decide), trivial⟩ (by simp), rfl⟩
  have n5 : k ≠ 5 := fun e => by subst e; exact Bool.noConfusion h
  repeat (first | refine zr ?_ | (refine zn ?_; intro _))
  refine exec_cond rfl (fun h => ?_) (fun h => ?_)
  · have hk : k = 6 := by have := eq_of_beq h; omega
    subst hk
    repeat (first | refine zr ?_ | (refine zn ?_; intro _) | refine ops_step rfl rfl rfl (step_call_pure rfl rfl rfl (fun H hs => by first | exact seatOne_ok | exact seatNum_ok | exact seatStr_ok | exact seatAt_ok | exact seatOf_ok | exact seatPart_ok | exact seatCall_ok | exact seatWord_ok | exact seatClass_ok) ?_))
    refine ops_step rfl rfl rfl (step_call_fp1 rfl rfl rfl (fun H hs hst => bAdd_ok (new := [⟨4, 0, 2, [], [], [], []⟩, ⟨1, _, 0, [], [], [], []⟩, ⟨23, 0, 0, [], [], [], []⟩, ⟨5, 0, 0, [], [], [], []⟩]) hst hF0 (Rd.keep (Rd.sl (i := 0) (n := 4) rfl rfl 4) hs) (by omega)) (fun v2 F2 h2 => ?_))
    repeat (first | refine zr ?_ | (refine zn ?_; intro _))
    exact ⟨trivial, _, rfl, _, [_], List.perm_append_comm (l₁ := [_]), _, _, h2, Grown.add ⟨gAt (by decide) (by decide) (by omega), gNum, gOne (by decide) (by decide), gAt (by decide) (by decide) (by omega), trivial⟩ (by simp), rfl⟩
  have n6 : k ≠ 6 := fun e => by subst e; exact Bool.noConfusion h
  repeat (first | refine zr ?_ | (refine zn ?_; intro _))
  refine exec_cond rfl (fun h => ?_) (fun h => ?_)
  · have hk : k = 7 := by have := eq_of_beq h; omega
    subst hk
    repeat (first | refine zr ?_ | (refine zn ?_; intro _))
    refine exec_draw (lst := [(0, 0), (2, 0), (3, 4), (4, 12), (5, 28), (7, 0), (8, 0), (9, 256), (10, 896), (11, 1920), (1, 0), (6, 62), (12, 4094), (13, 8190), (14, 16382), (15, 32767)]) (full := 65535) (by kernel_rfl) (by kernel_rfl) (by kernel_rfl) (by kernel_rfl) ?_
    skip
    repeat (first | refine zd ?_ | refine draw_w rfl rfl rfl rfl rfl rfl (step_call_pure rfl rfl rfl (fun H hs => by first | exact seatOne_ok | exact seatNum_ok | exact seatStr_ok | exact seatAt_ok | exact seatOf_ok | exact seatPart_ok | exact seatCall_ok | exact seatWord_ok | exact seatClass_ok) ⟨by repeat (first | exact True.intro | refine And.intro (.inr ⟨veq_refl rfl, (look_own 0 rfl rfl rfl (pickZ (l := [10, 11, 12, 9]) (show n % 4 < 4 by omega)))⟩) ?_ | refine And.intro (.inr ⟨veq_refl rfl, (look_own 1 rfl rfl rfl (pickZ (l := [10, 11, 12, 9]) (show n % 4 < 4 by omega)))⟩) ?_ | refine zs1 ?_), ?_⟩) | refine draw_a rfl rfl rfl rfl rfl (step_buildSliceF rfl rfl rfl rfl rfl rfl (fun _ => ⟨by repeat (first | exact True.intro | refine And.intro (.inr ⟨veq_refl rfl, (look_own 0 rfl rfl rfl (pickZ (l := [10, 11, 12, 9]) (show n % 4 < 4 by omega)))⟩) ?_ | refine And.intro (.inr ⟨veq_refl rfl, (look_own 1 rfl rfl rfl (pickZ (l := [10, 11, 12, 9]) (show n % 4 < 4 by omega)))⟩) ?_ | refine zs1 ?_), ?_⟩)) | refine draw_a rfl rfl rfl rfl rfl (step_alloc rfl rfl rfl rfl (fun _ => ⟨by repeat (first | exact True.intro | refine And.intro (.inr ⟨veq_refl rfl, (look_own 0 rfl rfl rfl (pickZ (l := [10, 11, 12, 9]) (show n % 4 < 4 by omega)))⟩) ?_ | refine And.intro (.inr ⟨veq_refl rfl, (look_own 1 rfl rfl rfl (pickZ (l := [10, 11, 12, 9]) (show n % 4 < 4 by omega)))⟩) ?_ | refine zs1 ?_), ?_⟩)))
    try refine draw_nil ?_
    rw [tm4]
    (first | apply ops_pl rfl rfl rfl ?_ rfl ?_ | apply draw_pl rfl rfl rfl rfl ?_ rfl rfl ?_); rotate_left; focus exact (.p rfl (opP_idxo (z := 1) rfl rfl rfl rfl (by omega) (by omega)))
    (first | apply ops_pl rfl rfl rfl ?_ rfl ?_ | apply draw_pl rfl rfl rfl rfl ?_ rfl rfl ?_); rotate_left; focus exact (.l rfl (look_own 0 rfl rfl rfl (pickZ (l := [10, 11, 12, 9]) (show n % 4 < 4 by omega))))
    repeat (first | refine zd ?_ | refine draw_w rfl rfl rfl rfl rfl rfl (step_call_pure rfl rfl rfl (fun H hs => by first | exact seatOne_ok | exact seatNum_ok | exact seatStr_ok | exact seatAt_ok | exact seatOf_ok | exact seatPart_ok | exact seatCall_ok | exact seatWord_ok | exact seatClass_ok) ⟨by repeat (first | exact True.intro | refine And.intro (.inr ⟨veq_refl rfl, (look_own 0 rfl rfl rfl (pickZ (l := [10, 11, 12, 9]) (show n % 4 < 4 by omega)))⟩) ?_ | refine And.intro (.inr ⟨veq_refl rfl, (look_own 1 rfl rfl rfl (pickZ (l := [10, 11, 12, 9]) (show n % 4 < 4 by omega)))⟩) ?_ | refine zs1 ?_), ?_⟩) | refine draw_a rfl rfl rfl rfl rfl (step_buildSliceF rfl rfl rfl rfl rfl rfl (fun _ => ⟨by repeat (first | exact True.intro | refine And.intro (.inr ⟨veq_refl rfl, (look_own 0 rfl rfl rfl (pickZ (l := [10, 11, 12, 9]) (show n % 4 < 4 by omega)))⟩) ?_ | refine And.intro (.inr ⟨veq_refl rfl, (look_own 1 rfl rfl rfl (pickZ (l := [10, 11, 12, 9]) (show n % 4 < 4 by omega)))⟩) ?_ | refine zs1 ?_), ?_⟩)) | refine draw_a rfl rfl rfl rfl rfl (step_alloc rfl rfl rfl rfl (fun _ => ⟨by repeat (first | exact True.intro | refine And.intro (.inr ⟨veq_refl rfl, (look_own 0 rfl rfl rfl (pickZ (l := [10, 11, 12, 9]) (show n % 4 < 4 by omega)))⟩) ?_ | refine And.intro (.inr ⟨veq_refl rfl, (look_own 1 rfl rfl rfl (pickZ (l := [10, 11, 12, 9]) (show n % 4 < 4 by omega)))⟩) ?_ | refine zs1 ?_), ?_⟩)))
    try refine draw_nil ?_
    skip
    refine draw_w rfl rfl rfl rfl rfl rfl (step_call_fp2 rfl rfl rfl (fun H hs hst => bAdd_ok (new := [⟨4, 0, 0, [], [], [], []⟩, ⟨1, _, 0, [], [], [], []⟩, ⟨[10, 11, 12, 9].getD (n % 4) 0, 0, 0, [], [], [], []⟩, ⟨5, 0, 0, [], [], [], []⟩]) hst hF0 (Rd.keep (Rd.sl (i := 0) (n := 4) rfl rfl 4) hs) (by omega)) (fun v2 F2 h2 => (zst ?_)))
    refine draw_nil ?_
    repeat (first | refine zr ?_ | (refine zn ?_; intro _) | refine ops_step rfl rfl rfl (step_call_pure rfl rfl rfl (fun H hs => by first | exact seatOne_ok | exact seatNum_ok | exact seatStr_ok | exact seatAt_ok | exact seatOf_ok | exact seatPart_ok | exact seatCall_ok | exact seatWord_ok | exact seatClass_ok) ?_))
    rw [td4 h255, tm2]
    (first | apply ops_pl rfl rfl rfl ?_ rfl ?_ | apply draw_pl rfl rfl rfl rfl ?_ rfl rfl ?_); rotate_left; focus exact (.p rfl (opP_idxo (z := 1) rfl rfl rfl rfl (by omega) (by omega)))
    (first | apply ops_pl rfl rfl rfl ?_ rfl ?_ | apply draw_pl rfl rfl rfl rfl ?_ rfl rfl ?_); rotate_left; focus exact (.l rfl (look_own 0 rfl rfl rfl (pickS (l := [[90, 101, 114, 111, 70, 97, 117, 108, 116], [70, 97, 117, 108, 116]]) (show n / 4 % 2 < 2 by omega))))
    repeat (first | refine zr ?_ | (refine zn ?_; intro _) | refine ops_step rfl rfl rfl (step_call_pure rfl rfl rfl (fun H hs => by first | exact seatOne_ok | exact seatNum_ok | exact seatStr_ok | exact seatAt_ok | exact seatOf_ok | exact seatPart_ok | exact seatCall_ok | exact seatWord_ok | exact seatClass_ok) ?_))
    refine ops_step rfl rfl rfl (step_call_fp3 rfl rfl rfl (fun H hs hst => bTry_ok (fr := (code.length : Int)) (ct := ([[90, 101, 114, 111, 70, 97, 117, 108, 116], [70, 97, 117, 108, 116]].getD (n / 4 % 2) [])) (s := [122, 101, 114, 111]) hst h2 (by simp; omega) (by omega)) (fun v3 F3 h3 => ?_))
    repeat (first | refine zr ?_ | (refine zn ?_; intro _))
    exact ⟨trivial, _, rfl, _, [_, _, _], List.perm_append_comm (l₁ := [_, _, _]), _, _, h3, Grown.tryy ⟨gAt (by decide) (by decide) (by omega), gNum, gOneP (show n % 4 < 4 by omega) (by decide), gAt (by decide) (by decide) (by omega), trivial⟩ (by simp) (by simp; omega) (pick_all (p := nameL) (show n / 4 % 2 < 2 by omega) (by decide)) (by decide), rfl⟩
  have n7 : k ≠ 7 := fun e => by subst e; exact Bool.noConfusion h
  repeat (first | refine zr ?_ | (refine zn ?_; intro _))
  refine exec_cond rfl (fun h => ?_) (fun h => ?_)
  · have hk : k = 8 := by have := eq_of_beq h; omega
    subst hk
    repeat (first | refine zr ?_ | (refine zn ?_; intro _))
    refine exec_draw (lst := [(0, 0), (2, 0), (3, 4), (4, 12), (6, 0), (7, 0), (8, 128), (9, 448), (10, 960), (1, 0), (5, 30), (11, 2046), (12, 4094), (13, 8190), (14, 16383)]) (full := 32767) (by kernel_rfl) (by kernel_rfl) (by kernel_rfl) (by kernel_rfl) ?_
    skip
    repeat (first | refine zd ?_ | refine draw_w rfl rfl rfl rfl rfl rfl (step_call_pure rfl rfl rfl (fun H hs => by first | exact seatOne_ok | exact seatNum_ok | exact seatStr_ok | exact seatAt_ok | exact seatOf_ok | exact seatPart_ok | exact seatCall_ok | exact seatWord_ok | exact seatClass_ok) ⟨by repeat (first | exact True.intro | refine And.intro (.inr ⟨veq_refl rfl, (look_own 0 rfl rfl rfl (pickZ (l := [14, 15]) (show n % 2 < 2 by omega)))⟩) ?_ | refine And.intro (.inr ⟨veq_refl rfl, (look_own 1 rfl rfl rfl (pickZ (l := [14, 15]) (show n % 2 < 2 by omega)))⟩) ?_ | refine zs1 ?_), ?_⟩) | refine draw_a rfl rfl rfl rfl rfl (step_buildSliceF rfl rfl rfl rfl rfl rfl (fun _ => ⟨by repeat (first | exact True.intro | refine And.intro (.inr ⟨veq_refl rfl, (look_own 0 rfl rfl rfl (pickZ (l := [14, 15]) (show n % 2 < 2 by omega)))⟩) ?_ | refine And.intro (.inr ⟨veq_refl rfl, (look_own 1 rfl rfl rfl (pickZ (l := [14, 15]) (show n % 2 < 2 by omega)))⟩) ?_ | refine zs1 ?_), ?_⟩)) | refine draw_a rfl rfl rfl rfl rfl (step_alloc rfl rfl rfl rfl (fun _ => ⟨by repeat (first | exact True.intro | refine And.intro (.inr ⟨veq_refl rfl, (look_own 0 rfl rfl rfl (pickZ (l := [14, 15]) (show n % 2 < 2 by omega)))⟩) ?_ | refine And.intro (.inr ⟨veq_refl rfl, (look_own 1 rfl rfl rfl (pickZ (l := [14, 15]) (show n % 2 < 2 by omega)))⟩) ?_ | refine zs1 ?_), ?_⟩)))
    try refine draw_nil ?_
    rw [tm2]
    (first | apply ops_pl rfl rfl rfl ?_ rfl ?_ | apply draw_pl rfl rfl rfl rfl ?_ rfl rfl ?_); rotate_left; focus exact (.p rfl (opP_idxo (z := 1) rfl rfl rfl rfl (by omega) (by omega)))
    (first | apply ops_pl rfl rfl rfl ?_ rfl ?_ | apply draw_pl rfl rfl rfl rfl ?_ rfl rfl ?_); rotate_left; focus exact (.l rfl (look_own 0 rfl rfl rfl (pickZ (l := [14, 15]) (show n % 2 < 2 by omega))))
    repeat (first | refine zd ?_ | refine draw_w rfl rfl rfl rfl rfl rfl (step_call_pure rfl rfl rfl (fun H hs => by first | exact seatOne_ok | exact seatNum_ok | exact seatStr_ok | exact seatAt_ok | exact seatOf_ok | exact seatPart_ok | exact seatCall_ok | exact seatWord_ok | exact seatClass_ok) ⟨by repeat (first | exact True.intro | refine And.intro (.inr ⟨veq_refl rfl, (look_own 0 rfl rfl rfl (pickZ (l := [14, 15]) (show n % 2 < 2 by omega)))⟩) ?_ | refine And.intro (.inr ⟨veq_refl rfl, (look_own 1 rfl rfl rfl (pickZ (l := [14, 15]) (show n % 2 < 2 by omega)))⟩) ?_ | refine zs1 ?_), ?_⟩) | refine draw_a rfl rfl rfl rfl rfl (step_buildSliceF rfl rfl rfl rfl rfl rfl (fun _ => ⟨by repeat (first | exact True.intro | refine And.intro (.inr ⟨veq_refl rfl, (look_own 0 rfl rfl rfl (pickZ (l := [14, 15]) (show n % 2 < 2 by omega)))⟩) ?_ | refine And.intro (.inr ⟨veq_refl rfl, (look_own 1 rfl rfl rfl (pickZ (l := [14, 15]) (show n % 2 < 2 by omega)))⟩) ?_ | refine zs1 ?_), ?_⟩)) | refine draw_a rfl rfl rfl rfl rfl (step_alloc rfl rfl rfl rfl (fun _ => ⟨by repeat (first | exact True.intro | refine And.intro (.inr ⟨veq_refl rfl, (look_own 0 rfl rfl rfl (pickZ (l := [14, 15]) (show n % 2 < 2 by omega)))⟩) ?_ | refine And.intro (.inr ⟨veq_refl rfl, (look_own 1 rfl rfl rfl (pickZ (l := [14, 15]) (show n % 2 < 2 by omega)))⟩) ?_ | refine zs1 ?_), ?_⟩)))
    try refine draw_nil ?_
    skip
    refine draw_w rfl rfl rfl rfl rfl rfl (step_call_fp2 rfl rfl rfl (fun H hs hst => bAdd_ok (new := [⟨4, 0, 0, [], [], [], []⟩, ⟨1, _, 0, [], [], [], []⟩, ⟨[14, 15].getD (n % 2) 0, 0, 0, [], [], [], []⟩, ⟨5, 0, 0, [], [], [], []⟩]) hst hF0 (Rd.keep (Rd.sl (i := 0) (n := 4) rfl rfl 4) hs) (by omega)) (fun v2 F2 h2 => (zst ?_)))
    refine draw_nil ?_
    repeat (first | refine zr ?_ | (refine zn ?_; intro _))
    exact ⟨trivial, _, rfl, _, [_, _], List.perm_append_comm (l₁ := [_, _]), _, _, h2, Grown.add ⟨gAt (by decide) (by decide) (by omega), gNum, gOneP (show n % 2 < 2 by omega) (by decide), gAt (by decide) (by decide) (by omega), trivial⟩ (by simp), rfl⟩
  have n8 : k ≠ 8 := fun e => by subst e; exact Bool.noConfusion h
  repeat (first | refine zr ?_ | (refine zn ?_; intro _))
  refine exec_cond rfl (fun h => ?_) (fun h => ?_)
  · have hk : k = 9 := by have := eq_of_beq h; omega
    subst hk
    repeat (first | refine zr ?_ | (refine zn ?_; intro _) | refine ops_step rfl rfl rfl (step_call_pure rfl rfl rfl (fun H hs => by first | exact seatOne_ok | exact seatNum_ok | exact seatStr_ok | exact seatAt_ok | exact seatOf_ok | exact seatPart_ok | exact seatCall_ok | exact seatWord_ok | exact seatClass_ok) ?_))
    refine ops_step rfl rfl rfl (step_call_fp1 rfl rfl rfl (fun H hs hst => bAdd_ok (new := [⟨4, 0, 0, [], [], [], []⟩, ⟨13, 0, 0, [], [], [], []⟩, ⟨5, 0, 0, [], [], [], []⟩]) hst hF0 (Rd.keep (Rd.sl (i := 0) (n := 3) rfl rfl 3) hs) (by omega)) (fun v2 F2 h2 => ?_))
    repeat (first | refine zr ?_ | (refine zn ?_; intro _))
    exact ⟨trivial, _, rfl, _, [_], List.perm_append_comm (l₁ := [_]), _, _, h2, Grown.add ⟨gAt (by decide) (by decide) (by omega), gOne (by decide) (by decide), gAt (by decide) (by decide) (by omega), trivial⟩ (by simp), rfl⟩
  have n9 : k ≠ 9 := fun e => by subst e; exact Bool.noConfusion h
  repeat (first | refine zr ?_ | (refine zn ?_; intro _))
  refine exec_cond rfl (fun h => ?_) (fun h => ?_)
  · have hk : k = 10 := by have := eq_of_beq h; omega
    subst hk
    repeat (first | refine zr ?_ | (refine zn ?_; intro _) | refine ops_step rfl rfl rfl (step_call_pure rfl rfl rfl (fun H hs => by first | exact seatOne_ok | exact seatNum_ok | exact seatStr_ok | exact seatAt_ok | exact seatOf_ok | exact seatPart_ok | exact seatCall_ok | exact seatWord_ok | exact seatClass_ok) ?_))
    refine ops_step rfl rfl rfl (step_call_fp1 rfl rfl rfl (fun H hs hst => bAdd_ok (new := [⟨4, 0, 1, [], [], [], []⟩, ⟨17, 0, 0, [], [], [], []⟩, ⟨5, 0, 0, [], [], [], []⟩]) hst hF0 (Rd.keep (Rd.sl (i := 0) (n := 3) rfl rfl 3) hs) (by omega)) (fun v2 F2 h2 => ?_))
    repeat (first | refine zr ?_ | (refine zn ?_; intro _))
    exact ⟨trivial, _, rfl, _, [_], List.perm_append_comm (l₁ := [_]), _, _, h2, Grown.add ⟨gAt (by decide) (by decide) (by omega), gOne (by decide) (by decide), gAt (by decide) (by decide) (by omega), trivial⟩ (by simp), rfl⟩
  have n10 : k ≠ 10 := fun e => by subst e; exact Bool.noConfusion h
  repeat (first | refine zr ?_ | (refine zn ?_; intro _))
  refine exec_cond rfl (fun h => ?_) (fun h => ?_)
  · have hk : k = 11 := by have := eq_of_beq h; omega
    subst hk
    repeat (first | refine zr ?_ | (refine zn ?_; intro _) | refine ops_step rfl rfl rfl (step_call_pure rfl rfl rfl (fun H hs => by first | exact seatOne_ok | exact seatNum_ok | exact seatStr_ok | exact seatAt_ok | exact seatOf_ok | exact seatPart_ok | exact seatCall_ok | exact seatWord_ok | exact seatClass_ok) ?_))
    refine ops_step rfl rfl rfl (step_call_fp1 rfl rfl rfl (fun H hs hst => bAdd_ok (new := [⟨1, _, 0, [], [], [], []⟩, ⟨21, 0, 0, [], [], [], []⟩, ⟨5, 0, 2, [], [], [], []⟩]) hst hF0 (Rd.keep (Rd.sl (i := 0) (n := 3) rfl rfl 3) hs) (by omega)) (fun v2 F2 h2 => ?_))
    repeat (first | refine zr ?_ | (refine zn ?_; intro _) | refine ops_step rfl rfl rfl (step_call_pure rfl rfl rfl (fun H hs => by first | exact seatOne_ok | exact seatNum_ok | exact seatStr_ok | exact seatAt_ok | exact seatOf_ok | exact seatPart_ok | exact seatCall_ok | exact seatWord_ok | exact seatClass_ok) ?_))
    refine ops_step rfl rfl rfl (step_call_fp1 rfl rfl rfl (fun H hs hst => bTry_ok (fr := (code.length : Int)) (ct := [83, 105, 122, 101, 70, 97, 117, 108, 116]) (s := [115, 105, 122, 101]) hst h2 (by simp; omega) (by omega)) (fun v3 F3 h3 => ?_))
    repeat (first | refine zr ?_ | (refine zn ?_; intro _))
    exact ⟨trivial, _, rfl, _, [_], List.perm_append_comm (l₁ := [_]), _, _, h3, Grown.tryy ⟨gNum, gOne (by decide) (by decide), gAt (by decide) (by decide) (by omega), trivial⟩ (by simp) (by simp; omega) (by decide) (by decide), rfl⟩
  have n11 : k ≠ 11 := fun e => by subst e; exact Bool.noConfusion h
  repeat (first | refine zr ?_ | (refine zn ?_; intro _))
  refine exec_cond rfl (fun h => ?_) (fun h => ?_)
  · have hk : k = 12 := by have := eq_of_beq h; omega
    subst hk
    repeat (first | refine zr ?_ | (refine zn ?_; intro _) | refine ops_step rfl rfl rfl (step_call_pure rfl rfl rfl (fun H hs => by first | exact seatOne_ok | exact seatNum_ok | exact seatStr_ok | exact seatAt_ok | exact seatOf_ok | exact seatPart_ok | exact seatCall_ok | exact seatWord_ok | exact seatClass_ok) ?_))
    refine ops_step rfl rfl rfl (step_call_fp1 rfl rfl rfl (fun H hs hst => bAdd_ok (new := [⟨4, 0, 2, [], [], [], []⟩, ⟨22, 0, 0, [], [], [], []⟩, ⟨5, 0, 0, [], [], [], []⟩]) hst hF0 (Rd.keep (Rd.sl (i := 0) (n := 3) rfl rfl 3) hs) (by omega)) (fun v2 F2 h2 => ?_))
    repeat (first | refine zr ?_ | (refine zn ?_; intro _))
    exact ⟨trivial, _, rfl, _, [_], List.perm_append_comm (l₁ := [_]), _, _, h2, Grown.add ⟨gAt (by decide) (by decide) (by omega), gOne (by decide) (by decide), gAt (by decide) (by decide) (by omega), trivial⟩ (by simp), rfl⟩
  have n12 : k ≠ 12 := fun e => by subst e; exact Bool.noConfusion h
  repeat (first | refine zr ?_ | (refine zn ?_; intro _))
  refine exec_cond rfl (fun h => ?_) (fun h => ?_)
  · have hk : k = 13 := by have := eq_of_beq h; omega
    subst hk
    repeat (first | refine zr ?_ | (refine zn ?_; intro _) | refine ops_step rfl rfl rfl (step_call_pure rfl rfl rfl (fun H hs => by first | exact seatOne_ok | exact seatNum_ok | exact seatStr_ok | exact seatAt_ok | exact seatOf_ok | exact seatPart_ok | exact seatCall_ok | exact seatWord_ok | exact seatClass_ok) ?_))
    refine ops_step rfl rfl rfl (step_call_fp1 rfl rfl rfl (fun H hs hst => bAdd_ok (new := [⟨4, 0, 0, [], [], [], []⟩, ⟨20, 0, (code.length : Int) + 4, [], [], [], []⟩, ⟨2, 0, 0, wordB n, [], [], []⟩, ⟨41, 0, 0, [], [], [], []⟩]) hst hF0 (Rd.keep (Rd.sl (i := 0) (n := 4) rfl rfl 4) hs) (by omega)) (fun v2 F2 h2 => ?_))
    repeat (first | refine zr ?_ | (refine zn ?_; intro _))
    exact ⟨trivial, _, rfl, _, [_], List.perm_append_comm (l₁ := [_]), _, _, h2, Grown.add ⟨gAt (by decide) (by decide) (by omega), gAt (by decide) (by decide) (by omega), gStr (wordB_len n), gOne (by decide) (by decide), trivial⟩ (by simp), rfl⟩
  have n13 : k ≠ 13 := fun e => by subst e; exact Bool.noConfusion h
  repeat (first | refine zr ?_ | (refine zn ?_; intro _))
  refine exec_cond rfl (fun h => ?_) (fun h => ?_)
  · have hk : k = 14 := by have := eq_of_beq h; omega
    subst hk
    repeat (first | refine zr ?_ | (refine zn ?_; intro _) | refine ops_step rfl rfl rfl (step_call_pure rfl rfl rfl (fun H hs => by first | exact seatOne_ok | exact seatNum_ok | exact seatStr_ok | exact seatAt_ok | exact seatOf_ok | exact seatPart_ok | exact seatCall_ok | exact seatWord_ok | exact seatClass_ok) ?_))
    refine ops_step rfl rfl rfl (step_call_fp1 rfl rfl rfl (fun H hs hst => bAdd_ok (new := [⟨1, _, 0, [], [], [], []⟩, ⟨5, 0, 5, [], [], [], []⟩]) hst hF0 (Rd.keep (Rd.sl (i := 0) (n := 2) rfl rfl 2) hs) (by simp; omega)) (fun v2 F2 h2 => ?_))
    repeat (first | refine zr ?_ | (refine zn ?_; intro _) | refine ops_step rfl rfl rfl (step_call_pure rfl rfl rfl (fun H hs => by first | exact seatOne_ok | exact seatNum_ok | exact seatStr_ok | exact seatAt_ok | exact seatOf_ok | exact seatPart_ok | exact seatCall_ok | exact seatWord_ok | exact seatClass_ok) ?_))
    refine ops_step rfl rfl rfl (step_call_fp2 rfl rfl rfl (fun H hs hst => bAdd_ok (new := [⟨4, 0, 5, [], [], [], []⟩, ⟨20, 0, (code.length : Int) + 10, [], [], [], []⟩, ⟨2, 0, 0, [46], [], [], []⟩, ⟨41, 0, 0, [], [], [], []⟩, ⟨4, 0, 5, [], [], [], []⟩, ⟨1, _, 0, [], [], [], []⟩, ⟨9, 0, 0, [], [], [], []⟩, ⟨5, 0, 5, [], [], [], []⟩]) hst h2 (Rd.keep (Rd.sl (i := 0) (n := 8) rfl rfl 8) hs) (by simp; omega)) (fun v3 F3 h3 => ?_))
    have key : ∃ z1 z2 : Int, BldG bb (code ++ [⟨1, z1, 0, [], [], [], []⟩, ⟨5, 0, 5, [], [], [], []⟩] ++ [⟨4, 0, 5, [], [], [], []⟩, ⟨20, 0, (code.length : Int) + 10, [], [], [], []⟩, ⟨2, 0, 0, [46], [], [], []⟩, ⟨41, 0, 0, [], [], [], []⟩, ⟨4, 0, 5, [], [], [], []⟩, ⟨1, z2, 0, [], [], [], []⟩, ⟨9, 0, 0, [], [], [], []⟩, ⟨5, 0, 5, [], [], [], []⟩]) hl F3 ∧ GI ⟨1, z1, 0, [], [], [], []⟩ ∧ GI ⟨1, z2, 0, [], [], [], []⟩ := ⟨_, _, h3, gNum, gNum (x := 1)⟩
    obtain ⟨z1, z2, h3, gz1, gz2⟩ := key
    obtain ⟨cd, hcd⟩ : ∃ cd : List Ins, cd = code ++ [⟨1, z1, 0, [], [], [], []⟩, ⟨5, 0, 5, [], [], [], []⟩] ++ [⟨4, 0, 5, [], [], [], []⟩, ⟨20, 0, (code.length : Int) + 10, [], [], [], []⟩, ⟨2, 0, 0, [46], [], [], []⟩, ⟨41, 0, 0, [], [], [], []⟩, ⟨4, 0, 5, [], [], [], []⟩, ⟨1, z2, 0, [], [], [], []⟩, ⟨9, 0, 0, [], [], [], []⟩, ⟨5, 0, 5, [], [], [], []⟩] := ⟨_, rfl⟩
    rw [← hcd] at h3
    have hcl : cd.length = code.length + 10 := by rw [hcd]; simp
    have hget : cd[code.length + 3]? = some ⟨20, 0, (code.length : Int) + 10, [], [], [], []⟩ := by rw [hcd, List.append_assoc, List.getElem?_append_right (by omega), Nat.add_sub_cancel_left]; rfl
    have hset0 : cd = cd.set (code.length + 3) ⟨20, 0, (code.length : Int) + 10, [], [], [], []⟩ := by
      obtain ⟨hi', e⟩ := List.getElem?_eq_some_iff.1 hget
      rw [← e, List.set_getElem_self]
    have hset : cd.set (code.length + 3) ⟨20, 0, (code.length : Int) + 11, [], [], [], []⟩ = code ++ ([⟨1, z1, 0, [], [], [], []⟩, ⟨5, 0, 5, [], [], [], []⟩] ++ [⟨4, 0, 5, [], [], [], []⟩, ⟨20, 0, (code.length : Int) + 11, [], [], [], []⟩, ⟨2, 0, 0, [46], [], [], []⟩, ⟨41, 0, 0, [], [], [], []⟩, ⟨4, 0, 5, [], [], [], []⟩, ⟨1, z2, 0, [], [], [], []⟩, ⟨9, 0, 0, [], [], [], []⟩, ⟨5, 0, 5, [], [], [], []⟩]) := by
      rw [hcd, List.append_assoc, List.set_append_right _ _ (by omega), Nat.add_sub_cancel_left]; rfl
    obtain ⟨a3, c3, p3, ha3, hc3, q3, rfl, own3, ownH3⟩ := h3
    obtain ⟨b3, v3, rfl, rfl, rfl, hl3⟩ := own3.inv (by omega)
    repeat (first | refine zr ?_ | (refine zn ?_; intro _) | refine ops_step rfl rfl rfl (step_call_pure rfl rfl rfl (fun H hs => by first | exact seatOne_ok | exact seatNum_ok | exact seatStr_ok | exact seatAt_ok | exact seatOf_ok | exact seatPart_ok | exact seatCall_ok | exact seatWord_ok | exact seatClass_ok) ?_))
    rw [show (code.length : Int) + 3 = ((code.length + 3 : Nat) : Int) from by omega]
    (first | apply ops_pl rfl rfl rfl ?_ rfl ?_ | apply draw_pl rfl rfl rfl rfl ?_ rfl rfl ?_); rotate_left; focus exact (.p rfl (opP_idxo (z := 7) rfl rfl rfl rfl (by omega) (by omega)))
    repeat (first | refine zr ?_ | (refine zn ?_; intro _) | refine ops_step rfl rfl rfl (step_call_pure rfl rfl rfl (fun H hs => by first | exact seatOne_ok | exact seatNum_ok | exact seatStr_ok | exact seatAt_ok | exact seatOf_ok | exact seatPart_ok | exact seatCall_ok | exact seatWord_ok | exact seatClass_ok) ?_))
    refine ops_step rfl rfl rfl (step_storeF 3 rfl rfl rfl rfl rfl rfl (flat_put (f := insL) (l0 := cd) (x := ⟨20, 0, (code.length : Int) + 10, [], [], [], []⟩) (y := ⟨20, 0, (code.length : Int) + 11, [], [], [], []⟩) (fun _ => rfl) hset0 (by omega) rfl rfl rfl) rfl ?_)
    have hl4 : ((cd.set (code.length + 3) ⟨20, 0, (code.length : Int) + 11, [], [], [], []⟩).flatMap insL).length = cd.length * 7 := by rw [flat_len (f := insL) (z := 7) (fun _ => rfl), List.length_set]
    repeat (first | refine zr ?_ | (refine zn ?_; intro _) | refine ops_step rfl rfl rfl (step_call_pure rfl rfl rfl (fun H hs => by first | exact seatOne_ok | exact seatNum_ok | exact seatStr_ok | exact seatAt_ok | exact seatOf_ok | exact seatPart_ok | exact seatCall_ok | exact seatWord_ok | exact seatClass_ok) ?_))
    refine ops_step rfl rfl rfl (step_call_fp3 rfl rfl rfl (fun H hs hst => bAdd_ok (new := [⟨19, 0, (code.length : Int) + 2, [], [], [], []⟩]) hst (code := cd.set (code.length + 3) ⟨20, 0, (code.length : Int) + 11, [], [], [], []⟩) (hl := hl) ⟨some ⟨b3, 0, some v3⟩, unk, _, ha3, hc3, q3, by rw [List.length_set], by rw [List.length_set]; exact .own hl4, ownH3⟩ (Rd.keep (Rd.sl (i := 0) (n := 1) rfl rfl 1) hs) (by rw [List.length_set]; omega)) (fun v4 F4 h4 => ?_))
    rw [hset] at h4
    repeat (first | refine zr ?_ | (refine zn ?_; intro _))
    refine ⟨trivial, _, rfl, _, [_, _, _], List.perm_append_comm (l₁ := [_, _, _]), _, _, h4, ⟨[⟨1, z1, 0, [], [], [], []⟩, ⟨5, 0, 5, [], [], [], []⟩] ++ [⟨4, 0, 5, [], [], [], []⟩, ⟨20, 0, (code.length : Int) + 11, [], [], [], []⟩, ⟨2, 0, 0, [46], [], [], []⟩, ⟨41, 0, 0, [], [], [], []⟩, ⟨4, 0, 5, [], [], [], []⟩, ⟨1, z2, 0, [], [], [], []⟩, ⟨9, 0, 0, [], [], [], []⟩, ⟨5, 0, 5, [], [], [], []⟩] ++ [⟨19, 0, (code.length : Int) + 2, [], [], [], []⟩], [], by simp, ?_, by simp, by simp, (fun x hx => by cases hx), by simp⟩, rfl⟩
    exact ⟨gz1, gAt (by decide) (by decide) (by omega), gAt (by decide) (by decide) (by omega), gAt (by decide) (by decide) (by omega), gStr (by decide), gOne (by decide) (by decide), gAt (by decide) (by decide) (by omega), gz2, gOne (by decide) (by decide), gAt (by decide) (by decide) (by omega), gAt (by decide) (by decide) (by omega), trivial⟩
  have n14 : k ≠ 14 := fun e => by subst e; exact Bool.noConfusion h
  repeat (first | refine zr ?_ | (refine zn ?_; intro _))
  refine exec_cond rfl (fun h => ?_) (fun h => ?_)
  · have hk : k = 15 := by have := eq_of_beq h; omega
    subst hk
    repeat (first | refine zr ?_ | (refine zn ?_; intro _) | refine ops_step rfl rfl rfl (step_call_pure rfl rfl rfl (fun H hs => by first | exact seatOne_ok | exact seatNum_ok | exact seatStr_ok | exact seatAt_ok | exact seatOf_ok | exact seatPart_ok | exact seatCall_ok | exact seatWord_ok | exact seatClass_ok) ?_))
    refine ops_step rfl rfl rfl (step_call_fp1 rfl rfl rfl (fun H hs hst => bAdd_ok (new := [⟨2, 0, 0, wordB n, [], [], []⟩, ⟨7, 0, 0, [], [], [], []⟩, ⟨16, 0, 0, [], [], [], []⟩, ⟨41, 0, 0, [], [], [], []⟩]) hst hF0 (Rd.keep (Rd.sl (i := 0) (n := 4) rfl rfl 4) hs) (by omega)) (fun v2 F2 h2 => ?_))
    repeat (first | refine zr ?_ | (refine zn ?_; intro _))
    exact ⟨trivial, _, rfl, _, [_], List.perm_append_comm (l₁ := [_]), _, _, h2, Grown.add ⟨gStr (wordB_len n), gOne (by decide) (by decide), gOne (by decide) (by decide), gOne (by decide) (by decide), trivial⟩ (by simp), rfl⟩
  have n15 : k ≠ 15 := fun e => by subst e; exact Bool.noConfusion h
  repeat (first | refine zr ?_ | (refine zn ?_; intro _))
  exact ⟨trivial, _, rfl, _, [], List.Perm.of_eq (List.append_nil _).symm, code, hl, ⟨a, c, p, ha, hc, q, rfl, own, ownH⟩, ⟨[], [], by simp, trivial, by simp, by simp, (fun x hx => by cases hx), by simp⟩, by rw [decide_eq_false (by omega)]; rfl⟩
end Go.Proofs.YtlhkndjloeoodaaGreat
namespace Go.Proofs.YtlhkndjloeoodaaGreat
open Go.Ev Go.Ev.Wk
variable {O : Old}
set_option maxHeartbeats 64000000 in
set_option maxRecDepth 100000 in
theorem bObjects_ok {H : Heap} {bb : Nat} {code : List Ins} {hl : List HV} {F : Atoms} {k n : Nat} (hst : St (blksOf F) H H F) (hF : BldG bb code hl F) (hn : code.length ≤ 1900) (hh : hl.length ≤ 1000) (h255 : n ≤ 255) :
    FpC TT O 70 [ptr bb, .int .u8 (k : Int), .int .u8 (n : Int)] H F fun v F' => ∃ (code' : List Ins) (hl' : List HV), BldG bb code' hl' F' ∧ Grown 13 code hl code' hl' := by
  have hF0 := hF
  obtain ⟨a, c, p, ha, hc, q, rfl, own, ownH⟩ := hF
  refine call_fp rfl rfl rfl rfl rfl hst ?_
  repeat (first | refine zr ?_ | (refine zn ?_; intro _) | refine ops_step rfl rfl rfl (step_call_pure rfl rfl rfl (fun H hs => by first | exact seatOne_ok | exact seatNum_ok | exact seatStr_ok | exact seatAt_ok | exact seatOf_ok | exact seatPart_ok | exact seatCall_ok | exact seatWord_ok | exact seatClass_ok) ?_))
  rename_i bx
  by_cases h16 : k = 16
  · subst h16
    repeat (first | refine zr ?_ | (refine zn ?_; intro _) | refine ops_step rfl rfl rfl (step_call_pure rfl rfl rfl (fun H hs => by first | exact seatOne_ok | exact seatNum_ok | exact seatStr_ok | exact seatAt_ok | exact seatOf_ok | exact seatPart_ok | exact seatCall_ok | exact seatWord_ok | exact seatClass_ok) ?_))
    refine ops_step rfl rfl rfl (step_call_fp2 rfl rfl rfl (fun H hs hst => bAdd_ok (new := [⟨25, 0, 0, [], classB n, [], []⟩, ⟨5, 0, 3, [], [], [], []⟩]) hst hF0 (Rd.keep (Rd.sl (i := 0) (n := 2) rfl rfl 2) hs) (by omega)) (fun v2 F2 h2 => ?_))
    repeat (first | refine zr ?_ | (refine zn ?_; intro _))
    exact ⟨trivial, _, rfl, _, [_, _], List.perm_append_comm (l₁ := [_, _]), _, _, h2, Grown.add ⟨gOf (by decide) (by decide) (classB_name n), gAt (by decide) (by decide) (by omega), trivial⟩ (by simp)⟩
  by_cases h17 : k = 17
  · subst h17
    repeat (first | refine zr ?_ | (refine zn ?_; intro _) | refine ops_step rfl rfl rfl (step_call_pure rfl rfl rfl (fun H hs => by first | exact seatOne_ok | exact seatNum_ok | exact seatStr_ok | exact seatAt_ok | exact seatOf_ok | exact seatPart_ok | exact seatCall_ok | exact seatWord_ok | exact seatClass_ok) ?_))
    refine ops_step rfl rfl rfl (step_call_fp2 rfl rfl rfl (fun H hs hst => bAdd_ok (new := [⟨25, 0, 0, [], classB n, [], []⟩, ⟨5, 0, 3, [], [], [], []⟩]) hst hF0 (Rd.keep (Rd.sl (i := 0) (n := 2) rfl rfl 2) hs) (by omega)) (fun v2 F2 h2 => ?_))
    repeat (first | refine zr ?_ | (refine zn ?_; intro _))
    exact ⟨trivial, _, rfl, _, [_, _], List.perm_append_comm (l₁ := [_, _]), _, _, h2, Grown.add ⟨gOf (by decide) (by decide) (classB_name n), gAt (by decide) (by decide) (by omega), trivial⟩ (by simp)⟩
  rw [show ((k : Int) == 16) = false from by rw [beq_eq_false_iff_ne]; omega]
  repeat (first | refine zr ?_ | (refine zn ?_; intro _))
  rw [show ((k : Int) == 17) = false from by rw [beq_eq_false_iff_ne]; omega]
  repeat (first | refine zr ?_ | (refine zn ?_; intro _))
  refine exec_cond rfl (fun h => ?_) (fun h => ?_)
  · have hk : k = 18 := by have := eq_of_beq h; omega
    subst hk
    repeat (first | refine zr ?_ | (refine zn ?_; intro _) | refine ops_step rfl rfl rfl (step_call_pure rfl rfl rfl (fun H hs => by first | exact seatOne_ok | exact seatNum_ok | exact seatStr_ok | exact seatAt_ok | exact seatOf_ok | exact seatPart_ok | exact seatCall_ok | exact seatWord_ok | exact seatClass_ok) ?_))
    refine ops_step rfl rfl rfl (step_call_fp2 rfl rfl rfl (fun H hs hst => bAdd_ok (new := [⟨3, 0, 0, [], [], [], []⟩, ⟨5, 0, 3, [], [], [], []⟩]) hst hF0 (Rd.keep (Rd.sl (i := 0) (n := 2) rfl rfl 2) hs) (by omega)) (fun v2 F2 h2 => ?_))
    repeat (first | refine zr ?_ | (refine zn ?_; intro _))
    exact ⟨trivial, _, rfl, _, [_, _], List.perm_append_comm (l₁ := [_, _]), _, _, h2, Grown.add ⟨gOne (by decide) (by decide), gAt (by decide) (by decide) (by omega), trivial⟩ (by simp)⟩
  have n18 : k ≠ 18 := fun e => by subst e; exact Bool.noConfusion h
  repeat (first | refine zr ?_ | (refine zn ?_; intro _))
  refine exec_cond rfl (fun h => ?_) (fun h => ?_)
  · have hk : k = 19 := by have := eq_of_beq h; omega
    subst hk
    repeat (first | refine zr ?_ | (refine zn ?_; intro _))
    refine exec_draw (lst := [(0, 0), (1, 0), (2, 0), (3, 4), (4, 14), (5, 31)]) (full := 63) (by kernel_rfl) (by kernel_rfl) (by kernel_rfl) (by kernel_rfl) ?_
    repeat (first | refine zd ?_ | refine draw_w rfl rfl rfl rfl rfl rfl (step_call_pure rfl rfl rfl (fun H hs => by first | exact seatOne_ok | exact seatNum_ok | exact seatStr_ok | exact seatAt_ok | exact seatOf_ok | exact seatPart_ok | exact seatCall_ok | exact seatWord_ok | exact seatClass_ok) (zst ?_)) | refine draw_a rfl rfl rfl rfl rfl (step_buildSliceF rfl rfl rfl rfl rfl rfl (fun _ => (zst ?_))) | refine draw_a rfl rfl rfl rfl rfl (step_alloc rfl rfl rfl rfl (fun _ => (zst ?_))))
    try refine draw_nil ?_
    refine draw_w rfl rfl rfl rfl rfl rfl (step_call_fp2 rfl rfl rfl (fun H hs hst => bAdd_ok (new := [⟨4, 0, 3, [], [], [], []⟩, ⟨34, 0, 0, [], [66, 97, 115, 101], [114, 117, 110], [40, 41, 73]⟩, ⟨5, 0, 0, [], [], [], []⟩]) hst hF0 (Rd.keep (Rd.sl (i := 0) (n := 3) rfl rfl 3) hs) (by omega)) (fun v2 F2 h2 => (zst ?_)))
    refine draw_nil ?_
    repeat (first | refine zr ?_ | (refine zn ?_; intro _))
    exact ⟨trivial, _, rfl, _, [_, _], List.perm_append_comm (l₁ := [_, _]), _, _, h2, Grown.add ⟨gAt (by decide) (by decide) (by omega), gCall (by decide) (by decide) (by decide) (by decide) (by decide +kernel) (by decide), gAt (by decide) (by decide) (by omega), trivial⟩ (by simp)⟩
  have n19 : k ≠ 19 := fun e => by subst e; exact Bool.noConfusion h
  repeat (first | refine zr ?_ | (refine zn ?_; intro _))
  refine exec_cond rfl (fun h => ?_) (fun h => ?_)
  · have hk : k = 20 := by have := eq_of_beq h; omega
    subst hk
    repeat (first | refine zr ?_ | (refine zn ?_; intro _))
    refine exec_draw (lst := [(0, 0), (1, 0), (2, 0), (3, 4), (4, 14), (5, 31)]) (full := 63) (by kernel_rfl) (by kernel_rfl) (by kernel_rfl) (by kernel_rfl) ?_
    repeat (first | refine zd ?_ | refine draw_w rfl rfl rfl rfl rfl rfl (step_call_pure rfl rfl rfl (fun H hs => by first | exact seatOne_ok | exact seatNum_ok | exact seatStr_ok | exact seatAt_ok | exact seatOf_ok | exact seatPart_ok | exact seatCall_ok | exact seatWord_ok | exact seatClass_ok) (zst ?_)) | refine draw_a rfl rfl rfl rfl rfl (step_buildSliceF rfl rfl rfl rfl rfl rfl (fun _ => (zst ?_))) | refine draw_a rfl rfl rfl rfl rfl (step_alloc rfl rfl rfl rfl (fun _ => (zst ?_))))
    try refine draw_nil ?_
    refine draw_w rfl rfl rfl rfl rfl rfl (step_call_fp2 rfl rfl rfl (fun H hs hst => bAdd_ok (new := [⟨4, 0, 3, [], [], [], []⟩, ⟨30, 0, 0, [], [73], [], []⟩, ⟨5, 0, 4, [], [], [], []⟩]) hst hF0 (Rd.keep (Rd.sl (i := 0) (n := 3) rfl rfl 3) hs) (by omega)) (fun v2 F2 h2 => (zst ?_)))
    refine draw_nil ?_
    repeat (first | refine zr ?_ | (refine zn ?_; intro _))
    exact ⟨trivial, _, rfl, _, [_, _], List.perm_append_comm (l₁ := [_, _]), _, _, h2, Grown.add ⟨gAt (by decide) (by decide) (by omega), gOf (by decide) (by decide) (by decide), gAt (by decide) (by decide) (by omega), trivial⟩ (by simp)⟩
  have n20 : k ≠ 20 := fun e => by subst e; exact Bool.noConfusion h
  repeat (first | refine zr ?_ | (refine zn ?_; intro _))
  refine exec_cond rfl (fun h => ?_) (fun h => ?_)
  · have hk : k = 21 := by have := eq_of_beq h; omega
    subst hk
    repeat (first | refine zr ?_ | (refine zn ?_; intro _) | refine ops_step rfl rfl rfl (step_call_pure rfl rfl rfl (fun H hs => by first | exact seatOne_ok | exact seatNum_ok | exact seatStr_ok | exact seatAt_ok | exact seatOf_ok | exact seatPart_ok | exact seatCall_ok | exact seatWord_ok | exact seatClass_ok) ?_))
    refine ops_step rfl rfl rfl (step_call_fp2 rfl rfl rfl (fun H hs hst => bAdd_ok (new := [⟨4, 0, 4, [], [], [], []⟩, ⟨35, 0, 0, [], [73], [114, 117, 110], [40, 41, 73]⟩, ⟨5, 0, 0, [], [], [], []⟩]) hst hF0 (Rd.keep (Rd.sl (i := 0) (n := 3) rfl rfl 3) hs) (by omega)) (fun v2 F2 h2 => ?_))
    repeat (first | refine zr ?_ | (refine zn ?_; intro _) | refine ops_step rfl rfl rfl (step_call_pure rfl rfl rfl (fun H hs => by first | exact seatOne_ok | exact seatNum_ok | exact seatStr_ok | exact seatAt_ok | exact seatOf_ok | exact seatPart_ok | exact seatCall_ok | exact seatWord_ok | exact seatClass_ok) ?_))
    refine ops_step rfl rfl rfl (step_call_fp2 rfl rfl rfl (fun H hs hst => bTry_ok (fr := (code.length : Int)) (ct := [78, 117, 108, 108, 70, 97, 117, 108, 116]) (s := [110, 117, 108, 108]) hst h2 (by simp; omega) (by omega)) (fun v3 F3 h3 => ?_))
    repeat (first | refine zr ?_ | (refine zn ?_; intro _))
    exact ⟨trivial, _, rfl, _, [_, _], List.perm_append_comm (l₁ := [_, _]), _, _, h3, Grown.tryy ⟨gAt (by decide) (by decide) (by omega), gCall (by decide) (by decide) (by decide) (by decide) (by decide +kernel) (by decide), gAt (by decide) (by decide) (by omega), trivial⟩ (by simp) (by simp; omega) (by decide) (by decide)⟩
  have n21 : k ≠ 21 := fun e => by subst e; exact Bool.noConfusion h
  repeat (first | refine zr ?_ | (refine zn ?_; intro _))
  refine exec_cond rfl (fun h => ?_) (fun h => ?_)
  · have hk : k = 22 := by have := eq_of_beq h; omega
    subst hk
    repeat (first | refine zr ?_ | (refine zn ?_; intro _))
    refine exec_draw (lst := [(0, 0), (1, 0), (2, 0), (3, 4), (4, 14), (5, 31)]) (full := 63) (by kernel_rfl) (by kernel_rfl) (by kernel_rfl) (by kernel_rfl) ?_
    repeat (first | refine zd ?_ | refine draw_w rfl rfl rfl rfl rfl rfl (step_call_pure rfl rfl rfl (fun H hs => by first | exact seatOne_ok | exact seatNum_ok | exact seatStr_ok | exact seatAt_ok | exact seatOf_ok | exact seatPart_ok | exact seatCall_ok | exact seatWord_ok | exact seatClass_ok) (zst ?_)) | refine draw_a rfl rfl rfl rfl rfl (step_buildSliceF rfl rfl rfl rfl rfl rfl (fun _ => (zst ?_))) | refine draw_a rfl rfl rfl rfl rfl (step_alloc rfl rfl rfl rfl (fun _ => (zst ?_))))
    try refine draw_nil ?_
    refine draw_w rfl rfl rfl rfl rfl rfl (step_call_fp2 rfl rfl rfl (fun H hs hst => bAdd_ok (new := [⟨4, 0, 3, [], [], [], []⟩, ⟨34, 0, 0, [], [66, 97, 115, 101], [110, 97, 109, 101], [40, 41, 83]⟩, ⟨41, 0, 0, [], [], [], []⟩]) hst hF0 (Rd.keep (Rd.sl (i := 0) (n := 3) rfl rfl 3) hs) (by omega)) (fun v2 F2 h2 => (zst ?_)))
    refine draw_nil ?_
    repeat (first | refine zr ?_ | (refine zn ?_; intro _))
    exact ⟨trivial, _, rfl, _, [_, _], List.perm_append_comm (l₁ := [_, _]), _, _, h2, Grown.add ⟨gAt (by decide) (by decide) (by omega), gCall (by decide) (by decide) (by decide) (by decide) (by decide +kernel) (by decide), gOne (by decide) (by decide), trivial⟩ (by simp)⟩
  have n22 : k ≠ 22 := fun e => by subst e; exact Bool.noConfusion h
  repeat (first | refine zr ?_ | (refine zn ?_; intro _))
  refine exec_cond rfl (fun h => ?_) (fun h => ?_)
  · have hk : k = 23 := by have := eq_of_beq h; omega
    subst hk
    repeat (first | refine zr ?_ | (refine zn ?_; intro _))
    refine exec_draw (lst := [(0, 0), (1, 0), (2, 0), (3, 4), (4, 14), (5, 31)]) (full := 63) (by kernel_rfl) (by kernel_rfl) (by kernel_rfl) (by kernel_rfl) ?_
    repeat (first | refine zd ?_ | refine draw_w rfl rfl rfl rfl rfl rfl (step_call_pure rfl rfl rfl (fun H hs => by first | exact seatOne_ok | exact seatNum_ok | exact seatStr_ok | exact seatAt_ok | exact seatOf_ok | exact seatPart_ok | exact seatCall_ok | exact seatWord_ok | exact seatClass_ok) (zst ?_)) | refine draw_a rfl rfl rfl rfl rfl (step_buildSliceF rfl rfl rfl rfl rfl rfl (fun _ => (zst ?_))) | refine draw_a rfl rfl rfl rfl rfl (step_alloc rfl rfl rfl rfl (fun _ => (zst ?_))))
    try refine draw_nil ?_
    refine draw_w rfl rfl rfl rfl rfl rfl (step_call_fp2 rfl rfl rfl (fun H hs hst => bAdd_ok (new := [⟨4, 0, 3, [], [], [], []⟩, ⟨4, 0, 0, [], [], [], []⟩, ⟨27, 0, 0, [], [66, 97, 115, 101], [120], []⟩]) hst hF0 (Rd.keep (Rd.sl (i := 0) (n := 3) rfl rfl 3) hs) (by omega)) (fun v2 F2 h2 => (zst ?_)))
    refine draw_nil ?_
    repeat (first | refine zr ?_ | (refine zn ?_; intro _))
    exact ⟨trivial, _, rfl, _, [_, _], List.perm_append_comm (l₁ := [_, _]), _, _, h2, Grown.add ⟨gAt (by decide) (by decide) (by omega), gAt (by decide) (by decide) (by omega), gPart (by decide) (by decide) (by decide) (by decide), trivial⟩ (by simp)⟩
  have n23 : k ≠ 23 := fun e => by subst e; exact Bool.noConfusion h
  repeat (first | refine zr ?_ | (refine zn ?_; intro _))
  refine exec_cond rfl (fun h => ?_) (fun h => ?_)
  · have hk : k = 24 := by have := eq_of_beq h; omega
    subst hk
    repeat (first | refine zr ?_ | (refine zn ?_; intro _))
    refine exec_draw (lst := [(0, 0), (1, 0), (2, 0), (3, 4), (4, 14), (5, 31)]) (full := 63) (by kernel_rfl) (by kernel_rfl) (by kernel_rfl) (by kernel_rfl) ?_
    repeat (first | refine zd ?_ | refine draw_w rfl rfl rfl rfl rfl rfl (step_call_pure rfl rfl rfl (fun H hs => by first | exact seatOne_ok | exact seatNum_ok | exact seatStr_ok | exact seatAt_ok | exact seatOf_ok | exact seatPart_ok | exact seatCall_ok | exact seatWord_ok | exact seatClass_ok) (zst ?_)) | refine draw_a rfl rfl rfl rfl rfl (step_buildSliceF rfl rfl rfl rfl rfl rfl (fun _ => (zst ?_))) | refine draw_a rfl rfl rfl rfl rfl (step_alloc rfl rfl rfl rfl (fun _ => (zst ?_))))
    try refine draw_nil ?_
    refine draw_w rfl rfl rfl rfl rfl rfl (step_call_fp2 rfl rfl rfl (fun H hs hst => bAdd_ok (new := [⟨4, 0, 3, [], [], [], []⟩, ⟨26, 0, 0, [], [66, 97, 115, 101], [120], []⟩, ⟨5, 0, 0, [], [], [], []⟩]) hst hF0 (Rd.keep (Rd.sl (i := 0) (n := 3) rfl rfl 3) hs) (by omega)) (fun v2 F2 h2 => (zst ?_)))
    refine draw_nil ?_
    repeat (first | refine zr ?_ | (refine zn ?_; intro _))
    exact ⟨trivial, _, rfl, _, [_, _], List.perm_append_comm (l₁ := [_, _]), _, _, h2, Grown.add ⟨gAt (by decide) (by decide) (by omega), gPart (by decide) (by decide) (by decide) (by decide), gAt (by decide) (by decide) (by omega), trivial⟩ (by simp)⟩
  have n24 : k ≠ 24 := fun e => by subst e; exact Bool.noConfusion h
  repeat (first | refine zr ?_ | (refine zn ?_; intro _))
  refine exec_cond rfl (fun h => ?_) (fun h => ?_)
  · have hk : k = 25 := by have := eq_of_beq h; omega
    subst hk
    repeat (first | refine zr ?_ | (refine zn ?_; intro _))
    refine exec_draw (lst := [(0, 0), (1, 0), (2, 0), (3, 4), (4, 12), (5, 28), (6, 62), (7, 127)]) (full := 255) (by kernel_rfl) (by kernel_rfl) (by kernel_rfl) (by kernel_rfl) ?_
    repeat (first | refine zd ?_ | refine draw_w rfl rfl rfl rfl rfl rfl (step_call_pure rfl rfl rfl (fun H hs => by first | exact seatOne_ok | exact seatNum_ok | exact seatStr_ok | exact seatAt_ok | exact seatOf_ok | exact seatPart_ok | exact seatCall_ok | exact seatWord_ok | exact seatClass_ok) (zst ?_)) | refine draw_a rfl rfl rfl rfl rfl (step_buildSliceF rfl rfl rfl rfl rfl rfl (fun _ => (zst ?_))) | refine draw_a rfl rfl rfl rfl rfl (step_alloc rfl rfl rfl rfl (fun _ => (zst ?_))))
    try refine draw_nil ?_
    refine draw_w rfl rfl rfl rfl rfl rfl (step_call_fp2 rfl rfl rfl (fun H hs hst => bAdd_ok (new := [⟨4, 0, 3, [], [], [], []⟩, ⟨1, _, 0, [], [], [], []⟩, ⟨27, 0, 0, [], [66, 97, 115, 101], [119], []⟩]) hst hF0 (Rd.keep (Rd.sl (i := 0) (n := 3) rfl rfl 3) hs) (by omega)) (fun v2 F2 h2 => (zst ?_)))
    refine draw_nil ?_
    repeat (first | refine zr ?_ | (refine zn ?_; intro _))
    exact ⟨trivial, _, rfl, _, [_, _], List.perm_append_comm (l₁ := [_, _]), _, _, h2, Grown.add ⟨gAt (by decide) (by decide) (by omega), gNum, gPart (by decide) (by decide) (by decide) (by decide), trivial⟩ (by simp)⟩
  have n25 : k ≠ 25 := fun e => by subst e; exact Bool.noConfusion h
  repeat (first | refine zr ?_ | (refine zn ?_; intro _))
  refine exec_cond rfl (fun h => ?_) (fun h => ?_)
  · have hk : k = 26 := by have := eq_of_beq h; omega
    subst hk
    repeat (first | refine zr ?_ | (refine zn ?_; intro _) | refine ops_step rfl rfl rfl (step_call_pure rfl rfl rfl (fun H hs => by first | exact seatOne_ok | exact seatNum_ok | exact seatStr_ok | exact seatAt_ok | exact seatOf_ok | exact seatPart_ok | exact seatCall_ok | exact seatWord_ok | exact seatClass_ok) ?_))
    refine ops_step rfl rfl rfl (step_call_fp2 rfl rfl rfl (fun H hs hst => bAdd_ok (new := [⟨28, 0, 0, [], [65], [99, 111, 117, 110, 116], []⟩, ⟨1, _, 0, [], [], [], []⟩, ⟨8, 0, 0, [], [], [], []⟩, ⟨29, 0, 0, [], [65], [99, 111, 117, 110, 116], []⟩]) hst hF0 (Rd.keep (Rd.sl (i := 0) (n := 4) rfl rfl 4) hs) (by omega)) (fun v2 F2 h2 => ?_))
    repeat (first | refine zr ?_ | (refine zn ?_; intro _))
    exact ⟨trivial, _, rfl, _, [_, _], List.perm_append_comm (l₁ := [_, _]), _, _, h2, Grown.add ⟨gPart (by decide) (by decide) (by decide) (by decide), gNum (x := 1), gOne (by decide) (by decide), gPart (by decide) (by decide) (by decide) (by decide), trivial⟩ (by simp)⟩
  have n26 : k ≠ 26 := fun e => by subst e; exact Bool.noConfusion h
  repeat (first | refine zr ?_ | (refine zn ?_; intro _))
  refine exec_cond rfl (fun h => ?_) (fun h => ?_)
  · have hk : k = 27 := by have := eq_of_beq h; omega
    subst hk
    repeat (first | refine zr ?_ | (refine zn ?_; intro _))
    refine exec_draw (lst := [(0, 0), (2, 0), (3, 0), (4, 8), (5, 28), (6, 60), (1, 0), (7, 126), (8, 254), (9, 511)]) (full := 1023) (by kernel_rfl) (by kernel_rfl) (by kernel_rfl) (by kernel_rfl) ?_
    skip
    repeat (first | refine zd ?_ | refine draw_w rfl rfl rfl rfl rfl rfl (step_call_pure rfl rfl rfl (fun H hs => by first | exact seatOne_ok | exact seatNum_ok | exact seatStr_ok | exact seatAt_ok | exact seatOf_ok | exact seatPart_ok | exact seatCall_ok | exact seatWord_ok | exact seatClass_ok) ⟨by repeat (first | exact True.intro | refine And.intro (.inr ⟨veq_refl rfl, (look_own 0 rfl rfl rfl (pickS (l := [[85, 116, 105, 108], [68]]) (show n % 2 < 2 by omega)))⟩) ?_ | refine And.intro (.inr ⟨veq_refl rfl, (look_own 1 rfl rfl rfl (pickS (l := [[85, 116, 105, 108], [68]]) (show n % 2 < 2 by omega)))⟩) ?_ | refine zs1 ?_), ?_⟩) | refine draw_a rfl rfl rfl rfl rfl (step_buildSliceF rfl rfl rfl rfl rfl rfl (fun _ => ⟨by repeat (first | exact True.intro | refine And.intro (.inr ⟨veq_refl rfl, (look_own 0 rfl rfl rfl (pickS (l := [[85, 116, 105, 108], [68]]) (show n % 2 < 2 by omega)))⟩) ?_ | refine And.intro (.inr ⟨veq_refl rfl, (look_own 1 rfl rfl rfl (pickS (l := [[85, 116, 105, 108], [68]]) (show n % 2 < 2 by omega)))⟩) ?_ | refine zs1 ?_), ?_⟩)) | refine draw_a rfl rfl rfl rfl rfl (step_alloc rfl rfl rfl rfl (fun _ => ⟨by repeat (first | exact True.intro | refine And.intro (.inr ⟨veq_refl rfl, (look_own 0 rfl rfl rfl (pickS (l := [[85, 116, 105, 108], [68]]) (show n % 2 < 2 by omega)))⟩) ?_ | refine And.intro (.inr ⟨veq_refl rfl, (look_own 1 rfl rfl rfl (pickS (l := [[85, 116, 105, 108], [68]]) (show n % 2 < 2 by omega)))⟩) ?_ | refine zs1 ?_), ?_⟩)))
    try refine draw_nil ?_
    rw [tm2]
    (first | apply ops_pl rfl rfl rfl ?_ rfl ?_ | apply draw_pl rfl rfl rfl rfl ?_ rfl rfl ?_); rotate_left; focus exact (.p rfl (opP_idxo (z := 1) rfl rfl rfl rfl (by omega) (by omega)))
    (first | apply ops_pl rfl rfl rfl ?_ rfl ?_ | apply draw_pl rfl rfl rfl rfl ?_ rfl rfl ?_); rotate_left; focus exact (.l rfl (look_own 0 rfl rfl rfl (pickS (l := [[85, 116, 105, 108], [68]]) (show n % 2 < 2 by omega))))
    repeat (first | refine zd ?_ | refine draw_w rfl rfl rfl rfl rfl rfl (step_call_pure rfl rfl rfl (fun H hs => by first | exact seatOne_ok | exact seatNum_ok | exact seatStr_ok | exact seatAt_ok | exact seatOf_ok | exact seatPart_ok | exact seatCall_ok | exact seatWord_ok | exact seatClass_ok) ⟨by repeat (first | exact True.intro | refine And.intro (.inr ⟨veq_refl rfl, (look_own 0 rfl rfl rfl (pickS (l := [[85, 116, 105, 108], [68]]) (show n % 2 < 2 by omega)))⟩) ?_ | refine And.intro (.inr ⟨veq_refl rfl, (look_own 1 rfl rfl rfl (pickS (l := [[85, 116, 105, 108], [68]]) (show n % 2 < 2 by omega)))⟩) ?_ | refine zs1 ?_), ?_⟩) | refine draw_a rfl rfl rfl rfl rfl (step_buildSliceF rfl rfl rfl rfl rfl rfl (fun _ => ⟨by repeat (first | exact True.intro | refine And.intro (.inr ⟨veq_refl rfl, (look_own 0 rfl rfl rfl (pickS (l := [[85, 116, 105, 108], [68]]) (show n % 2 < 2 by omega)))⟩) ?_ | refine And.intro (.inr ⟨veq_refl rfl, (look_own 1 rfl rfl rfl (pickS (l := [[85, 116, 105, 108], [68]]) (show n % 2 < 2 by omega)))⟩) ?_ | refine zs1 ?_), ?_⟩)) | refine draw_a rfl rfl rfl rfl rfl (step_alloc rfl rfl rfl rfl (fun _ => ⟨by repeat (first | exact True.intro | refine And.intro (.inr ⟨veq_refl rfl, (look_own 0 rfl rfl rfl (pickS (l := [[85, 116, 105, 108], [68]]) (show n % 2 < 2 by omega)))⟩) ?_ | refine And.intro (.inr ⟨veq_refl rfl, (look_own 1 rfl rfl rfl (pickS (l := [[85, 116, 105, 108], [68]]) (show n % 2 < 2 by omega)))⟩) ?_ | refine zs1 ?_), ?_⟩)))
    try refine draw_nil ?_
    skip
    refine draw_w rfl rfl rfl rfl rfl rfl (step_call_fp3 rfl rfl rfl (fun H hs hst => bAdd_ok (new := [⟨4, 0, 0, [], [], [], []⟩, ⟨29, 0, 0, [], ([[85, 116, 105, 108], [68]].getD (n % 2) []), [119, 97, 115, 116, 101], []⟩]) hst hF0 (Rd.keep (Rd.sl (i := 0) (n := 2) rfl rfl 2) hs) (by omega)) (fun v2 F2 h2 => (zst ?_)))
    refine draw_nil ?_
    repeat (first | refine zr ?_ | (refine zn ?_; intro _))
    exact ⟨trivial, _, rfl, _, [_, _, _], List.perm_append_comm (l₁ := [_, _, _]), _, _, h2, Grown.add ⟨gAt (by decide) (by decide) (by omega), gPart (by decide) (by decide) (pick_all (p := nameL) (show n % 2 < 2 by omega) (by decide)) (by decide), trivial⟩ (by simp)⟩
  have n27 : k ≠ 27 := fun e => by subst e; exact Bool.noConfusion h
  repeat (first | refine zr ?_ | (refine zn ?_; intro _))
  refine exec_cond rfl (fun h => ?_) (fun h => ?_)
  · have hk : k = 28 := by have := eq_of_beq h; omega
    subst hk
    repeat (first | refine zr ?_ | (refine zn ?_; intro _))
    refine exec_draw (lst := [(0, 0), (2, 0), (3, 0), (4, 8), (5, 28), (6, 60), (1, 0), (7, 126), (8, 254), (9, 510), (10, 1023)]) (full := 2047) (by kernel_rfl) (by kernel_rfl) (by kernel_rfl) (by kernel_rfl) ?_
    skip
    repeat (first | refine zd ?_ | refine draw_w rfl rfl rfl rfl rfl rfl (step_call_pure rfl rfl rfl (fun H hs => by first | exact seatOne_ok | exact seatNum_ok | exact seatStr_ok | exact seatAt_ok | exact seatOf_ok | exact seatPart_ok | exact seatCall_ok | exact seatWord_ok | exact seatClass_ok) ⟨by repeat (first | exact True.intro | refine And.intro (.inr ⟨veq_refl rfl, (look_own 0 rfl rfl rfl (pickS (l := [[105, 110, 99], [116, 119, 105, 99, 101], [119, 111, 114, 107], [100, 111, 119, 110]]) (show n % 4 < 4 by omega)))⟩) ?_ | refine And.intro (.inr ⟨veq_refl rfl, (look_own 1 rfl rfl rfl (pickS (l := [[105, 110, 99], [116, 119, 105, 99, 101], [119, 111, 114, 107], [100, 111, 119, 110]]) (show n % 4 < 4 by omega)))⟩) ?_ | refine zs1 ?_), ?_⟩) | refine draw_a rfl rfl rfl rfl rfl (step_buildSliceF rfl rfl rfl rfl rfl rfl (fun _ => ⟨by repeat (first | exact True.intro | refine And.intro (.inr ⟨veq_refl rfl, (look_own 0 rfl rfl rfl (pickS (l := [[105, 110, 99], [116, 119, 105, 99, 101], [119, 111, 114, 107], [100, 111, 119, 110]]) (show n % 4 < 4 by omega)))⟩) ?_ | refine And.intro (.inr ⟨veq_refl rfl, (look_own 1 rfl rfl rfl (pickS (l := [[105, 110, 99], [116, 119, 105, 99, 101], [119, 111, 114, 107], [100, 111, 119, 110]]) (show n % 4 < 4 by omega)))⟩) ?_ | refine zs1 ?_), ?_⟩)) | refine draw_a rfl rfl rfl rfl rfl (step_alloc rfl rfl rfl rfl (fun _ => ⟨by repeat (first | exact True.intro | refine And.intro (.inr ⟨veq_refl rfl, (look_own 0 rfl rfl rfl (pickS (l := [[105, 110, 99], [116, 119, 105, 99, 101], [119, 111, 114, 107], [100, 111, 119, 110]]) (show n % 4 < 4 by omega)))⟩) ?_ | refine And.intro (.inr ⟨veq_refl rfl, (look_own 1 rfl rfl rfl (pickS (l := [[105, 110, 99], [116, 119, 105, 99, 101], [119, 111, 114, 107], [100, 111, 119, 110]]) (show n % 4 < 4 by omega)))⟩) ?_ | refine zs1 ?_), ?_⟩)))
    try refine draw_nil ?_
    rw [tm4]
    (first | apply ops_pl rfl rfl rfl ?_ rfl ?_ | apply draw_pl rfl rfl rfl rfl ?_ rfl rfl ?_); rotate_left; focus exact (.p rfl (opP_idxo (z := 1) rfl rfl rfl rfl (by omega) (by omega)))
    (first | apply ops_pl rfl rfl rfl ?_ rfl ?_ | apply draw_pl rfl rfl rfl rfl ?_ rfl rfl ?_); rotate_left; focus exact (.l rfl (look_own 0 rfl rfl rfl (pickS (l := [[105, 110, 99], [116, 119, 105, 99, 101], [119, 111, 114, 107], [100, 111, 119, 110]]) (show n % 4 < 4 by omega))))
    repeat (first | refine zd ?_ | refine draw_w rfl rfl rfl rfl rfl rfl (step_call_pure rfl rfl rfl (fun H hs => by first | exact seatOne_ok | exact seatNum_ok | exact seatStr_ok | exact seatAt_ok | exact seatOf_ok | exact seatPart_ok | exact seatCall_ok | exact seatWord_ok | exact seatClass_ok) ⟨by repeat (first | exact True.intro | refine And.intro (.inr ⟨veq_refl rfl, (look_own 0 rfl rfl rfl (pickS (l := [[105, 110, 99], [116, 119, 105, 99, 101], [119, 111, 114, 107], [100, 111, 119, 110]]) (show n % 4 < 4 by omega)))⟩) ?_ | refine And.intro (.inr ⟨veq_refl rfl, (look_own 1 rfl rfl rfl (pickS (l := [[105, 110, 99], [116, 119, 105, 99, 101], [119, 111, 114, 107], [100, 111, 119, 110]]) (show n % 4 < 4 by omega)))⟩) ?_ | refine zs1 ?_), ?_⟩) | refine draw_a rfl rfl rfl rfl rfl (step_buildSliceF rfl rfl rfl rfl rfl rfl (fun _ => ⟨by repeat (first | exact True.intro | refine And.intro (.inr ⟨veq_refl rfl, (look_own 0 rfl rfl rfl (pickS (l := [[105, 110, 99], [116, 119, 105, 99, 101], [119, 111, 114, 107], [100, 111, 119, 110]]) (show n % 4 < 4 by omega)))⟩) ?_ | refine And.intro (.inr ⟨veq_refl rfl, (look_own 1 rfl rfl rfl (pickS (l := [[105, 110, 99], [116, 119, 105, 99, 101], [119, 111, 114, 107], [100, 111, 119, 110]]) (show n % 4 < 4 by omega)))⟩) ?_ | refine zs1 ?_), ?_⟩)) | refine draw_a rfl rfl rfl rfl rfl (step_alloc rfl rfl rfl rfl (fun _ => ⟨by repeat (first | exact True.intro | refine And.intro (.inr ⟨veq_refl rfl, (look_own 0 rfl rfl rfl (pickS (l := [[105, 110, 99], [116, 119, 105, 99, 101], [119, 111, 114, 107], [100, 111, 119, 110]]) (show n % 4 < 4 by omega)))⟩) ?_ | refine And.intro (.inr ⟨veq_refl rfl, (look_own 1 rfl rfl rfl (pickS (l := [[105, 110, 99], [116, 119, 105, 99, 101], [119, 111, 114, 107], [100, 111, 119, 110]]) (show n % 4 < 4 by omega)))⟩) ?_ | refine zs1 ?_), ?_⟩)))
    try refine draw_nil ?_
    skip
    refine draw_w rfl rfl rfl rfl rfl rfl (step_call_fp3 rfl rfl rfl (fun H hs hst => bAdd_ok (new := [⟨4, 0, 0, [], [], [], []⟩, ⟨36, 0, 0, [], [85, 116, 105, 108], ([[105, 110, 99], [116, 119, 105, 99, 101], [119, 111, 114, 107], [100, 111, 119, 110]].getD (n % 4) []), [40, 73, 41, 73]⟩, ⟨5, 0, 0, [], [], [], []⟩]) hst hF0 (Rd.keep (Rd.sl (i := 0) (n := 3) rfl rfl 3) hs) (by omega)) (fun v2 F2 h2 => (zst ?_)))
    refine draw_nil ?_
    repeat (first | refine zr ?_ | (refine zn ?_; intro _))
    exact ⟨trivial, _, rfl, _, [_, _, _], List.perm_append_comm (l₁ := [_, _, _]), _, _, h2, Grown.add ⟨gAt (by decide) (by decide) (by omega), gCall (by decide) (by decide) (by decide) (pick_all (p := nameL) (show n % 4 < 4 by omega) (by decide)) (by decide +kernel) (by decide), gAt (by decide) (by decide) (by omega), trivial⟩ (by simp)⟩
  have n28 : k ≠ 28 := fun e => by subst e; exact Bool.noConfusion h
  repeat (first | refine zr ?_ | (refine zn ?_; intro _))
  refine exec_cond rfl (fun h => ?_) (fun h => ?_)
  · have hk : k = 29 := by have := eq_of_beq h; omega
    subst hk
    repeat (first | refine zr ?_ | (refine zn ?_; intro _))
    refine exec_draw (lst := [(0, 0), (1, 0), (2, 0), (3, 4), (4, 14), (5, 31)]) (full := 63) (by kernel_rfl) (by kernel_rfl) (by kernel_rfl) (by kernel_rfl) ?_
    repeat (first | refine zd ?_ | refine draw_w rfl rfl rfl rfl rfl rfl (step_call_pure rfl rfl rfl (fun H hs => by first | exact seatOne_ok | exact seatNum_ok | exact seatStr_ok | exact seatAt_ok | exact seatOf_ok | exact seatPart_ok | exact seatCall_ok | exact seatWord_ok | exact seatClass_ok) (zst ?_)) | refine draw_a rfl rfl rfl rfl rfl (step_buildSliceF rfl rfl rfl rfl rfl rfl (fun _ => (zst ?_))) | refine draw_a rfl rfl rfl rfl rfl (step_alloc rfl rfl rfl rfl (fun _ => (zst ?_))))
    try refine draw_nil ?_
    refine draw_w rfl rfl rfl rfl rfl rfl (step_call_fp2 rfl rfl rfl (fun H hs hst => bAdd_ok (new := [⟨4, 0, 3, [], [], [], []⟩, ⟨36, 0, 0, [], [85, 116, 105, 108], [115, 97, 109, 101], [40, 76, 66, 97, 115, 101, 59, 41, 76, 66, 97, 115, 101, 59]⟩, ⟨5, 0, 3, [], [], [], []⟩]) hst hF0 (Rd.keep (Rd.sl (i := 0) (n := 3) rfl rfl 3) hs) (by omega)) (fun v2 F2 h2 => (zst ?_)))
    refine draw_nil ?_
    repeat (first | refine zr ?_ | (refine zn ?_; intro _))
    exact ⟨trivial, _, rfl, _, [_, _], List.perm_append_comm (l₁ := [_, _]), _, _, h2, Grown.add ⟨gAt (by decide) (by decide) (by omega), gCall (by decide) (by decide) (by decide) (by decide) (by decide +kernel) (by decide), gAt (by decide) (by decide) (by omega), trivial⟩ (by simp)⟩
  have n29 : k ≠ 29 := fun e => by subst e; exact Bool.noConfusion h
  repeat (first | refine zr ?_ | (refine zn ?_; intro _))
  refine exec_cond rfl (fun h => ?_) (fun h => ?_)
  · have hk : k = 30 := by have := eq_of_beq h; omega
    subst hk
    repeat (first | refine zr ?_ | (refine zn ?_; intro _) | refine ops_step rfl rfl rfl (step_call_pure rfl rfl rfl (fun H hs => by first | exact seatOne_ok | exact seatNum_ok | exact seatStr_ok | exact seatAt_ok | exact seatOf_ok | exact seatPart_ok | exact seatCall_ok | exact seatWord_ok | exact seatClass_ok) ?_))
    refine ops_step rfl rfl rfl (step_call_fp2 rfl rfl rfl (fun H hs hst => bAdd_ok (new := [⟨36, 0, 0, [], [85, 116, 105, 108], [102, 97, 105, 108], [40, 41, 86]⟩]) hst hF0 (Rd.keep (Rd.sl (i := 0) (n := 1) rfl rfl 1) hs) (by omega)) (fun v2 F2 h2 => ?_))
    repeat (first | refine zr ?_ | (refine zn ?_; intro _) | refine ops_step rfl rfl rfl (step_call_pure rfl rfl rfl (fun H hs => by first | exact seatOne_ok | exact seatNum_ok | exact seatStr_ok | exact seatAt_ok | exact seatOf_ok | exact seatPart_ok | exact seatCall_ok | exact seatWord_ok | exact seatClass_ok) ?_))
    rw [tm4]
    (first | apply ops_pl rfl rfl rfl ?_ rfl ?_ | apply draw_pl rfl rfl rfl rfl ?_ rfl rfl ?_); rotate_left; focus exact (.p rfl (opP_idxo (z := 1) rfl rfl rfl rfl (by omega) (by omega)))
    (first | apply ops_pl rfl rfl rfl ?_ rfl ?_ | apply draw_pl rfl rfl rfl rfl ?_ rfl rfl ?_); rotate_left; focus exact (.l rfl (look_own 0 rfl rfl rfl (pickS (l := [[69, 114, 114], [69, 114, 114, 50], [70, 97, 117, 108, 116], [78, 117, 108, 108, 70, 97, 117, 108, 116]]) (show n % 4 < 4 by omega))))
    repeat (first | refine zr ?_ | (refine zn ?_; intro _) | refine ops_step rfl rfl rfl (step_call_pure rfl rfl rfl (fun H hs => by first | exact seatOne_ok | exact seatNum_ok | exact seatStr_ok | exact seatAt_ok | exact seatOf_ok | exact seatPart_ok | exact seatCall_ok | exact seatWord_ok | exact seatClass_ok) ?_))
    refine ops_step rfl rfl rfl (step_call_fp3 rfl rfl rfl (fun H hs hst => bTry_ok (fr := (code.length : Int)) (ct := ([[69, 114, 114], [69, 114, 114, 50], [70, 97, 117, 108, 116], [78, 117, 108, 108, 70, 97, 117, 108, 116]].getD (n % 4) [])) (s := [101, 114, 114]) hst h2 (by simp; omega) (by omega)) (fun v3 F3 h3 => ?_))
    repeat (first | refine zr ?_ | (refine zn ?_; intro _))
    exact ⟨trivial, _, rfl, _, [_, _, _], List.perm_append_comm (l₁ := [_, _, _]), _, _, h3, Grown.tryy ⟨gCall (by decide) (by decide) (by decide) (by decide) (by decide +kernel) (by decide), trivial⟩ (by simp) (by simp; omega) (pick_all (p := nameL) (show n % 4 < 4 by omega) (by decide)) (by decide)⟩
  have n30 : k ≠ 30 := fun e => by subst e; exact Bool.noConfusion h
  repeat (first | refine zr ?_ | (refine zn ?_; intro _))
  refine exec_cond rfl (fun h => ?_) (fun h => ?_)
  · have hk : k = 31 := by have := eq_of_beq h; omega
    subst hk
    repeat (first | refine zr ?_ | (refine zn ?_; intro _))
    refine exec_draw (lst := [(0, 0), (1, 0), (2, 0), (4, 0), (3, 0), (5, 8), (6, 40), (7, 126), (8, 255)]) (full := 511) (by kernel_rfl) (by kernel_rfl) (by kernel_rfl) (by kernel_rfl) ?_
    repeat (first | refine zd ?_ | refine draw_w rfl rfl rfl rfl rfl rfl (step_call_pure rfl rfl rfl (fun H hs => by first | exact seatOne_ok | exact seatNum_ok | exact seatStr_ok | exact seatAt_ok | exact seatOf_ok | exact seatPart_ok | exact seatCall_ok | exact seatWord_ok | exact seatClass_ok) (zst ?_)) | refine draw_a rfl rfl rfl rfl rfl (step_buildSliceF rfl rfl rfl rfl rfl rfl (fun _ => (zst ?_))) | refine draw_a rfl rfl rfl rfl rfl (step_alloc rfl rfl rfl rfl (fun _ => (zst ?_))))
    try refine draw_nil ?_
    refine draw_w rfl rfl rfl rfl rfl rfl (step_call_fp2 rfl rfl rfl (fun H hs hst => bAdd_ok (new := [⟨4, 0, 3, [], [], [], []⟩, ⟨4, 0, 3, [], [], [], []⟩, ⟨27, 0, 0, [], [66, 97, 115, 101], [110, 101, 120, 116], []⟩, ⟨4, 0, 3, [], [], [], []⟩, ⟨26, 0, 0, [], [66, 97, 115, 101], [110, 101, 120, 116], []⟩, ⟨5, 0, 3, [], [], [], []⟩]) hst hF0 (Rd.keep (Rd.sl (i := 0) (n := 6) rfl rfl 6) hs) (by omega)) (fun v2 F2 h2 => (zst ?_)))
    refine draw_nil ?_
    repeat (first | refine zr ?_ | (refine zn ?_; intro _))
    exact ⟨trivial, _, rfl, _, [_, _], List.perm_append_comm (l₁ := [_, _]), _, _, h2, Grown.add ⟨gAt (by decide) (by decide) (by omega), gAt (by decide) (by decide) (by omega), gPart (by decide) (by decide) (by decide) (by decide), gAt (by decide) (by decide) (by omega), gPart (by decide) (by decide) (by decide) (by decide), gAt (by decide) (by decide) (by omega), trivial⟩ (by simp)⟩
  have n31 : k ≠ 31 := fun e => by subst e; exact Bool.noConfusion h
  repeat (first | refine zr ?_ | (refine zn ?_; intro _))
  refine exec_cond rfl (fun h => ?_) (fun h => ?_)
  · have hk : k = 32 := by have := eq_of_beq h; omega
    subst hk
    repeat (first | refine zr ?_ | (refine zn ?_; intro _))
    refine exec_draw (lst := [(0, 0), (1, 0), (2, 0), (3, 0), (4, 8), (5, 28), (6, 60), (7, 124), (8, 252), (9, 510), (10, 1023)]) (full := 2047) (by kernel_rfl) (by kernel_rfl) (by kernel_rfl) (by kernel_rfl) ?_
    skip
    repeat (first | refine zd ?_ | refine draw_w rfl rfl rfl rfl rfl rfl (step_call_pure rfl rfl rfl (fun H hs => by first | exact seatOne_ok | exact seatNum_ok | exact seatStr_ok | exact seatAt_ok | exact seatOf_ok | exact seatPart_ok | exact seatCall_ok | exact seatWord_ok | exact seatClass_ok) ⟨by repeat (first | exact True.intro | refine And.intro (.inr ⟨veq_refl rfl, (look_own 0 rfl rfl rfl (pickS (l := [[66], [77, 105, 100], [73], [66, 97, 115, 101], [79, 98, 106, 101, 99, 116], [67]]) (show n % 6 < 6 by omega)))⟩) ?_ | refine And.intro (.inr ⟨veq_refl rfl, (look_own 1 rfl rfl rfl (pickS (l := [[66], [77, 105, 100], [73], [66, 97, 115, 101], [79, 98, 106, 101, 99, 116], [67]]) (show n % 6 < 6 by omega)))⟩) ?_ | refine zs1 ?_), ?_⟩) | refine draw_a rfl rfl rfl rfl rfl (step_buildSliceF rfl rfl rfl rfl rfl rfl (fun _ => ⟨by repeat (first | exact True.intro | refine And.intro (.inr ⟨veq_refl rfl, (look_own 0 rfl rfl rfl (pickS (l := [[66], [77, 105, 100], [73], [66, 97, 115, 101], [79, 98, 106, 101, 99, 116], [67]]) (show n % 6 < 6 by omega)))⟩) ?_ | refine And.intro (.inr ⟨veq_refl rfl, (look_own 1 rfl rfl rfl (pickS (l := [[66], [77, 105, 100], [73], [66, 97, 115, 101], [79, 98, 106, 101, 99, 116], [67]]) (show n % 6 < 6 by omega)))⟩) ?_ | refine zs1 ?_), ?_⟩)) | refine draw_a rfl rfl rfl rfl rfl (step_alloc rfl rfl rfl rfl (fun _ => ⟨by repeat (first | exact True.intro | refine And.intro (.inr ⟨veq_refl rfl, (look_own 0 rfl rfl rfl (pickS (l := [[66], [77, 105, 100], [73], [66, 97, 115, 101], [79, 98, 106, 101, 99, 116], [67]]) (show n % 6 < 6 by omega)))⟩) ?_ | refine And.intro (.inr ⟨veq_refl rfl, (look_own 1 rfl rfl rfl (pickS (l := [[66], [77, 105, 100], [73], [66, 97, 115, 101], [79, 98, 106, 101, 99, 116], [67]]) (show n % 6 < 6 by omega)))⟩) ?_ | refine zs1 ?_), ?_⟩)))
    try refine draw_nil ?_
    rw [tm6]
    (first | apply ops_pl rfl rfl rfl ?_ rfl ?_ | apply draw_pl rfl rfl rfl rfl ?_ rfl rfl ?_); rotate_left; focus exact (.p rfl (opP_idxo (z := 1) rfl rfl rfl rfl (by omega) (by omega)))
    (first | apply ops_pl rfl rfl rfl ?_ rfl ?_ | apply draw_pl rfl rfl rfl rfl ?_ rfl rfl ?_); rotate_left; focus exact (.l rfl (look_own 0 rfl rfl rfl (pickS (l := [[66], [77, 105, 100], [73], [66, 97, 115, 101], [79, 98, 106, 101, 99, 116], [67]]) (show n % 6 < 6 by omega))))
    repeat (first | refine zd ?_ | refine draw_w rfl rfl rfl rfl rfl rfl (step_call_pure rfl rfl rfl (fun H hs => by first | exact seatOne_ok | exact seatNum_ok | exact seatStr_ok | exact seatAt_ok | exact seatOf_ok | exact seatPart_ok | exact seatCall_ok | exact seatWord_ok | exact seatClass_ok) ⟨by repeat (first | exact True.intro | refine And.intro (.inr ⟨veq_refl rfl, (look_own 0 rfl rfl rfl (pickS (l := [[66], [77, 105, 100], [73], [66, 97, 115, 101], [79, 98, 106, 101, 99, 116], [67]]) (show n % 6 < 6 by omega)))⟩) ?_ | refine And.intro (.inr ⟨veq_refl rfl, (look_own 1 rfl rfl rfl (pickS (l := [[66], [77, 105, 100], [73], [66, 97, 115, 101], [79, 98, 106, 101, 99, 116], [67]]) (show n % 6 < 6 by omega)))⟩) ?_ | refine zs1 ?_), ?_⟩) | refine draw_a rfl rfl rfl rfl rfl (step_buildSliceF rfl rfl rfl rfl rfl rfl (fun _ => ⟨by repeat (first | exact True.intro | refine And.intro (.inr ⟨veq_refl rfl, (look_own 0 rfl rfl rfl (pickS (l := [[66], [77, 105, 100], [73], [66, 97, 115, 101], [79, 98, 106, 101, 99, 116], [67]]) (show n % 6 < 6 by omega)))⟩) ?_ | refine And.intro (.inr ⟨veq_refl rfl, (look_own 1 rfl rfl rfl (pickS (l := [[66], [77, 105, 100], [73], [66, 97, 115, 101], [79, 98, 106, 101, 99, 116], [67]]) (show n % 6 < 6 by omega)))⟩) ?_ | refine zs1 ?_), ?_⟩)) | refine draw_a rfl rfl rfl rfl rfl (step_alloc rfl rfl rfl rfl (fun _ => ⟨by repeat (first | exact True.intro | refine And.intro (.inr ⟨veq_refl rfl, (look_own 0 rfl rfl rfl (pickS (l := [[66], [77, 105, 100], [73], [66, 97, 115, 101], [79, 98, 106, 101, 99, 116], [67]]) (show n % 6 < 6 by omega)))⟩) ?_ | refine And.intro (.inr ⟨veq_refl rfl, (look_own 1 rfl rfl rfl (pickS (l := [[66], [77, 105, 100], [73], [66, 97, 115, 101], [79, 98, 106, 101, 99, 116], [67]]) (show n % 6 < 6 by omega)))⟩) ?_ | refine zs1 ?_), ?_⟩)))
    try refine draw_nil ?_
    skip
    refine draw_w rfl rfl rfl rfl rfl rfl (step_call_fp3 rfl rfl rfl (fun H hs hst => bAdd_ok (new := [⟨4, 0, 3, [], [], [], []⟩, ⟨31, 0, 0, [], ([[66], [77, 105, 100], [73], [66, 97, 115, 101], [79, 98, 106, 101, 99, 116], [67]].getD (n % 6) []), [], []⟩, ⟨5, 0, 0, [], [], [], []⟩]) hst hF0 (Rd.keep (Rd.sl (i := 0) (n := 3) rfl rfl 3) hs) (by omega)) (fun v2 F2 h2 => (zst ?_)))
    refine draw_nil ?_
    repeat (first | refine zr ?_ | (refine zn ?_; intro _))
    exact ⟨trivial, _, rfl, _, [_, _, _], List.perm_append_comm (l₁ := [_, _, _]), _, _, h2, Grown.add ⟨gAt (by decide) (by decide) (by omega), gOf (by decide) (by decide) (pick_all (p := nameL) (show n % 6 < 6 by omega) (by decide)), gAt (by decide) (by decide) (by omega), trivial⟩ (by simp)⟩
  have n32 : k ≠ 32 := fun e => by subst e; exact Bool.noConfusion h
  repeat (first | refine zr ?_ | (refine zn ?_; intro _))
  refine exec_cond rfl (fun h => ?_) (fun h => ?_)
  · have hk : k = 33 := by have := eq_of_beq h; omega
    subst hk
    repeat (first | refine zr ?_ | (refine zn ?_; intro _))
    refine exec_draw (lst := [(0, 0), (1, 0), (2, 0), (3, 0), (4, 8), (5, 28), (6, 60), (7, 124), (8, 252), (9, 510), (10, 1023)]) (full := 2047) (by kernel_rfl) (by kernel_rfl) (by kernel_rfl) (by kernel_rfl) ?_
    skip
    repeat (first | refine zd ?_ | refine draw_w rfl rfl rfl rfl rfl rfl (step_call_pure rfl rfl rfl (fun H hs => by first | exact seatOne_ok | exact seatNum_ok | exact seatStr_ok | exact seatAt_ok | exact seatOf_ok | exact seatPart_ok | exact seatCall_ok | exact seatWord_ok | exact seatClass_ok) ⟨by repeat (first | exact True.intro | refine And.intro (.inr ⟨veq_refl rfl, (look_own 0 rfl rfl rfl (pickS (l := [[66], [77, 105, 100], [65], [68]]) (show n % 4 < 4 by omega)))⟩) ?_ | refine And.intro (.inr ⟨veq_refl rfl, (look_own 1 rfl rfl rfl (pickS (l := [[66], [77, 105, 100], [65], [68]]) (show n % 4 < 4 by omega)))⟩) ?_ | refine zs1 ?_), ?_⟩) | refine draw_a rfl rfl rfl rfl rfl (step_buildSliceF rfl rfl rfl rfl rfl rfl (fun _ => ⟨by repeat (first | exact True.intro | refine And.intro (.inr ⟨veq_refl rfl, (look_own 0 rfl rfl rfl (pickS (l := [[66], [77, 105, 100], [65], [68]]) (show n % 4 < 4 by omega)))⟩) ?_ | refine And.intro (.inr ⟨veq_refl rfl, (look_own 1 rfl rfl rfl (pickS (l := [[66], [77, 105, 100], [65], [68]]) (show n % 4 < 4 by omega)))⟩) ?_ | refine zs1 ?_), ?_⟩)) | refine draw_a rfl rfl rfl rfl rfl (step_alloc rfl rfl rfl rfl (fun _ => ⟨by repeat (first | exact True.intro | refine And.intro (.inr ⟨veq_refl rfl, (look_own 0 rfl rfl rfl (pickS (l := [[66], [77, 105, 100], [65], [68]]) (show n % 4 < 4 by omega)))⟩) ?_ | refine And.intro (.inr ⟨veq_refl rfl, (look_own 1 rfl rfl rfl (pickS (l := [[66], [77, 105, 100], [65], [68]]) (show n % 4 < 4 by omega)))⟩) ?_ | refine zs1 ?_), ?_⟩)))
    try refine draw_nil ?_
    rw [tm4]
    (first | apply ops_pl rfl rfl rfl ?_ rfl ?_ | apply draw_pl rfl rfl rfl rfl ?_ rfl rfl ?_); rotate_left; focus exact (.p rfl (opP_idxo (z := 1) rfl rfl rfl rfl (by omega) (by omega)))
    (first | apply ops_pl rfl rfl rfl ?_ rfl ?_ | apply draw_pl rfl rfl rfl rfl ?_ rfl rfl ?_); rotate_left; focus exact (.l rfl (look_own 0 rfl rfl rfl (pickS (l := [[66], [77, 105, 100], [65], [68]]) (show n % 4 < 4 by omega))))
    repeat (first | refine zd ?_ | refine draw_w rfl rfl rfl rfl rfl rfl (step_call_pure rfl rfl rfl (fun H hs => by first | exact seatOne_ok | exact seatNum_ok | exact seatStr_ok | exact seatAt_ok | exact seatOf_ok | exact seatPart_ok | exact seatCall_ok | exact seatWord_ok | exact seatClass_ok) ⟨by repeat (first | exact True.intro | refine And.intro (.inr ⟨veq_refl rfl, (look_own 0 rfl rfl rfl (pickS (l := [[66], [77, 105, 100], [65], [68]]) (show n % 4 < 4 by omega)))⟩) ?_ | refine And.intro (.inr ⟨veq_refl rfl, (look_own 1 rfl rfl rfl (pickS (l := [[66], [77, 105, 100], [65], [68]]) (show n % 4 < 4 by omega)))⟩) ?_ | refine zs1 ?_), ?_⟩) | refine draw_a rfl rfl rfl rfl rfl (step_buildSliceF rfl rfl rfl rfl rfl rfl (fun _ => ⟨by repeat (first | exact True.intro | refine And.intro (.inr ⟨veq_refl rfl, (look_own 0 rfl rfl rfl (pickS (l := [[66], [77, 105, 100], [65], [68]]) (show n % 4 < 4 by omega)))⟩) ?_ | refine And.intro (.inr ⟨veq_refl rfl, (look_own 1 rfl rfl rfl (pickS (l := [[66], [77, 105, 100], [65], [68]]) (show n % 4 < 4 by omega)))⟩) ?_ | refine zs1 ?_), ?_⟩)) | refine draw_a rfl rfl rfl rfl rfl (step_alloc rfl rfl rfl rfl (fun _ => ⟨by repeat (first | exact True.intro | refine And.intro (.inr ⟨veq_refl rfl, (look_own 0 rfl rfl rfl (pickS (l := [[66], [77, 105, 100], [65], [68]]) (show n % 4 < 4 by omega)))⟩) ?_ | refine And.intro (.inr ⟨veq_refl rfl, (look_own 1 rfl rfl rfl (pickS (l := [[66], [77, 105, 100], [65], [68]]) (show n % 4 < 4 by omega)))⟩) ?_ | refine zs1 ?_), ?_⟩)))
    try refine draw_nil ?_
    skip
    refine draw_w rfl rfl rfl rfl rfl rfl (step_call_fp3 rfl rfl rfl (fun H hs hst => bAdd_ok (new := [⟨4, 0, 3, [], [], [], []⟩, ⟨30, 0, 0, [], ([[66], [77, 105, 100], [65], [68]].getD (n % 4) []), [], []⟩, ⟨5, 0, 3, [], [], [], []⟩]) hst hF0 (Rd.keep (Rd.sl (i := 0) (n := 3) rfl rfl 3) hs) (by omega)) (fun v2 F2 h2 => (zst ?_)))
    refine draw_nil ?_
    repeat (first | refine zr ?_ | (refine zn ?_; intro _) | refine ops_step rfl rfl rfl (step_call_pure rfl rfl rfl (fun H hs => by first | exact seatOne_ok | exact seatNum_ok | exact seatStr_ok | exact seatAt_ok | exact seatOf_ok | exact seatPart_ok | exact seatCall_ok | exact seatWord_ok | exact seatClass_ok) ?_))
    rw [td4 h255, tm2]
    (first | apply ops_pl rfl rfl rfl ?_ rfl ?_ | apply draw_pl rfl rfl rfl rfl ?_ rfl rfl ?_); rotate_left; focus exact (.p rfl (opP_idxo (z := 1) rfl rfl rfl rfl (by omega) (by omega)))
    (first | apply ops_pl rfl rfl rfl ?_ rfl ?_ | apply draw_pl rfl rfl rfl rfl ?_ rfl rfl ?_); rotate_left; focus exact (.l rfl (look_own 0 rfl rfl rfl (pickS (l := [[67, 97, 115, 116, 70, 97, 117, 108, 116], [70, 97, 117, 108, 116]]) (show n / 4 % 2 < 2 by omega))))
    repeat (first | refine zr ?_ | (refine zn ?_; intro _) | refine ops_step rfl rfl rfl (step_call_pure rfl rfl rfl (fun H hs => by first | exact seatOne_ok | exact seatNum_ok | exact seatStr_ok | exact seatAt_ok | exact seatOf_ok | exact seatPart_ok | exact seatCall_ok | exact seatWord_ok | exact seatClass_ok) ?_))
    refine ops_step rfl rfl rfl (step_call_fp4 rfl rfl rfl (fun H hs hst => bTry_ok (fr := (code.length : Int)) (ct := ([[67, 97, 115, 116, 70, 97, 117, 108, 116], [70, 97, 117, 108, 116]].getD (n / 4 % 2) [])) (s := [99, 97, 115, 116]) hst h2 (by simp; omega) (by omega)) (fun v3 F3 h3 => ?_))
    repeat (first | refine zr ?_ | (refine zn ?_; intro _))
    exact ⟨trivial, _, rfl, _, [_, _, _, _], List.perm_append_comm (l₁ := [_, _, _, _]), _, _, h3, Grown.tryy ⟨gAt (by decide) (by decide) (by omega), gOf (by decide) (by decide) (pick_all (p := nameL) (show n % 4 < 4 by omega) (by decide)), gAt (by decide) (by decide) (by omega), trivial⟩ (by simp) (by simp; omega) (pick_all (p := nameL) (show n / 4 % 2 < 2 by omega) (by decide)) (by decide)⟩
  have n33 : k ≠ 33 := fun e => by subst e; exact Bool.noConfusion h
  repeat (first | refine zr ?_ | (refine zn ?_; intro _))
  refine exec_cond rfl (fun h => ?_) (fun h => ?_)
  · have hk : k = 34 := by have := eq_of_beq h; omega
    subst hk
    repeat (first | refine zr ?_ | (refine zn ?_; intro _))
    refine exec_draw (lst := [(0, 0), (1, 0), (2, 0), (3, 0), (4, 8), (5, 24), (6, 62), (7, 127)]) (full := 255) (by kernel_rfl) (by kernel_rfl) (by kernel_rfl) (by kernel_rfl) ?_
    repeat (first | refine zd ?_ | refine draw_w rfl rfl rfl rfl rfl rfl (step_call_pure rfl rfl rfl (fun H hs => by first | exact seatOne_ok | exact seatNum_ok | exact seatStr_ok | exact seatAt_ok | exact seatOf_ok | exact seatPart_ok | exact seatCall_ok | exact seatWord_ok | exact seatClass_ok) (zst ?_)) | refine draw_a rfl rfl rfl rfl rfl (step_buildSliceF rfl rfl rfl rfl rfl rfl (fun _ => (zst ?_))) | refine draw_a rfl rfl rfl rfl rfl (step_alloc rfl rfl rfl rfl (fun _ => (zst ?_))))
    try refine draw_nil ?_
    refine draw_w rfl rfl rfl rfl rfl rfl (step_call_fp2 rfl rfl rfl (fun H hs hst => bAdd_ok (new := [⟨4, 0, 3, [], [], [], []⟩, ⟨4, 0, 3, [], [], [], []⟩, ⟨26, 0, 0, [], [66, 97, 115, 101], [110, 101, 120, 116], []⟩, ⟨32, 0, 0, [], [], [], []⟩, ⟨5, 0, 0, [], [], [], []⟩]) hst hF0 (Rd.keep (Rd.sl (i := 0) (n := 5) rfl rfl 5) hs) (by omega)) (fun v2 F2 h2 => (zst ?_)))
    refine draw_nil ?_
    repeat (first | refine zr ?_ | (refine zn ?_; intro _))
    exact ⟨trivial, _, rfl, _, [_, _], List.perm_append_comm (l₁ := [_, _]), _, _, h2, Grown.add ⟨gAt (by decide) (by decide) (by omega), gAt (by decide) (by decide) (by omega), gPart (by decide) (by decide) (by decide) (by decide), gOne (by decide) (by decide), gAt (by decide) (by decide) (by omega), trivial⟩ (by simp)⟩
  have n34 : k ≠ 34 := fun e => by subst e; exact Bool.noConfusion h
  repeat (first | refine zr ?_ | (refine zn ?_; intro _))
  refine exec_cond rfl (fun h => ?_) (fun h => ?_)
  · have hk : k = 35 := by have := eq_of_beq h; omega
    subst hk
    repeat (first | refine zr ?_ | (refine zn ?_; intro _))
    refine exec_draw (lst := [(0, 0), (1, 0), (2, 0), (3, 6), (4, 15)]) (full := 31) (by kernel_rfl) (by kernel_rfl) (by kernel_rfl) (by kernel_rfl) ?_
    repeat (first | refine zd ?_ | refine draw_w rfl rfl rfl rfl rfl rfl (step_call_pure rfl rfl rfl (fun H hs => by first | exact seatOne_ok | exact seatNum_ok | exact seatStr_ok | exact seatAt_ok | exact seatOf_ok | exact seatPart_ok | exact seatCall_ok | exact seatWord_ok | exact seatClass_ok) (zst ?_)) | refine draw_a rfl rfl rfl rfl rfl (step_buildSliceF rfl rfl rfl rfl rfl rfl (fun _ => (zst ?_))) | refine draw_a rfl rfl rfl rfl rfl (step_alloc rfl rfl rfl rfl (fun _ => (zst ?_))))
    try refine draw_nil ?_
    refine draw_w rfl rfl rfl rfl rfl rfl (step_call_fp2 rfl rfl rfl (fun H hs hst => bAdd_ok (new := [⟨4, 0, 3, [], [], [], []⟩, ⟨33, 0, 0, [], [], [], []⟩]) hst hF0 (Rd.keep (Rd.sl (i := 0) (n := 2) rfl rfl 2) hs) (by omega)) (fun v2 F2 h2 => (zst ?_)))
    refine draw_nil ?_
    repeat (first | refine zr ?_ | (refine zn ?_; intro _) | refine ops_step rfl rfl rfl (step_call_pure rfl rfl rfl (fun H hs => by first | exact seatOne_ok | exact seatNum_ok | exact seatStr_ok | exact seatAt_ok | exact seatOf_ok | exact seatPart_ok | exact seatCall_ok | exact seatWord_ok | exact seatClass_ok) ?_))
    refine ops_step rfl rfl rfl (step_call_fp2 rfl rfl rfl (fun H hs hst => bTry_ok (fr := (code.length : Int)) (ct := [78, 117, 108, 108, 70, 97, 117, 108, 116]) (s := [99, 104, 101, 99, 107]) hst h2 (by simp; omega) (by omega)) (fun v3 F3 h3 => ?_))
    repeat (first | refine zr ?_ | (refine zn ?_; intro _))
    exact ⟨trivial, _, rfl, _, [_, _], List.perm_append_comm (l₁ := [_, _]), _, _, h3, Grown.tryy ⟨gAt (by decide) (by decide) (by omega), gOne (by decide) (by decide), trivial⟩ (by simp) (by simp; omega) (by decide) (by decide)⟩
  have n35 : k ≠ 35 := fun e => by subst e; exact Bool.noConfusion h
  repeat (first | refine zr ?_ | (refine zn ?_; intro _))
  refine exec_cond rfl (fun h => ?_) (fun h => ?_)
  · have hk : k = 36 := by have := eq_of_beq h; omega
    subst hk
    repeat (first | refine zr ?_ | (refine zn ?_; intro _) | refine ops_step rfl rfl rfl (step_call_pure rfl rfl rfl (fun H hs => by first | exact seatOne_ok | exact seatNum_ok | exact seatStr_ok | exact seatAt_ok | exact seatOf_ok | exact seatPart_ok | exact seatCall_ok | exact seatWord_ok | exact seatClass_ok) ?_))
    refine ops_step rfl rfl rfl (step_call_fp2 rfl rfl rfl (fun H hs hst => bAdd_ok (new := [⟨25, 0, 0, [], [67], [], []⟩, ⟨7, 0, 0, [], [], [], []⟩, ⟨1, _, 0, [], [], [], []⟩, ⟨27, 0, 0, [], [77, 105, 100], [109], []⟩, ⟨34, 0, 0, [], [67], [101, 120, 116, 114, 97], [40, 41, 73]⟩, ⟨5, 0, 0, [], [], [], []⟩]) hst hF0 (Rd.keep (Rd.sl (i := 0) (n := 6) rfl rfl 6) hs) (by omega)) (fun v2 F2 h2 => ?_))
    repeat (first | refine zr ?_ | (refine zn ?_; intro _))
    exact ⟨trivial, _, rfl, _, [_, _], List.perm_append_comm (l₁ := [_, _]), _, _, h2, Grown.add ⟨gOf (by decide) (by decide) (by decide), gOne (by decide) (by decide), gNum, gPart (by decide) (by decide) (by decide) (by decide), gCall (by decide) (by decide) (by decide) (by decide) (by decide +kernel) (by decide), gAt (by decide) (by decide) (by omega), trivial⟩ (by simp)⟩
  have n36 : k ≠ 36 := fun e => by subst e; exact Bool.noConfusion h
  repeat (first | refine zr ?_ | (refine zn ?_; intro _))
  refine exec_cond rfl (fun h => ?_) (fun h => ?_)
  · have hk : k = 37 := by have := eq_of_beq h; omega
    subst hk
    repeat (first | refine zr ?_ | (refine zn ?_; intro _))
    refine exec_draw (lst := [(0, 0), (1, 0), (2, 0), (3, 4), (4, 14), (5, 31)]) (full := 63) (by kernel_rfl) (by kernel_rfl) (by kernel_rfl) (by kernel_rfl) ?_
    repeat (first | refine zd ?_ | refine draw_w rfl rfl rfl rfl rfl rfl (step_call_pure rfl rfl rfl (fun H hs => by first | exact seatOne_ok | exact seatNum_ok | exact seatStr_ok | exact seatAt_ok | exact seatOf_ok | exact seatPart_ok | exact seatCall_ok | exact seatWord_ok | exact seatClass_ok) (zst ?_)) | refine draw_a rfl rfl rfl rfl rfl (step_buildSliceF rfl rfl rfl rfl rfl rfl (fun _ => (zst ?_))) | refine draw_a rfl rfl rfl rfl rfl (step_alloc rfl rfl rfl rfl (fun _ => (zst ?_))))
    try refine draw_nil ?_
    refine draw_w rfl rfl rfl rfl rfl rfl (step_call_fp2 rfl rfl rfl (fun H hs hst => bAdd_ok (new := [⟨4, 0, 3, [], [], [], []⟩, ⟨36, 0, 0, [], [85, 116, 105, 108], [112, 97, 115, 115], [40, 76, 73, 59, 41, 76, 73, 59]⟩, ⟨5, 0, 4, [], [], [], []⟩]) hst hF0 (Rd.keep (Rd.sl (i := 0) (n := 3) rfl rfl 3) hs) (by omega)) (fun v2 F2 h2 => (zst ?_)))
    refine draw_nil ?_
    obtain ⟨cd, hcd⟩ : ∃ cd : List Ins, cd = code ++ [⟨4, 0, 3, [], [], [], []⟩, ⟨36, 0, 0, [], [85, 116, 105, 108], [112, 97, 115, 115], [40, 76, 73, 59, 41, 76, 73, 59]⟩, ⟨5, 0, 4, [], [], [], []⟩] := ⟨_, rfl⟩
    rw [← hcd] at h2
    have hcl : cd.length = code.length + 3 := by rw [hcd]; simp
    have hget : cd[code.length]? = some ⟨4, 0, 3, [], [], [], []⟩ := by rw [hcd, List.getElem?_append_right (by omega), Nat.sub_self]; rfl
    have hset : cd.set code.length ⟨4, 0, 4, [], [], [], []⟩ = code ++ [⟨4, 0, 4, [], [], [], []⟩, ⟨36, 0, 0, [], [85, 116, 105, 108], [112, 97, 115, 115], [40, 76, 73, 59, 41, 76, 73, 59]⟩, ⟨5, 0, 4, [], [], [], []⟩] := by
      rw [hcd, List.set_append_right _ _ (by omega), Nat.sub_self]; rfl
    obtain ⟨a3, c3, p3, ha3, hc3, q3, rfl, own3, ownH3⟩ := h2
    obtain ⟨b3, v3, rfl, rfl, rfl, hl3⟩ := own3.inv (by omega)
    have hw : wrL (insL ⟨4, 0, 4, [], [], [], []⟩) (0 + ((code.length : Nat) : Int).toNat * 7) (cd.flatMap insL) = some ((cd.set code.length ⟨4, 0, 4, [], [], [], []⟩).flatMap insL) := by
      rw [Nat.zero_add, Int.toNat_natCast]; exact wrL_flat (f := insL) (fun _ => rfl) (by omega) _ rfl
    repeat (first | refine zr ?_ | (refine zn ?_; intro _))
    refine exec_draw (lst := [(0, 0), (1, 1), (2, 3), (3, 7), (4, 0), (5, 0), (6, 63), (7, 127)]) (full := 255) (by kernel_rfl) (by kernel_rfl) (by kernel_rfl) (by kernel_rfl) ?_
    repeat (first | refine zd ?_ | refine draw_w rfl rfl rfl rfl rfl rfl (step_call_pure rfl rfl rfl (fun H hs => by first | exact seatOne_ok | exact seatNum_ok | exact seatStr_ok | exact seatAt_ok | exact seatOf_ok | exact seatPart_ok | exact seatCall_ok | exact seatWord_ok | exact seatClass_ok) (zst ?_)) | refine draw_a rfl rfl rfl rfl rfl (step_buildSliceF rfl rfl rfl rfl rfl rfl (fun _ => (zst ?_))) | refine draw_a rfl rfl rfl rfl rfl (step_alloc rfl rfl rfl rfl (fun _ => (zst ?_))))
    try refine draw_nil ?_
    (first | apply ops_pl rfl rfl rfl ?_ rfl ?_ | apply draw_pl rfl rfl rfl rfl ?_ rfl rfl ?_); rotate_left; focus exact (.p rfl (opP_idxo (z := 7) rfl rfl rfl rfl (by omega) (by omega)))
    repeat (first | refine zd ?_ | refine draw_w rfl rfl rfl rfl rfl rfl (step_call_pure rfl rfl rfl (fun H hs => by first | exact seatOne_ok | exact seatNum_ok | exact seatStr_ok | exact seatAt_ok | exact seatOf_ok | exact seatPart_ok | exact seatCall_ok | exact seatWord_ok | exact seatClass_ok) (zst ?_)) | refine draw_a rfl rfl rfl rfl rfl (step_buildSliceF rfl rfl rfl rfl rfl rfl (fun _ => (zst ?_))) | refine draw_a rfl rfl rfl rfl rfl (step_alloc rfl rfl rfl rfl (fun _ => (zst ?_))))
    try refine draw_nil ?_
    refine draw_w rfl rfl rfl rfl rfl rfl (step_storeF 3 rfl rfl rfl rfl rfl rfl hw rfl (zst ?_))
    refine draw_nil ?_
    repeat (first | refine zr ?_ | (refine zn ?_; intro _))
    have hl4 : ((cd.set code.length ⟨4, 0, 4, [], [], [], []⟩).flatMap insL).length = cd.length * 7 := by rw [flat_len (f := insL) (z := 7) (fun _ => rfl), List.length_set]
    refine ⟨trivial, _, rfl, _, [_, _], List.perm_append_comm (l₁ := [_, _]), cd.set code.length ⟨4, 0, 4, [], [], [], []⟩, hl, ⟨some ⟨b3, 0, some v3⟩, unk, _, ha3, hc3, q3, by rw [List.length_set], by rw [List.length_set]; exact .own hl4, ownH3⟩, ?_⟩
    rw [hset]
    exact Grown.add ⟨gAt (by decide) (by decide) (by omega), gCall (by decide) (by decide) (by decide) (by decide) (by decide +kernel) (by decide), gAt (by decide) (by decide) (by omega), trivial⟩ (by simp)
  have n37 : k ≠ 37 := fun e => by subst e; exact Bool.noConfusion h
  repeat (first | refine zr ?_ | (refine zn ?_; intro _))
  refine exec_cond rfl (fun h => ?_) (fun h => ?_)
  · have hk : k = 38 := by have := eq_of_beq h; omega
    subst hk
    repeat (first | refine zr ?_ | (refine zn ?_; intro _) | refine ops_step rfl rfl rfl (step_call_pure rfl rfl rfl (fun H hs => by first | exact seatOne_ok | exact seatNum_ok | exact seatStr_ok | exact seatAt_ok | exact seatOf_ok | exact seatPart_ok | exact seatCall_ok | exact seatWord_ok | exact seatClass_ok) ?_))
    rw [tm3]
    (first | apply ops_pl rfl rfl rfl ?_ rfl ?_ | apply draw_pl rfl rfl rfl rfl ?_ rfl rfl ?_); rotate_left; focus exact (.p rfl (opP_idxo (z := 1) rfl rfl rfl rfl (by omega) (by omega)))
    (first | apply ops_pl rfl rfl rfl ?_ rfl ?_ | apply draw_pl rfl rfl rfl rfl ?_ rfl rfl ?_); rotate_left; focus exact (.l rfl (look_own 0 rfl rfl rfl (pickS (l := [[69, 114, 114], [69, 114, 114, 50], [66, 111, 117, 110, 100, 115, 70, 97, 117, 108, 116]]) (show n % 3 < 3 by omega))))
    repeat (first | refine zr ?_ | (refine zn ?_; intro _) | refine ops_step rfl rfl rfl (step_call_pure rfl rfl rfl (fun H hs => by first | exact seatOne_ok | exact seatNum_ok | exact seatStr_ok | exact seatAt_ok | exact seatOf_ok | exact seatPart_ok | exact seatCall_ok | exact seatWord_ok | exact seatClass_ok) ?_))
    refine ops_step rfl rfl rfl (step_call_fp3 rfl rfl rfl (fun H hs hst => bAdd_ok (new := [⟨25, 0, 0, [], ([[69, 114, 114], [69, 114, 114, 50], [66, 111, 117, 110, 100, 115, 70, 97, 117, 108, 116]].getD (n % 3) []), [], []⟩, ⟨38, 0, 0, [], [], [], []⟩]) hst hF0 (Rd.keep (Rd.sl (i := 0) (n := 2) rfl rfl 2) hs) (by omega)) (fun v2 F2 h2 => ?_))
    repeat (first | refine zr ?_ | (refine zn ?_; intro _) | refine ops_step rfl rfl rfl (step_call_pure rfl rfl rfl (fun H hs => by first | exact seatOne_ok | exact seatNum_ok | exact seatStr_ok | exact seatAt_ok | exact seatOf_ok | exact seatPart_ok | exact seatCall_ok | exact seatWord_ok | exact seatClass_ok) ?_))
    rw [tm2]
    (first | apply ops_pl rfl rfl rfl ?_ rfl ?_ | apply draw_pl rfl rfl rfl rfl ?_ rfl rfl ?_); rotate_left; focus exact (.p rfl (opP_idxo (z := 1) rfl rfl rfl rfl (by omega) (by omega)))
    (first | apply ops_pl rfl rfl rfl ?_ rfl ?_ | apply draw_pl rfl rfl rfl rfl ?_ rfl rfl ?_); rotate_left; focus exact (.l rfl (look_own 0 rfl rfl rfl (pickS (l := [[69, 114, 114], [70, 97, 117, 108, 116]]) (show n % 2 < 2 by omega))))
    repeat (first | refine zr ?_ | (refine zn ?_; intro _) | refine ops_step rfl rfl rfl (step_call_pure rfl rfl rfl (fun H hs => by first | exact seatOne_ok | exact seatNum_ok | exact seatStr_ok | exact seatAt_ok | exact seatOf_ok | exact seatPart_ok | exact seatCall_ok | exact seatWord_ok | exact seatClass_ok) ?_))
    refine ops_step rfl rfl rfl (step_call_fp4 rfl rfl rfl (fun H hs hst => bTry_ok (fr := (code.length : Int)) (ct := ([[69, 114, 114], [70, 97, 117, 108, 116]].getD (n % 2) [])) (s := [116, 104, 114, 111, 119, 110]) hst h2 (by simp; omega) (by omega)) (fun v3 F3 h3 => ?_))
    repeat (first | refine zr ?_ | (refine zn ?_; intro _))
    exact ⟨trivial, _, rfl, _, [_, _, _, _], List.perm_append_comm (l₁ := [_, _, _, _]), _, _, h3, Grown.tryy ⟨gOf (by decide) (by decide) (pick_all (p := nameL) (show n % 3 < 3 by omega) (by decide)), gOne (by decide) (by decide), trivial⟩ (by simp) (by simp; omega) (pick_all (p := nameL) (show n % 2 < 2 by omega) (by decide)) (by decide)⟩
  have n38 : k ≠ 38 := fun e => by subst e; exact Bool.noConfusion h
  repeat (first | refine zr ?_ | (refine zn ?_; intro _) | refine ops_step rfl rfl rfl (step_call_pure rfl rfl rfl (fun H hs => by first | exact seatOne_ok | exact seatNum_ok | exact seatStr_ok | exact seatAt_ok | exact seatOf_ok | exact seatPart_ok | exact seatCall_ok | exact seatWord_ok | exact seatClass_ok) ?_))
  refine ops_step rfl rfl rfl (step_call_fp2 rfl rfl rfl (fun H hs hst => bAdd_ok (new := [⟨36, 0, 0, [], [85, 116, 105, 108], [115, 104, 111, 119], [40, 41, 86]⟩]) hst hF0 (Rd.keep (Rd.sl (i := 0) (n := 1) rfl rfl 1) hs) (by omega)) (fun v2 F2 h2 => ?_))
  repeat (first | refine zr ?_ | (refine zn ?_; intro _))
  exact ⟨trivial, _, rfl, _, [_, _], List.perm_append_comm (l₁ := [_, _]), _, _, h2, Grown.add ⟨gCall (by decide) (by decide) (by decide) (by decide) (by decide +kernel) (by decide), trivial⟩ (by simp)⟩
end Go.Proofs.YtlhkndjloeoodaaGreat
namespace Go.Proofs.YtlhkndjloeoodaaGreat
open Go.Ev Go.Ev.Wk
variable {O : Old}
theorem tm40 (n : Nat) : ((n : Nat) : Int).tmod 40 = ((n % 40 : Nat) : Int) := by simpa using tmodN (a := (n : Int)) (b := 40) (m := 40) (by omega) rfl
theorem exec_midL {T : Tab} {X : List Nat} {H0 : Heap} {N : Nat} {c : Code} {E : Env} {L : Atoms} {Q : Ex → Env → Atoms → Prop} (R : Env → Atoms → Prop) (h1 : ExecS T O X H0 N c E L (midS R)) (h2 : ∀ E' L', R E' L' → Q .normal E' L') : ExecS T O X H0 N c E L Q :=
  h1.mono fun ex E' L' h => match ex, h with
    | .normal, h => h2 E' L' h
    | .exit _, h => h.elim
    | .ret, h => h.elim
structure Built (bb i j : Nat) (F : Atoms) : Prop where
  ex : ∃ (code : List Ins) (hl : List HV), BldG bb code hl F ∧ GL code ∧ GH hl ∧ code.length ≤ i ∧ hl.length ≤ j ∧ ∃ x ∈ code, x.op = 1
theorem GH.app {a b : List HV} (h : GH a) (h' : GH b) : GH (a ++ b) := fun x hx => (List.mem_append.1 hx).elim (h x) (h' x)
theorem Built.grow {bb i j m : Nat} {F : Atoms} {code code' : List Ins} {hl hl' : List HV} (hG : BldG bb code' hl' F) (g : Grown m code hl code' hl') (h1 : GL code) (h2 : GH hl) (h3 : code.length + m ≤ i) (h4 : hl.length + 1 ≤ j) (h5 : ∃ x ∈ code, x.op = 1) : Built bb i j F := by
  obtain ⟨new, hnew, rfl, g1, g2, rfl, g3, g4⟩ := g
  obtain ⟨x, hx, hx1⟩ := h5
  exact ⟨_, _, hG, h1.app g1, h2.app g3, by rw [List.length_append]; omega, by rw [List.length_append]; omega, x, List.mem_append.2 (.inl hx), hx1⟩
theorem Built.add {bb i j : Nat} {F : Atoms} {code new : List Ins} {hl : List HV} (hG : BldG bb (code ++ new) hl F) (g : GL new) (h1 : GL code) (h2 : GH hl) (h3 : code.length + new.length ≤ i) (h4 : hl.length ≤ j) (h5 : ∃ x ∈ code, x.op = 1) : Built bb i j F := by
  obtain ⟨x, hx, hx1⟩ := h5
  exact ⟨_, _, hG, h1.app g, h2, by rw [List.length_append]; omega, h4, x, List.mem_append.2 (.inl hx), hx1⟩
theorem Built.mono {bb i j i' j' : Nat} {F : Atoms} (h : Built bb i j F) (h1 : i ≤ i') (h2 : j ≤ j') : Built bb i' j' F := by
  obtain ⟨code, hl, g1, g2, g3, g4, g5, g6⟩ := h.ex
  exact ⟨code, hl, g1, g2, g3, by omega, by omega, g6⟩
set_option maxHeartbeats 32000000 in
set_option maxRecDepth 100000 in
theorem bBody_ok {H : Heap} {a : Option Addr} {n c : Nat} {l : List UInt8} (hB : Keep [] H fun H' => Sl O H' (.slice a n c) 1 n (l.map by8)) (hn : n ≤ 1000000) :
    FpC TT O 26 [.slice a n c] H [] fun v F' => ∃ (code : List Ins) (hl : List HV) (ca : Option Addr) (cc : Nat) (ha : Option Addr) (hc : Nat) (p q : Option Nat × Cont), v = .tuple #[.slice ca code.length cc, .slice ha hl.length hc] ∧ F' = [p, q] ∧ OwnA 7 61 ca code.length cc (code.flatMap insL) p ∧ OwnA 4 66 ha hl.length hc (hl.flatMap HV.cells) q ∧ GL code ∧ GH hl ∧ code.length ≤ 600 ∧ hl.length ≤ 40 ∧ ∃ x ∈ code, x.op = 1 := by
  have hln : l.length = n := by have := (hB H (ExtBut.refl _ _)).1; simpa using this
  refine call_fp rfl rfl rfl rfl rfl (St.start H) ?_
  refine ExecS.ghost ?_
  refine ExecS.ghost ?_
  repeat (first | refine zr ?_ | (refine zn ?_; intro _) | refine ops_step rfl rfl rfl (step_call_pure rfl rfl rfl (fun H hs => by first | exact seatOne_ok | exact seatNum_ok | exact seatStr_ok | exact seatAt_ok | exact seatOf_ok | exact seatPart_ok | exact seatCall_ok) ?_))
  rename_i bb sb
  refine OpsS.reord [0] rfl ?_
  refine ops_step rfl rfl rfl (step_call_fp1 rfl rfl rfl (fun H hs hst => bAdd_ok (code := []) (hl := []) (new := [⟨1, IntKind.i32.wrap 1, 0, [], [], [], []⟩, ⟨5, 0, 0, [], [], [], []⟩, ⟨2, 0, 0, [115], [], [], []⟩, ⟨5, 0, 1, [], [], [], []⟩, ⟨1, IntKind.i32.wrap 3, 0, [], [], [], []⟩, ⟨21, 0, 0, [], [], [], []⟩, ⟨5, 0, 2, [], [], [], []⟩, ⟨25, 0, 0, [], [65], [], []⟩, ⟨5, 0, 3, [], [], [], []⟩, ⟨3, 0, 0, [], [], [], []⟩, ⟨5, 0, 4, [], [], [], []⟩]) hst ⟨none, 0, _, none, 0, _, rfl, .nil _, .nil _⟩ (Rd.keep (Rd.sl (i := 0) (n := 11) rfl rfl 11) hs) (by simp)) (fun v2 F2 h2 => ?_))
  have hb0 : Built bb 11 0 F2 := ⟨_, _, h2, ⟨gNum, gAt (by decide) (by decide) (by omega), gStr (by decide), gAt (by decide) (by decide) (by omega), gNum, gOne (by decide) (by decide), gAt (by decide) (by decide) (by omega), gOf (by decide) (by decide) (by decide), gAt (by decide) (by decide) (by omega), gOne (by decide) (by decide), gAt (by decide) (by decide) (by omega), trivial⟩, (fun x hx => by cases hx), by simp, by simp, ⟨1, IntKind.i32.wrap 1, 0, [], [], [], []⟩, by simp, rfl⟩
  repeat (first | refine zr ?_ | (refine zn ?_; intro _))
  refine ExecS.weak (E' := [(0, .slice a n c), (4, ptr bb), (5, .int .i64 (((2 * 0 : Nat)) : Int))]) (L' := F2) ⟨rfl, rfl, rfl, trivial⟩ (.cons _ (.refl _)) ?_
  refine exec_loop (fun m E L => ∃ j : Nat, j + m = 20 ∧ Built bb (11 + 28 * j) (2 * j) L ∧ E = [(0, .slice a n c), (4, ptr bb), (5, .int .i64 (((2 * j : Nat)) : Int))]) ?_ 20 _ _ ⟨0, by omega, hb0, rfl⟩
  clear hb0 h2
  rintro m E L ⟨j, hjm, hb, rfl⟩
  repeat (first | refine zr ?_ | (refine zn ?_; intro _))
  cases h1 : decide (((2 * j : Nat) : Int) + 1 < (n : Int))
  · repeat (first | refine zr ?_ | (refine zn ?_; intro _))
    obtain ⟨code, hl, hG, g1, g2, g3, g4, g5⟩ := hb.ex
    repeat (first | refine zr ?_ | (refine zn ?_; intro _) | refine ops_step rfl rfl rfl (step_call_pure rfl rfl rfl (fun H hs => by first | exact seatOne_ok | exact seatNum_ok | exact seatStr_ok | exact seatAt_ok | exact seatOf_ok | exact seatPart_ok | exact seatCall_ok) ?_))
    refine ops_step rfl rfl rfl (step_call_fp1 rfl rfl rfl (fun H hs hst => bAdd_ok (new := [⟨40, 0, 0, [], [], [], []⟩]) hst hG (Rd.keep (Rd.sl (i := 0) (n := 1) rfl rfl 1) hs) (by omega)) (fun v9 F9 h9 => ?_))
    obtain ⟨ca, cc, p, ha, hc, q, rfl, own, ownH⟩ := h9
    repeat (first | refine zr ?_ | (refine zn ?_; intro _))
    refine exec_draw (lst := [(0, 0), (1, 1), (2, 3), (3, 7), (4, 0), (5, 16), (6, 48), (7, 112), (8, 15), (9, 511)]) (full := 1023) (by kernel_rfl) (by kernel_rfl) (by kernel_rfl) (by kernel_rfl) ?_
    repeat (first | refine zd ?_)
    try refine draw_nil ?_
    repeat (first | refine zr ?_ | (refine zn ?_; intro _))
    obtain ⟨x, hx, hx1⟩ := g5
    exact ⟨trivial, _, rfl, [p, q], _, List.perm_append_comm (l₁ := [_, _]), _, hl, ca, cc, ha, hc, p, q, rfl, rfl, own, ownH, g1.app ⟨gOne (by decide) (by decide), trivial⟩, g2, by rw [List.length_append]; simp; omega, by omega, x, List.mem_append.2 (.inl hx), hx1⟩
  have h1' := of_decide_eq_true h1
  repeat (first | refine zr ?_ | (refine zn ?_; intro _))
  cases h2 : decide (((2 * j : Nat) : Int) < 40)
  · repeat (first | refine zr ?_ | (refine zn ?_; intro _))
    obtain ⟨code, hl, hG, g1, g2, g3, g4, g5⟩ := hb.ex
    repeat (first | refine zr ?_ | (refine zn ?_; intro _) | refine ops_step rfl rfl rfl (step_call_pure rfl rfl rfl (fun H hs => by first | exact seatOne_ok | exact seatNum_ok | exact seatStr_ok | exact seatAt_ok | exact seatOf_ok | exact seatPart_ok | exact seatCall_ok) ?_))
    refine ops_step rfl rfl rfl (step_call_fp1 rfl rfl rfl (fun H hs hst => bAdd_ok (new := [⟨40, 0, 0, [], [], [], []⟩]) hst hG (Rd.keep (Rd.sl (i := 0) (n := 1) rfl rfl 1) hs) (by omega)) (fun v9 F9 h9 => ?_))
    obtain ⟨ca, cc, p, ha, hc, q, rfl, own, ownH⟩ := h9
    repeat (first | refine zr ?_ | (refine zn ?_; intro _))
    refine exec_draw (lst := [(0, 0), (1, 1), (2, 3), (3, 7), (4, 0), (5, 16), (6, 48), (7, 112), (8, 15), (9, 511)]) (full := 1023) (by kernel_rfl) (by kernel_rfl) (by kernel_rfl) (by kernel_rfl) ?_
    repeat (first | refine zd ?_)
    try refine draw_nil ?_
    repeat (first | refine zr ?_ | (refine zn ?_; intro _))
    obtain ⟨x, hx, hx1⟩ := g5
    exact ⟨trivial, _, rfl, [p, q], _, List.perm_append_comm (l₁ := [_, _]), _, hl, ca, cc, ha, hc, p, q, rfl, rfl, own, ownH, g1.app ⟨gOne (by decide) (by decide), trivial⟩, g2, by rw [List.length_append]; simp; omega, by omega, x, List.mem_append.2 (.inl hx), hx1⟩
  have h2' := of_decide_eq_true h2
  obtain ⟨x, hx0⟩ : ∃ x, l[2 * j]? = some x := ⟨_, List.getElem?_eq_getElem (by omega)⟩
  obtain ⟨y, hy0⟩ : ∃ y, l[2 * j + 1]? = some y := ⟨_, List.getElem?_eq_getElem (by omega)⟩
  have hx : (l.map by8)[((2 * j : Nat) : Int).toNat]? = some (by8 x) := by rw [Int.toNat_natCast, List.getElem?_map, hx0]; rfl
  have hy : (l.map by8)[(((2 * j : Nat) : Int) + 1).toNat]? = some (by8 y) := by
    rw [show (((2 * j : Nat) : Int) + 1).toNat = 2 * j + 1 from by omega, List.getElem?_map, hy0]; rfl
  have hy255 : y.toNat ≤ 255 := by have := y.toNat_lt; omega
  obtain ⟨code, hl, hG, g1, g2, g3, g4, g5⟩ := hb.ex
  clear hb
  repeat (first | refine zr ?_ | (refine zn ?_; intro _))
  (first | apply ops_pl rfl rfl rfl ?_ rfl ?_ | apply draw_pl rfl rfl rfl rfl ?_ rfl rfl ?_); rotate_left; focus exact (.p rfl (opP_idx rfl rfl (hB _ (ExtBut.refl _ _)) rfl rfl (by omega) (by omega)))
  (first | apply ops_pl rfl rfl rfl ?_ rfl ?_ | apply draw_pl rfl rfl rfl rfl ?_ rfl rfl ?_); rotate_left; focus exact (.l rfl (fun H hs => opL_load rfl ((hB.at hs).ld rfl hx)))
  repeat (first | refine zr ?_ | (refine zn ?_; intro _))
  rw [tm40]
  repeat (first | refine zr ?_ | (refine zn ?_; intro _))
  (first | apply ops_pl rfl rfl rfl ?_ rfl ?_ | apply draw_pl rfl rfl rfl rfl ?_ rfl rfl ?_); rotate_left; focus exact (.p rfl (opP_idx rfl rfl (hB _ (ExtBut.refl _ _)) rfl rfl (by omega) (by omega)))
  (first | apply ops_pl rfl rfl rfl ?_ rfl ?_ | apply draw_pl rfl rfl rfl rfl ?_ rfl rfl ?_); rotate_left; focus exact (.l rfl (fun H hs => opL_load rfl ((hB.at hs).ld rfl hy)))
  repeat (first | refine zr ?_ | (refine zn ?_; intro _))
  refine ops_step rfl rfl rfl (step_call_fp0 rfl rfl rfl (fun H hs hst => bNumbers_ok (k := x.toNat % 40) (n := y.toNat) hst hG (by omega) (by omega) hy255) (fun v3 F3 h3 => ?_))
  obtain ⟨code3, hl3, hG3, gr3, rfl⟩ := h3
  have hb3 : Built bb (11 + 28 * j + 13) (2 * j + 1) F3 := Built.grow hG3 gr3 g1 g2 (by omega) (by omega) g5
  clear hG3 gr3 hG g5 g1 g2
  repeat (first | refine zr ?_ | (refine zn ?_; intro _))
  refine exec_mid (fun E L => SubE [(0, .slice a n c), (4, ptr bb), (5, .int .i64 (((2 * j : Nat)) : Int))] E ∧ Built bb (11 + 28 * j + 26) (2 * j + 2) L) ?_ ?_
  · refine exec_cond rfl (fun h => ?_) (fun h => ?_)
    · obtain ⟨code, hl, hG, g1, g2, g3', g4', g5⟩ := hb3.ex
      repeat (first | refine zr ?_ | (refine zn ?_; intro _))
      (first | apply ops_pl rfl rfl rfl ?_ rfl ?_ | apply draw_pl rfl rfl rfl rfl ?_ rfl rfl ?_); rotate_left; focus exact (.p rfl (opP_idx rfl rfl (hB _ (ExtBut.refl _ _)) rfl rfl (by omega) (by omega)))
      (first | apply ops_pl rfl rfl rfl ?_ rfl ?_ | apply draw_pl rfl rfl rfl rfl ?_ rfl rfl ?_); rotate_left; focus exact (.l rfl (fun H hs => opL_load rfl ((hB.at hs).ld rfl hy)))
      repeat (first | refine zr ?_ | (refine zn ?_; intro _))
      refine ops_step rfl rfl rfl (step_call_fp0 rfl rfl rfl (fun H hs hst => bObjects_ok (k := x.toNat % 40) (n := y.toNat) hst hG (by omega) (by omega) hy255) (fun v4 F4 h4 => ?_))
      obtain ⟨code4, hl4, hG4, gr4⟩ := h4
      repeat (first | refine zr ?_ | (refine zn ?_; intro _))
      exact ⟨⟨rfl, rfl, rfl, trivial⟩, Built.grow hG4 gr4 g1 g2 (by omega) (by omega) g5⟩
    · repeat (first | refine zr ?_ | (refine zn ?_; intro _))
      exact ⟨⟨rfl, rfl, rfl, trivial⟩, hb3.mono (by omega) (by omega)⟩
  clear hb3
  rintro E L ⟨hE, hb4⟩
  refine ExecS.weak hE (.refl _) ?_
  clear hE
  repeat (first | refine zr ?_ | (refine zn ?_; intro _))
  (first | apply ops_pl rfl rfl rfl ?_ rfl ?_ | apply draw_pl rfl rfl rfl rfl ?_ rfl rfl ?_); rotate_left; focus exact (.p rfl (opP_idx rfl rfl (hB _ (ExtBut.refl _ _)) rfl rfl (by omega) (by omega)))
  (first | apply ops_pl rfl rfl rfl ?_ rfl ?_ | apply draw_pl rfl rfl rfl rfl ?_ rfl rfl ?_); rotate_left; focus exact (.l rfl (fun H hs => opL_load rfl ((hB.at hs).ld rfl hx)))
  repeat (first | refine zr ?_ | (refine zn ?_; intro _))
  refine exec_midL (fun E L => SubE [(0, .slice a n c), (4, ptr bb), (5, .int .i64 (((2 * j : Nat)) : Int))] E ∧ ∃ F', Built bb (11 + 28 * (j + 1)) (2 * (j + 1)) F' ∧ F'.Sublist L) ?_ ?_
  · refine exec_cond rfl (fun h => ?_) (fun h => ?_)
    · obtain ⟨code, hl, hG, g1, g2, g3', g4', g5⟩ := hb4.ex
      repeat (first | refine zr ?_ | (refine zn ?_; intro _))
      (first | apply ops_pl rfl rfl rfl ?_ rfl ?_ | apply draw_pl rfl rfl rfl rfl ?_ rfl rfl ?_); rotate_left; focus exact (.p rfl (opP_idx rfl rfl (hB _ (ExtBut.refl _ _)) rfl rfl (by omega) (by omega)))
      (first | apply ops_pl rfl rfl rfl ?_ rfl ?_ | apply draw_pl rfl rfl rfl rfl ?_ rfl rfl ?_); rotate_left; focus exact (.l rfl (fun H hs => opL_load rfl ((hB.at hs).ld rfl hy)))
      repeat (first | refine zr ?_ | (refine zn ?_; intro _) | refine ops_step rfl rfl rfl (step_call_pure rfl rfl rfl (fun H hs => by first | exact seatOne_ok | exact seatNum_ok | exact seatStr_ok | exact seatAt_ok | exact seatOf_ok | exact seatPart_ok | exact seatCall_ok) ?_))
      refine ops_step rfl rfl rfl (step_call_fp1 rfl rfl rfl (fun H hs hst => bAdd_ok (new := [⟨1, _, 0, [], [], [], []⟩, ⟨43, 0, 0, [], [], [], []⟩]) hst hG (Rd.keep (Rd.sl (i := 0) (n := 2) rfl rfl 2) hs) (by omega)) (fun v5 F5 h5 => ?_))
      repeat (first | refine zr ?_ | (refine zn ?_; intro _))
      obtain ⟨z, hz, hz1⟩ := g5
      exact ⟨⟨rfl, rfl, rfl, trivial⟩, F5, Built.add (new := [⟨1, _, 0, [], [], [], []⟩, ⟨43, 0, 0, [], [], [], []⟩]) h5 ⟨gNum, gOne (by decide) (by decide), trivial⟩ g1 g2 (by simp; omega) (by omega) ⟨z, hz, hz1⟩, .cons _ (.refl _)⟩
    · repeat (first | refine zr ?_ | (refine zn ?_; intro _))
      exact ⟨⟨rfl, rfl, rfl, trivial⟩, L, hb4.mono (by omega) (by omega), .refl _⟩
  clear hb4
  rintro E L ⟨hE, F', hb5, hsub⟩
  refine ExecS.weak hE hsub ?_
  clear hE
  repeat (first | refine zr ?_ | (refine zn ?_; intro _))
  refine ⟨m - 1, by omega, _, _, ?_, .refl _, j + 1, by omega, hb5, rfl⟩
  refine ⟨rfl, rfl, ?_, trivial⟩
  show some (Value.int .i64 (((2 * j : Nat) : Int) + 2)) = some (Value.int .i64 ((2 * (j + 1) : Nat) : Int))
  congr 2
end Go.Proofs.YtlhkndjloeoodaaGreat
namespace Go.Proofs.YtlhkndjloeoodaaGreat
open Go.Ev Go.Ev.Wk
variable {O : Old}
def NN : List (List UInt8) := [[77, 97, 105, 110], [73], [74], [66, 97, 115, 101], [65], [66], [77, 105, 100], [67], [68], [69, 114, 114], [69, 114, 114, 50], [71, 111, 110, 101], [85, 116, 105, 108]]
def BI : List (List UInt8) := [[79, 98, 106, 101, 99, 116], [70, 97, 117, 108, 116]]
def refB (p : Int × List UInt8) : Bool := !decide (p.1 = 4) || decide (p.2 ∈ NN)
def tyB (ps : List (Int × List UInt8)) (rk : Int) (rc : List UInt8) : Bool := ps.all refB && refB (rk, rc) && decide ((ofL ps rk rc).length ≤ 70)
def closedB (su : List UInt8) (ifs : List (List UInt8)) : Bool := (decide (su ∈ NN) || decide (su ∈ BI)) && ifs.all fun i => decide (i ∈ NN)
structure GoodM (k : Nat) (m : PM) : Prop where
  ty : tyB m.ps m.rk m.rc = true
  sh : ∀ i ∈ m.cl, ShI i
  rt : RtM m
  wf : WfM m
  n : m.cl.length + m.hl.length ≤ k
theorem GoodM.mono {k k' : Nat} {m : PM} (h : GoodM k m) (e : k ≤ k') : GoodM k' m := ⟨h.ty, h.sh, h.rt, h.wf, Nat.le_trans h.n e⟩
theorem goodM_of {k : Nat} {nm : List UInt8} {ps : List (Int × List UInt8)} {rk : Int} {rc : List UInt8} {st ab : Bool} {lo : Int} {cl : List Ins} {hl : List HV} (h1 : nameL nm = true) (h2 : allB ps 8 typedB = true) (h3 : rightL rk rc = true) (h4 : 0 ≤ lo ∧ lo ≤ 200) (h5 : GL cl) (h6 : GH hl) (h7 : cl.length ≤ 600) (h8 : hl.length ≤ 40) (h9 : cl.length + hl.length ≤ k) (h10 : tyB ps rk rc = true := by decide) : GoodM k ⟨nm, ps, rk, rc, st, ab, lo, cl, hl⟩ := by
  rw [allB_iff] at h2
  refine ⟨h10, fun i hi => (h5.mem i hi).2.2, ⟨h1, h2.1, h2.2, h3, h4, Nat.le_trans h7 (by decide), fun i hi => (h5.mem i hi).1, Nat.le_trans h8 (by decide), fun h hh => (h6 h hh).1⟩, ⟨nlen h1, fun p hp => Nat.le_trans (typed_len (h2.2 p hp)) (by decide), Nat.le_trans (rightL_len h3) (by decide), fun i hi => (h5.mem i hi).2.1, fun h hh => (h6 h hh).2, Nat.le_trans h2.1 (by decide), Nat.le_trans h7 (by decide), Nat.le_trans h8 (by decide)⟩, h9⟩
abbrev methC (nm : List UInt8) (pa : Option Addr) (ps : List (Int × List UInt8)) (pc : Nat) (rk : Int) (rc : List UInt8) (st : Bool) (lo : Int) (cl : List Ins) (ca : Option Addr) (cc : Nat) : MV := ⟨⟨nm, ps, rk, rc, st, false, lo, cl, []⟩, pa, pc, ca, cc, none, 0⟩
theorem methC_rd {nm : List UInt8} {rk : Int} {rc : List UInt8} {st : Bool} {lo : Int} {cl : List Ins} {ca : Option Addr} {cc : Nat} {p : Option Nat × Cont} {Z : Atoms} (h : OwnC 7 61 ca cl.length cc (cl.flatMap insL) p) (hp : p ∈ Z) : Rd Z fun H => MethF O H (methC nm none [] 0 rk rc st lo cl ca cc) :=
  fun X H0 H hst => ⟨Sl.nil, h.rd hp X H0 H hst, Sl.nil⟩
set_option maxHeartbeats 8000000 in
set_option maxRecDepth 100000 in
theorem seatClinit_ok {H : Heap} {s : List UInt8} : FpC TT O 28 [str s] H [] fun v F' => ∃ (ca : Option Addr) (cc : Nat) (p : Option Nat × Cont), F' = [p] ∧ v = (methC [99, 108, 105, 110, 105, 116] none [] 0 5 [] true 0 [⟨2, 0, 0, s, [], [], []⟩, ⟨41, 0, 0, [], [], [], []⟩, ⟨40, 0, 0, [], [], [], []⟩] ca cc).val ∧ OwnC 7 61 ca 3 cc (([⟨2, 0, 0, s, [], [], []⟩, ⟨41, 0, 0, [], [], [], []⟩, ⟨40, 0, 0, [], [], [], []⟩] : List Ins).flatMap insL) p := by
  refine call_fpM rfl rfl rfl rfl rfl (St.start H) ?_
  repeat (first | refine zr ?_ | (refine zn ?_; intro _) | refine ops_step rfl rfl rfl (step_call_pure rfl rfl rfl (fun H hs => by first | exact seatTyp_ok | exact seatRef_ok | exact seatOne_ok | exact seatNum_ok | exact seatStr_ok | exact seatAt_ok | exact seatOf_ok | exact seatPart_ok | exact seatCall_ok | exact seatMethod_ok) ?_))
  exact ⟨trivial, [_], ⟨look_agg 1 rfl rfl rfl rfl, trivial⟩, [_], _, List.Perm.refl _, _, _, _, rfl, rfl, .full rfl⟩
set_option maxHeartbeats 16000000 in
set_option maxRecDepth 100000 in
theorem seatRun_ok {H : Heap} {cls : List UInt8} {n : Int} (hc : cls.length ≤ 70) : FpC TT O 71 [str cls, .int .u8 n] H [] fun v F' => ∃ (cl : List Ins) (ca : Option Addr) (cc : Nat) (p : Option Nat × Cont), F' = [p] ∧ v = (methC [114, 117, 110] none [] 0 1 [] false 1 cl ca cc).val ∧ GL cl ∧ cl.length ≤ 20 ∧ OwnC 7 61 ca cl.length cc (cl.flatMap insL) p := by
  refine call_fpM rfl rfl rfl rfl rfl (St.start H) ?_
  repeat (first | refine zr ?_ | (refine zn ?_; intro _) | refine ops_step rfl rfl rfl (step_call_pure rfl rfl rfl (fun H hs => by first | exact seatTyp_ok | exact seatRef_ok | exact seatOne_ok | exact seatNum_ok | exact seatStr_ok | exact seatAt_ok | exact seatOf_ok | exact seatPart_ok | exact seatCall_ok | exact seatMethod_ok) ?_))
  refine ExecS.pick [0, 1, 4, 5, 19, 20] [true, true, true] rfl rfl ?_
  refine exec_cond rfl (fun _ => ?_) (fun _ => ?_)
  · repeat (first | refine zr ?_ | (refine zn ?_; intro _))
    refine exec_draw (lst := [(0, 0), (4, 0), (5, 16), (1, 1), (2, 3), (3, 7), (6, 63), (7, 127), (8, 255)]) (full := 511) (by kernel_rfl) (by kernel_rfl) (by kernel_rfl) (by kernel_rfl) ?_
    repeat (first | refine zd ?_ | refine draw_w rfl rfl rfl rfl rfl rfl (step_call_pure rfl rfl rfl (fun H hs => by first | exact seatTyp_ok | exact seatRef_ok | exact seatOne_ok | exact seatNum_ok | exact seatStr_ok | exact seatAt_ok | exact seatOf_ok | exact seatPart_ok | exact seatCall_ok | exact seatMethod_ok) (zst ?_)) | refine draw_a rfl rfl rfl rfl rfl (step_buildSliceF rfl rfl rfl rfl rfl rfl (fun _ => (zst ?_))) | refine draw_a rfl rfl rfl rfl rfl (step_alloc rfl rfl rfl rfl (fun _ => (zst ?_))))
    try refine draw_nil ?_
    refine draw_w rfl rfl rfl rfl rfl rfl (step_appendC (z := 7) 0 rfl rfl rfl rfl rfl rfl rfl rfl (OwnC.full rfl) (fun H hs => src_own (j := 2) hs rfl rfl 5) rfl (by first | rfl | exact allCell_map (fun _ => rfl) _) (by first | rfl | (simp; done) | (simp; omega)) (by omega) (by omega) (fun a2 c2 p2 own2 => (zst ?_)))
    repeat (first | refine zd ?_ | refine draw_w rfl rfl rfl rfl rfl rfl (step_call_pure rfl rfl rfl (fun H hs => by first | exact seatTyp_ok | exact seatRef_ok | exact seatOne_ok | exact seatNum_ok | exact seatStr_ok | exact seatAt_ok | exact seatOf_ok | exact seatPart_ok | exact seatCall_ok | exact seatMethod_ok) (zst ?_)) | refine draw_a rfl rfl rfl rfl rfl (step_buildSliceF rfl rfl rfl rfl rfl rfl (fun _ => (zst ?_))) | refine draw_a rfl rfl rfl rfl rfl (step_alloc rfl rfl rfl rfl (fun _ => (zst ?_))))
    try refine draw_nil ?_
    refine draw_w rfl rfl rfl rfl rfl rfl (step_storeZ 1 rfl rfl rfl rfl rfl rfl rfl rfl rfl (zst ?_))
    refine draw_nil ?_
    repeat (first | refine zr ?_ | (refine zn ?_; intro _))
    exact ⟨trivial, [_], ⟨look_agg 3 rfl rfl rfl rfl, trivial⟩, [p2], _, List.Perm.refl _, [⟨2, 0, 0, cls, [], [], []⟩, ⟨41, 0, 0, [], [], [], []⟩, ⟨4, 0, 0, [], [], [], []⟩, ⟨26, 0, 0, [], [66, 97, 115, 101], [120], []⟩, ⟨1, _, 0, [], [], [], []⟩, ⟨8, 0, 0, [], [], [], []⟩, ⟨39, 0, 0, [], [], [], []⟩], a2, c2, p2, rfl, rfl, ⟨gStr hc, gOne (by decide) (by decide), gAt (by decide) (by decide) (by omega), gPart (by decide) (by decide) (by decide) (by decide), gNum, gOne (by decide) (by decide), gOne (by decide) (by decide), trivial⟩, by simp, .inl own2⟩
  · repeat (first | refine zr ?_ | (refine zn ?_; intro _))
    refine exec_cond rfl (fun _ => ?_) (fun _ => ?_)
    · repeat (first | refine zr ?_ | (refine zn ?_; intro _))
      refine exec_draw (lst := [(4, 0), (5, 16), (9, 0), (10, 512), (0, 0), (1, 1), (2, 3), (3, 7), (6, 63), (7, 127), (8, 255), (11, 2047), (12, 4095), (13, 8191)]) (full := 16383) (by kernel_rfl) (by kernel_rfl) (by kernel_rfl) (by kernel_rfl) ?_
      repeat (first | refine zd ?_ | refine draw_w rfl rfl rfl rfl rfl rfl (step_call_pure rfl rfl rfl (fun H hs => by first | exact seatTyp_ok | exact seatRef_ok | exact seatOne_ok | exact seatNum_ok | exact seatStr_ok | exact seatAt_ok | exact seatOf_ok | exact seatPart_ok | exact seatCall_ok | exact seatMethod_ok) (zst ?_)) | refine draw_a rfl rfl rfl rfl rfl (step_buildSliceF rfl rfl rfl rfl rfl rfl (fun _ => (zst ?_))) | refine draw_a rfl rfl rfl rfl rfl (step_alloc rfl rfl rfl rfl (fun _ => (zst ?_))))
      try refine draw_nil ?_
      refine draw_w rfl rfl rfl rfl rfl rfl (step_appendC (z := 7) 0 rfl rfl rfl rfl rfl rfl rfl rfl (OwnC.full rfl) (fun H hs => src_own (j := 2) hs rfl rfl 5) rfl (by first | rfl | exact allCell_map (fun _ => rfl) _) (by first | rfl | (simp; done) | (simp; omega)) (by omega) (by omega) (fun a2 c2 p2 own2 => (zst ?_)))
      repeat (first | refine zd ?_ | refine draw_w rfl rfl rfl rfl rfl rfl (step_call_pure rfl rfl rfl (fun H hs => by first | exact seatTyp_ok | exact seatRef_ok | exact seatOne_ok | exact seatNum_ok | exact seatStr_ok | exact seatAt_ok | exact seatOf_ok | exact seatPart_ok | exact seatCall_ok | exact seatMethod_ok) (zst ?_)) | refine draw_a rfl rfl rfl rfl rfl (step_buildSliceF rfl rfl rfl rfl rfl rfl (fun _ => (zst ?_))) | refine draw_a rfl rfl rfl rfl rfl (step_alloc rfl rfl rfl rfl (fun _ => (zst ?_))))
      try refine draw_nil ?_
      refine draw_w rfl rfl rfl rfl rfl rfl (step_storeZ 1 rfl rfl rfl rfl rfl rfl rfl rfl rfl (zst ?_))
      refine draw_nil ?_
      repeat (first | refine zr ?_ | (refine zn ?_; intro _))
      exact ⟨trivial, [_], ⟨look_agg 3 rfl rfl rfl rfl, trivial⟩, [p2], _, List.Perm.refl _, [⟨4, 0, 0, [], [], [], []⟩, ⟨1, _, 0, [], [], [], []⟩, ⟨27, 0, 0, [], [66, 97, 115, 101], [119], []⟩, ⟨4, 0, 0, [], [], [], []⟩, ⟨1, _, 0, [], [], [], []⟩, ⟨27, 0, 0, [], [66, 97, 115, 101], [120], []⟩, ⟨4, 0, 0, [], [], [], []⟩, ⟨26, 0, 0, [], [66, 97, 115, 101], [120], []⟩, ⟨1, _, 0, [], [], [], []⟩, ⟨8, 0, 0, [], [], [], []⟩, ⟨39, 0, 0, [], [], [], []⟩], a2, c2, p2, rfl, rfl, ⟨gAt (by decide) (by decide) (by omega), gNum (x := 9), gPart (by decide) (by decide) (by decide) (by decide), gAt (by decide) (by decide) (by omega), gNum, gPart (by decide) (by decide) (by decide) (by decide), gAt (by decide) (by decide) (by omega), gPart (by decide) (by decide) (by decide) (by decide), gNum, gOne (by decide) (by decide), gOne (by decide) (by decide), trivial⟩, by simp, .inl own2⟩
    · repeat (first | refine zr ?_ | (refine zn ?_; intro _))
      exact ⟨trivial, [_], ⟨look_agg 2 rfl rfl rfl rfl, trivial⟩, [_], [_, _], List.Perm.swap _ _ _, [⟨4, 0, 0, [], [], [], []⟩, ⟨26, 0, 0, [], [66, 97, 115, 101], [120], []⟩, ⟨1, _, 0, [], [], [], []⟩, ⟨8, 0, 0, [], [], [], []⟩, ⟨39, 0, 0, [], [], [], []⟩], _, _, _, rfl, rfl, ⟨gAt (by decide) (by decide) (by omega), gPart (by decide) (by decide) (by decide) (by decide), gNum, gOne (by decide) (by decide), gOne (by decide) (by decide), trivial⟩, by simp, .full rfl⟩
end Go.Proofs.YtlhkndjloeoodaaGreat
namespace Go.Proofs.YtlhkndjloeoodaaGreat
open Go.Ev Go.Ev.Wk
variable {O : Old}
def cntM (m : PM) : Nat := 1 + m.cl.length + m.hl.length
def cntC (c : PC) : Nat := 1 + c.ifs.length + c.fl.length + (c.ml.map cntM).sum
def cntA (cl : List PC) : Nat := (cl.map cntC).sum
structure Adds (k : Nat) (w w' : WS) : Prop where
  b : w'.1.length ≤ w.1.length + 60 * k
  t : w'.2.length ≤ w.2.length + 3 * k
  s : (∀ t ∈ w.2, t.length ≤ 1000) → ∀ t ∈ w'.2, t.length ≤ 1000
theorem Adds.refl (w : WS) : Adds 0 w w := ⟨by omega, by omega, fun h => h⟩
theorem Adds.trans {j k n : Nat} {a b c : WS} (h : Adds j a b) (h' : Adds k b c) (e : j + k = n) : Adds n a c :=
  ⟨by have := h.b; have := h'.b; omega, by have := h.t; have := h'.t; omega, fun hs => h'.s (h.s hs)⟩
theorem putT_len (ts : List (List UInt8)) (s : List UInt8) : (putT ts s).length ≤ ts.length + 1 := by
  unfold putT; split <;> simp
theorem mem_putT {ts : List (List UInt8)} {s x : List UInt8} (h : x ∈ putT ts s) : x ∈ ts ∨ x = s := by
  unfold putT at h
  split at h
  · exact .inl h
  · simpa using h
structure AddsX (i j : Nat) (w w' : WS) : Prop where
  b : w'.1.length ≤ w.1.length + i
  t : w'.2.length ≤ w.2.length + j
  s : (∀ t ∈ w.2, t.length ≤ 1000) → ∀ t ∈ w'.2, t.length ≤ 1000
theorem AddsX.trans {i j k l : Nat} {a b c : WS} (h : AddsX i j a b) (h' : AddsX k l b c) : AddsX (i + k) (j + l) a c :=
  ⟨by have := h.b; have := h'.b; omega, by have := h.t; have := h'.t; omega, fun hs => h'.s (h.s hs)⟩
theorem AddsX.to {i j k : Nat} {a b : WS} (h : AddsX i j a b) (h1 : i ≤ 60 * k) (h2 : j ≤ 3 * k) : Adds k a b :=
  ⟨by have := h.b; omega, by have := h.t; omega, h.s⟩
theorem Adds.x {k : Nat} {a b : WS} (h : Adds k a b) : AddsX (60 * k) (3 * k) a b := ⟨h.b, h.t, h.s⟩
theorem AddsX.refl (w : WS) : AddsX 0 0 w w := ⟨by omega, by omega, fun h => h⟩
theorem AddsX.mono {i j i' j' : Nat} {a b : WS} (h : AddsX i j a b) (h1 : i ≤ i') (h2 : j ≤ j') : AddsX i' j' a b := ⟨by have := h.b; omega, by have := h.t; omega, h.s⟩
theorem adds_num (ns : List Int) (w : WS) (h : ∀ x ∈ ns, x ≤ 9223372036854775807) : AddsX (9 * ns.length) 0 w (wNum ns w) :=
  ⟨by have := encL_len ns h; simp only [wNum, List.length_append]; omega, by simp [wNum], fun hs => hs⟩
theorem adds_text1 (w : WS) (s : List UInt8) (h : s.length ≤ 1000) : AddsX 2 1 w (wText1 w s) :=
  ⟨by simp [wText1, twoB], putT_len _ _, fun hs t ht => by
    rcases mem_putT ht with h1 | rfl
    · exact hs t h1
    · exact h⟩
theorem adds_text : ∀ (ss : List (List UInt8)) (w : WS), (∀ s ∈ ss, s.length ≤ 1000) → AddsX (2 * ss.length) ss.length w (wText ss w)
  | [], w, _ => AddsX.refl w
  | s :: ss, w, h => by
    have := (adds_text1 w s (h s (by simp))).trans (adds_text ss (wText1 w s) fun x hx => h x (by simp [hx]))
    exact this.mono (by simp only [List.length_cons]; omega) (by simp only [List.length_cons]; omega)
theorem adds_fold {α : Type} {f : WS → α → WS} {m : α → Nat} : ∀ (l : List α) (w : WS), (∀ x ∈ l, ∀ w, Adds (m x) w (f w x)) → Adds ((l.map m).sum) w (l.foldl f w)
  | [], w, _ => Adds.refl w
  | x :: l, w, h => (h x (by simp) w).trans (adds_fold l (f w x) fun y hy => h y (by simp [hy])) (by simp)
theorem sum_one {α : Type} : ∀ l : List α, (l.map fun _ => 1).sum = l.length
  | [] => rfl
  | _ :: l => by simp only [List.map_cons, List.sum_cons, sum_one l, List.length_cons]; omega
theorem zig_le {x : Int} (h : -2147483648 ≤ x ∧ x ≤ 2147483647) : (zig x).toNat ≤ 4294967295 := by unfold zig; split <;> omega
theorem adds_ins {i : Ins} (hr : rightI i = true) (hw : WfI i) (w : WS) : Adds 1 w (wIns w i) := by
  have hop : 1 ≤ i.op ∧ i.op ≤ 43 ∧ 0 ≤ i.k ∧ i.k ≤ 2000 := by
    unfold rightI at hr
    simp only [Bool.and_eq_true, decide_eq_true_eq] at hr
    omega
  have h1 := adds_num [i.op] w (fun x hx => by cases List.mem_singleton.1 hx; omega)
  unfold wIns wInsB
  have hi : ∀ w, AddsX 9 0 w (wInt i.n w) := fun w => ⟨by have := enc_len9 (n := (zig i.n).toNat) (by have := zig_le hw.n; omega); simp only [wInt, List.length_append]; omega, by simp [wInt], fun hs => hs⟩
  have hs := hw.s; have hc := hw.cl; have hn := hw.nm; have hd := hw.ds
  split
  · exact (h1.trans (hi _)).to (by simp) (by simp)
  split
  · exact (h1.trans (adds_text [i.s] _ (by simp; omega))).to (by simp) (by simp)
  split
  · exact (h1.trans (adds_num [i.k] _ (by simp; omega))).to (by simp) (by simp)
  split
  · exact (h1.trans (adds_text [i.cl, i.nm] _ (by simp; omega))).to (by simp) (by simp)
  split
  · exact (h1.trans (adds_text [i.cl, i.nm, i.ds] _ (by simp; omega))).to (by simp) (by simp)
  split
  · exact (h1.trans (adds_text [i.cl] _ (by simp; omega))).to (by simp) (by simp)
  exact h1.to (by simp) (by simp)
theorem adds_han {h : HV} (hr : rightH h = true) (w : WS) : Adds 1 w (wHan w h) := by
  simp only [rightH, Bool.and_eq_true, withinB_iff] at hr
  have := nameL_len hr.2
  exact ((adds_num [h.fr, h.to, h.at_] w (by simp; omega)).trans (adds_text [h.ct] _ (by simp; omega))).to (by simp) (by simp)
theorem ofL_len {l : List (Int × List UInt8)} {k : Int} {cl : List UInt8} (h1 : l.length ≤ 8) (h2 : ∀ p ∈ l, typedB p = true) (h3 : cl.length ≤ 64) : (ofL l k cl).length ≤ 1000 := by
  have h4 := ofP_len (B := 64) (fun x hx => typed_len (h2 x hx)) l.length (Nat.le_refl _)
  have h5 := typeL_len k cl
  have h6 : l.length * (64 + 2) ≤ 8 * 66 := Nat.mul_le_mul_right 66 h1
  rw [ofL, List.length_append, List.length_append]
  simp only [List.length_cons, List.length_nil]
  omega
theorem adds_meth {m : PM} (hr : RtM m) (hw : WfM m) (w : WS) : Adds (cntM m) w (wMeth w m) := by
  have hb : ∀ b : Bool, bitZ b ≤ 1 := fun b => by cases b <;> decide
  have b1 := hb m.st
  have b2 := hb m.ab
  have hlo := hr.lo
  have hc := hr.cln
  have hh := hr.hln
  have h1 := adds_text [m.nm, ofL m.ps m.rk m.rc] w (by simp; exact ⟨hw.nm, ofL_len hr.psn hr.ps (rightL_len hr.rt)⟩)
  have h2 := adds_num [bitZ m.st + 2 * bitZ m.ab, m.lo, (m.cl.length : Int)] (wText [m.nm, ofL m.ps m.rk m.rc] w) (by simp; omega)
  have h3 := adds_fold (f := wIns) (m := fun _ => 1) m.cl (wNum [bitZ m.st + 2 * bitZ m.ab, m.lo, (m.cl.length : Int)] (wText [m.nm, ofL m.ps m.rk m.rc] w)) (fun x hx w => adds_ins (hr.cl x hx) (hw.cl x hx) w)
  have h4 := adds_num [(m.hl.length : Int)] (m.cl.foldl wIns (wNum [bitZ m.st + 2 * bitZ m.ab, m.lo, (m.cl.length : Int)] (wText [m.nm, ofL m.ps m.rk m.rc] w))) (by simp; omega)
  have h5 := adds_fold (f := wHan) (m := fun _ => 1) m.hl (wNum [(m.hl.length : Int)] (m.cl.foldl wIns (wNum [bitZ m.st + 2 * bitZ m.ab, m.lo, (m.cl.length : Int)] (wText [m.nm, ofL m.ps m.rk m.rc] w)))) (fun x hx w => adds_han (hr.hl x hx) w)
  rw [sum_one] at h3 h5
  have := (((h1.trans h2).trans h3.x).trans h4).trans h5.x
  refine this.to ?_ ?_ <;> simp [cntM] <;> omega
theorem adds_field {f : FV} (hr : rightF f = true) (w : WS) : Adds 1 w (wField w f) := by
  simp only [rightF, Bool.and_eq_true] at hr
  have h1 := nameL_len hr.1
  have h2 : f.tc.length ≤ 64 := typed_len hr.2
  have h3 := typeL_len f.tk f.tc
  have hb : bitZ f.st ≤ 1 := by cases f.st <;> decide
  exact ((adds_text [f.nm, typeL f.tk f.tc] w (by simp; omega)).trans (adds_num [bitZ f.st] _ (by simp; omega))).to (by simp) (by simp)
theorem adds_cls {c : PC} (hr : RtC c) (hw : WfC c) (w : WS) : Adds (cntC c) w (wCls w c) := by
  have hkd := hr.kd
  have h0 := hr.ifn; have h0' := hr.fln; have h0'' := hr.mln
  have h1 := adds_text [c.nm, c.su] w (by simp; exact ⟨hw.nm, hw.su⟩)
  generalize hw1 : wText [c.nm, c.su] w = w1 at h1
  have h2 := adds_num [(c.ifs.length : Int)] w1 (by simp; omega)
  generalize hw2 : wNum [(c.ifs.length : Int)] w1 = w2 at h2
  have h3 := adds_text c.ifs w2 hw.ifs
  generalize hw3 : wText c.ifs w2 = w3 at h3
  have h4 := adds_num [c.kd, (c.fl.length : Int)] w3 (by simp; omega)
  generalize hw4 : wNum [c.kd, (c.fl.length : Int)] w3 = w4 at h4
  have h5 := adds_fold (f := wField) (m := fun _ => 1) c.fl w4 (fun x hx w => adds_field (hr.fl x hx) w)
  generalize hw5 : c.fl.foldl wField w4 = w5 at h5
  have h6 := adds_num [(c.ml.length : Int)] w5 (by simp; omega)
  generalize hw6 : wNum [(c.ml.length : Int)] w5 = w6 at h6
  have h7 := adds_fold (f := wMeth) (m := cntM) c.ml w6 (fun x hx w => adds_meth (hr.ml x hx) (hw.ml x hx) w)
  rw [sum_one] at h5
  have e : wCls w c = c.ml.foldl wMeth w6 := by rw [← hw6, ← hw5, ← hw4, ← hw3, ← hw2, ← hw1]; rfl
  rw [e]
  have := (((((h1.trans h2).trans h3).trans h4).trans h5.x).trans h6).trans h7.x
  refine this.to ?_ ?_ <;> simp [cntC] <;> omega
theorem adds_arc {cl : List PC} (hr : rightCs cl = true) (hw : ∀ c ∈ cl, WfC c) : (wArc cl).1.length ≤ 9 + 60 * cntA cl ∧ (wArc cl).2.length ≤ 3 * cntA cl ∧ ∀ t ∈ (wArc cl).2, t.length ≤ 1000 := by
  simp only [rightCs, allB_iff] at hr
  have h1 := adds_num [(cl.length : Int)] ([], []) (by simp; omega)
  have h2 := adds_fold (f := wCls) (m := cntC) cl (wNum [(cl.length : Int)] ([], [])) (fun x hx w => adds_cls (rightC_iff.1 (hr.2 x hx)) (hw x hx) w)
  have h := h1.trans h2.x
  have hb := h.b
  have ht := h.t
  simp only [List.length_nil, List.length_cons] at hb ht
  refine ⟨?_, ?_, h.s (by simp)⟩
  · show (cl.foldl wCls _).1.length ≤ _; unfold cntA; omega
  · show (cl.foldl wCls _).2.length ≤ _; unfold cntA; omega
theorem room_arc {cl : List PC} (hr : rightCs cl = true) (hw : ∀ c ∈ cl, WfC c) (hc : cntA cl ≤ 1400000) : Room (wArc cl) := by
  obtain ⟨h1, h2, -⟩ := adds_arc hr hw
  exact ⟨by omega, by omega⟩
theorem textsB_le : ∀ {ts : List (List UInt8)}, (∀ s ∈ ts, s.length ≤ 1000) → (textsB ts).length ≤ 1009 * ts.length
  | [], _ => by simp [textsB]
  | s :: ts, h => by
    have h1 := h s (by simp)
    have h2 := textsB_le (ts := ts) fun x hx => h x (by simp [hx])
    have h3 := enc_len9 (n := s.length) (by omega)
    simp only [textsB, List.length_append, List.length_cons]
    omega
theorem texts_arc {cl : List PC} (hr : rightA cl = true) (hw : ∀ c ∈ cl, WfC c) : (textsB (wArc cl).2).length ≤ 90000000 := by
  simp only [rightA, Bool.and_eq_true, decide_eq_true_eq] at hr
  have h1 := textsB_le (adds_arc hr.1 hw).2.2
  omega
theorem pBind_ok {α β : Type} {p : Pr α} {f : α → Pr β} {l l' : List UInt8} {y : β} (h : pBind p f l = .ok (y, l')) : ∃ x l1, p l = .ok (x, l1) ∧ f x l1 = .ok (y, l') := by
  unfold pBind at h
  cases hp : p l with
  | error e => rw [hp] at h; cases h
  | ok q => rw [hp] at h; exact ⟨q.1, q.2, rfl, h⟩
theorem pRet_ok {α : Type} {x y : α} {l l' : List UInt8} (h : pRet x l = .ok (y, l')) : y = x ∧ l' = l := by
  unfold pRet at h; cases h; exact ⟨rfl, rfl⟩
theorem pNum_ok {most x : Int} {l l' : List UInt8} (h : pNum most l = .ok (x, l')) : l'.length + 1 ≤ l.length ∧ 0 ≤ x ∧ x ≤ max most 0 := by
  unfold pNum at h
  split at h
  · cases h
  · rename_i he
    cases h
    rcases numR_cases l most with ⟨x, k, h1, h2, h3, h4⟩ | ⟨e, h1, h2, h3⟩
    · rw [h1]; simp only [Int.toNat_natCast, List.length_drop]; omega
    · rw [h3] at he; simp at he; omega
theorem pInt_ok {x : Int} {l l' : List UInt8} (h : pInt l = .ok (x, l')) : l'.length + 1 ≤ l.length := by
  unfold pInt at h
  split at h
  · cases h
  · rename_i he
    cases h
    rcases numR_cases l 4294967295 with ⟨x, k, h1, h2, h3, h4⟩ | ⟨e, h1, h2, h3⟩
    · rw [h1]; simp only [Int.toNat_natCast, List.length_drop]; omega
    · rw [h3] at he; simp at he; omega
theorem pText_ok {ts : List (List UInt8)} {x : List UInt8} {l l' : List UInt8} (h : pText ts l = .ok (x, l')) : l'.length + 1 ≤ l.length := by
  unfold pText at h
  split at h
  · cases h
  · rename_i he
    split at h
    · cases h
      match l with
      | [] => simp [twoR] at he
      | [_] => simp [twoR] at he
      | _ :: _ :: l => simp
    · cases h
theorem pRep_ok {α : Type} {p : Pr α} {m : α → Nat} (hp : ∀ l x l', p l = .ok (x, l') → l'.length + m x ≤ l.length) : ∀ {n : Nat} {l l' : List UInt8} {xs : List α}, pRep p n l = .ok (xs, l') → l'.length + (xs.map m).sum ≤ l.length
  | 0, l, l', xs, h => by obtain ⟨rfl, rfl⟩ := pRet_ok h; simp
  | n + 1, l, l', xs, h => by
    obtain ⟨x, l1, h1, h2⟩ := pBind_ok h
    obtain ⟨ys, l2, h3, h4⟩ := pBind_ok h2
    obtain ⟨rfl, rfl⟩ := pRet_ok h4
    have := hp _ _ _ h1
    have := pRep_ok hp h3
    simp only [List.map_cons, List.sum_cons]
    omega
theorem pList_ok {α : Type} {p : Pr α} {m : α → Nat} {most : Int} (hp : ∀ l x l', p l = .ok (x, l') → l'.length + m x ≤ l.length) {l l' : List UInt8} {xs : List α} (h : pList most p l = .ok (xs, l')) : l'.length + (xs.map m).sum ≤ l.length := by
  obtain ⟨x, l1, h1, h2⟩ := pBind_ok h
  have := pNum_ok h1
  have := pRep_ok hp h2
  omega
theorem pIns_ok {ts : List (List UInt8)} {x : Ins} {l l' : List UInt8} (h : pIns ts l = .ok (x, l')) : l'.length + 1 ≤ l.length := by
  obtain ⟨o, l1, h1, h2⟩ := pBind_ok h
  have g1 := pNum_ok h1
  have key : l'.length ≤ l1.length := by
    split at h2
    · obtain ⟨_, l2, h3, h4⟩ := pBind_ok h2; obtain ⟨-, rfl⟩ := pRet_ok h4; have := pInt_ok h3; omega
    split at h2
    · obtain ⟨_, l2, h3, h4⟩ := pBind_ok h2; obtain ⟨-, rfl⟩ := pRet_ok h4; have := pText_ok h3; omega
    split at h2
    · obtain ⟨_, l2, h3, h4⟩ := pBind_ok h2; obtain ⟨-, rfl⟩ := pRet_ok h4; have := pNum_ok h3; omega
    split at h2
    · obtain ⟨_, l2, h3, h4⟩ := pBind_ok h2; obtain ⟨_, l3, h5, h6⟩ := pBind_ok h4; obtain ⟨-, rfl⟩ := pRet_ok h6; have := pText_ok h3; have := pText_ok h5; omega
    split at h2
    · obtain ⟨_, l2, h3, h4⟩ := pBind_ok h2; obtain ⟨_, l3, h5, h6⟩ := pBind_ok h4; obtain ⟨_, l4, h7, h8⟩ := pBind_ok h6; obtain ⟨-, rfl⟩ := pRet_ok h8; have := pText_ok h3; have := pText_ok h5; have := pText_ok h7; omega
    split at h2
    · obtain ⟨_, l2, h3, h4⟩ := pBind_ok h2; obtain ⟨-, rfl⟩ := pRet_ok h4; have := pText_ok h3; omega
    obtain ⟨-, rfl⟩ := pRet_ok h2; omega
  omega
theorem pHan_ok {ts : List (List UInt8)} {x : HV} {l l' : List UInt8} (h : pHan ts l = .ok (x, l')) : l'.length + 1 ≤ l.length := by
  obtain ⟨_, l1, h1, h⟩ := pBind_ok h
  obtain ⟨_, l2, h2, h⟩ := pBind_ok h
  obtain ⟨_, l3, h3, h⟩ := pBind_ok h
  obtain ⟨_, l4, h4, h⟩ := pBind_ok h
  obtain ⟨-, rfl⟩ := pRet_ok h
  have := pNum_ok h1; have := pNum_ok h2; have := pNum_ok h3; have := pText_ok h4
  omega
theorem pField_ok {ts : List (List UInt8)} {x : FV} {l l' : List UInt8} (h : pField ts l = .ok (x, l')) : l'.length + 1 ≤ l.length := by
  obtain ⟨_, l1, h1, h⟩ := pBind_ok h
  obtain ⟨_, l2, h2, h⟩ := pBind_ok h
  obtain ⟨_, l3, h3, h⟩ := pBind_ok h
  obtain ⟨-, rfl⟩ := pRet_ok h
  have := pText_ok h1; have := pText_ok h2; have := pNum_ok h3
  omega
theorem pMeth_ok {ts : List (List UInt8)} {x : PM} {l l' : List UInt8} (h : pMeth ts l = .ok (x, l')) : l'.length + cntM x ≤ l.length := by
  obtain ⟨_, l1, h1, h⟩ := pBind_ok h
  obtain ⟨_, l2, h2, h⟩ := pBind_ok h
  obtain ⟨_, l3, h3, h⟩ := pBind_ok h
  obtain ⟨_, l4, h4, h⟩ := pBind_ok h
  obtain ⟨cl, l5, h5, h⟩ := pBind_ok h
  obtain ⟨hl, l6, h6, h⟩ := pBind_ok h
  obtain ⟨rfl, rfl⟩ := pRet_ok h
  have := pText_ok h1; have := pText_ok h2; have := pNum_ok h3; have := pNum_ok h4
  have g5 := pList_ok (m := fun _ => 1) (fun _ _ _ h => pIns_ok h) h5
  have g6 := pList_ok (m := fun _ => 1) (fun _ _ _ h => pHan_ok h) h6
  rw [sum_one] at g5 g6
  simp only [cntM]
  omega
theorem pCls_ok {ts : List (List UInt8)} {x : PC} {l l' : List UInt8} (h : pCls ts l = .ok (x, l')) : l'.length + cntC x ≤ l.length := by
  obtain ⟨_, l1, h1, h⟩ := pBind_ok h
  obtain ⟨_, l2, h2, h⟩ := pBind_ok h
  obtain ⟨ifs, l3, h3, h⟩ := pBind_ok h
  obtain ⟨_, l4, h4, h⟩ := pBind_ok h
  obtain ⟨fl, l5, h5, h⟩ := pBind_ok h
  obtain ⟨ml, l6, h6, h⟩ := pBind_ok h
  obtain ⟨rfl, rfl⟩ := pRet_ok h
  have := pText_ok h1; have := pText_ok h2; have := pNum_ok h4
  have g3 := pList_ok (m := fun _ => 1) (fun _ _ _ h => pText_ok h) h3
  have g5 := pList_ok (m := fun _ => 1) (fun _ _ _ h => pField_ok h) h5
  have g6 := pList_ok (m := cntM) (fun _ _ _ h => pMeth_ok h) h6
  rw [sum_one] at g3 g5
  simp only [cntC]
  omega
theorem pArc_ok {ts : List (List UInt8)} {x : List PC} {l l' : List UInt8} (h : pArc ts l = .ok (x, l')) : l'.length + cntA x ≤ l.length := pList_ok (m := cntC) (fun _ _ _ h => pCls_ok h) h
end Go.Proofs.YtlhkndjloeoodaaGreat
