/-
  Walks: the class 'Util'.
-/
import Derived.Test.YthifbkjkiijkoaaSeat2
namespace Go.Proofs.Ythifbkjkiijkoaa
open Go.Ev Go.Ev.Wk
set_option linter.unusedVariables false
set_option linter.unusedSimpArgs false
variable {O : Old}



set_option maxHeartbeats 32000000 in
set_option maxRecDepth 100000 in
theorem seatUtil_ok {H : Heap} {n : Int} : CallC TT O 48 [.int .u8 n] H fun v H' => (∃ (fa : Option Addr) (fN fc : Nat) (ma : Option Addr) (mN mc : Nat), v = .agg #[str [85, 116, 105, 108], str [79, 98, 106, 101, 99, 116], .slice none 0 0, .int .i64 1, .slice fa fN fc, .slice ma mN mc]) ∧ Ext H H' := by
  refine call_exM rfl rfl rfl rfl rfl ?_
  repeat (first | refine zr ?_ | (refine zn ?_; intro _) | refine ops_step rfl rfl rfl (step_call_pure rfl rfl rfl (fun H hs => by first | exact seatTyp_ok | exact seatRef_ok | exact seatOne_ok | exact seatNum_ok | exact seatStr_ok | exact seatAt_ok | exact seatOf_ok | exact seatPart_ok | exact seatCall_ok) ?_))
  refine ops_step rfl rfl rfl (step_call_pure rfl rfl rfl (fun H hs => seatMethod_ok) ?_)
  refine OpsS.pick [0, 2, 3, 4, 18] [false, true, false, false, true] rfl rfl ?_
  repeat (first | refine zr ?_ | (refine zn ?_; intro _) | refine ops_step rfl rfl rfl (step_call_pure rfl rfl rfl (fun H hs => by first | exact seatTyp_ok | exact seatRef_ok | exact seatOne_ok | exact seatNum_ok | exact seatStr_ok | exact seatAt_ok | exact seatOf_ok | exact seatPart_ok | exact seatCall_ok) ?_))
  refine ops_step rfl rfl rfl (step_call_pure rfl rfl rfl (fun H hs => seatMethod_ok) ?_)
  refine OpsS.pick [0, 2, 3, 4, 18, 28] [false, true, true] rfl rfl ?_
  repeat (first | refine zr ?_ | (refine zn ?_; intro _) | refine ops_step rfl rfl rfl (step_call_pure rfl rfl rfl (fun H hs => by first | exact seatTyp_ok | exact seatRef_ok | exact seatOne_ok | exact seatNum_ok | exact seatStr_ok | exact seatAt_ok | exact seatOf_ok | exact seatPart_ok | exact seatCall_ok) ?_))
  refine ops_step rfl rfl rfl (step_call_pure rfl rfl rfl (fun H hs => seatMethod_ok) ?_)
  refine OpsS.pick [0, 2, 3, 4, 18, 28, 37] [false, true, true] rfl rfl ?_
  repeat (first | refine zr ?_ | (refine zn ?_; intro _) | refine ops_step rfl rfl rfl (step_call_pure rfl rfl rfl (fun H hs => by first | exact seatTyp_ok | exact seatRef_ok | exact seatOne_ok | exact seatNum_ok | exact seatStr_ok | exact seatAt_ok | exact seatOf_ok | exact seatPart_ok | exact seatCall_ok) ?_))
  refine ops_step rfl rfl rfl (step_call_pure rfl rfl rfl (fun H hs => seatMethod_ok) ?_)
  refine OpsS.pick [0, 2, 3, 4, 18, 28, 37, 54] [false, true, true] rfl rfl ?_
  repeat (first | refine zr ?_ | (refine zn ?_; intro _) | refine ops_step rfl rfl rfl (step_call_pure rfl rfl rfl (fun H hs => by first | exact seatTyp_ok | exact seatRef_ok | exact seatOne_ok | exact seatNum_ok | exact seatStr_ok | exact seatAt_ok | exact seatOf_ok | exact seatPart_ok | exact seatCall_ok) ?_))
  refine ops_step rfl rfl rfl (step_call_pure rfl rfl rfl (fun H hs => seatMethod_ok) ?_)
  refine OpsS.pick [0, 2, 3, 4, 18, 28, 37, 54, 61] [false, false, true, true] rfl rfl ?_
  repeat (first | refine zr ?_ | (refine zn ?_; intro _) | refine ops_step rfl rfl rfl (step_call_pure rfl rfl rfl (fun H hs => by first | exact seatTyp_ok | exact seatRef_ok | exact seatOne_ok | exact seatNum_ok | exact seatStr_ok | exact seatAt_ok | exact seatOf_ok | exact seatPart_ok | exact seatCall_ok) ?_))
  refine ops_step rfl rfl rfl (step_call_pure rfl rfl rfl (fun H hs => seatMethod_ok) ?_)
  refine OpsS.pick [0, 2, 3, 4, 18, 28, 37, 54, 61, 68] [false, false, true, true] rfl rfl ?_
  repeat (first | refine zr ?_ | (refine zn ?_; intro _) | refine ops_step rfl rfl rfl (step_call_pure rfl rfl rfl (fun H hs => by first | exact seatTyp_ok | exact seatRef_ok | exact seatOne_ok | exact seatNum_ok | exact seatStr_ok | exact seatAt_ok | exact seatOf_ok | exact seatPart_ok | exact seatCall_ok) ?_))
  refine ops_step rfl rfl rfl (step_call_pure rfl rfl rfl (fun H hs => seatMethod_ok) ?_)
  refine OpsS.pick [0, 2, 3, 4, 18, 28, 37, 54, 61, 68, 73] [false, true, true] rfl rfl ?_
  repeat (first | refine zr ?_ | (refine zn ?_; intro _) | refine ops_step rfl rfl rfl (step_call_pure rfl rfl rfl (fun H hs => by first | exact seatTyp_ok | exact seatRef_ok | exact seatOne_ok | exact seatNum_ok | exact seatStr_ok | exact seatAt_ok | exact seatOf_ok | exact seatPart_ok | exact seatCall_ok) ?_))
  refine ops_step rfl rfl rfl (step_call_pure rfl rfl rfl (fun H hs => seatMethod_ok) ?_)
  refine OpsS.pick [0, 2, 3, 4, 18, 28, 37, 54, 61, 68, 73, 79] [false, true, true] rfl rfl ?_
  repeat (first | refine zr ?_ | (refine zn ?_; intro _) | refine ops_step rfl rfl rfl (step_call_pure rfl rfl rfl (fun H hs => by first | exact seatTyp_ok | exact seatRef_ok | exact seatOne_ok | exact seatNum_ok | exact seatStr_ok | exact seatAt_ok | exact seatOf_ok | exact seatPart_ok | exact seatCall_ok) ?_))
  refine ops_step rfl rfl rfl (step_call_pure rfl rfl rfl (fun H hs => seatMethod_ok) ?_)
  refine OpsS.pick [0, 2, 3, 4, 18, 28, 37, 54, 61, 68, 73, 79, 86] [false, true, true] rfl rfl ?_
  repeat (first | refine zr ?_ | (refine zn ?_; intro _) | refine ops_step rfl rfl rfl (step_call_pure rfl rfl rfl (fun H hs => by first | exact seatTyp_ok | exact seatRef_ok | exact seatOne_ok | exact seatNum_ok | exact seatStr_ok | exact seatAt_ok | exact seatOf_ok | exact seatPart_ok | exact seatCall_ok) ?_))
  refine exec_draw (lst := [(0, 0), (1, 1), (2, 0), (3, 4), (4, 12), (5, 28), (6, 60), (7, 124), (8, 252), (9, 511), (10, 1023), (11, 2047)]) (full := 4095) (by kernel_rfl) (by kernel_rfl) (by kernel_rfl) (by kernel_rfl) ?_
  repeat (first | refine zd ?_ | refine draw_w rfl rfl rfl rfl rfl rfl (step_call_pure rfl rfl rfl (fun H hs => by first | exact seatTyp_ok | exact seatRef_ok | exact seatOne_ok | exact seatNum_ok | exact seatStr_ok | exact seatAt_ok | exact seatOf_ok | exact seatPart_ok | exact seatCall_ok) (zst ?_)) | refine draw_a rfl rfl rfl rfl rfl (step_buildSliceF rfl rfl rfl rfl rfl rfl (fun _ => (zst ?_))) | refine draw_a rfl rfl rfl rfl rfl (step_alloc rfl rfl rfl rfl (fun _ => (zst ?_))))
  try refine draw_nil ?_
  refine draw_w rfl rfl rfl rfl rfl rfl (step_storeZ 1 rfl rfl rfl rfl rfl rfl rfl rfl rfl (zst ?_))
  refine draw_nil ?_
  refine ExecS.pick [0, 2, 4] [false, true, true, true] rfl rfl ?_
  repeat (first | refine zr ?_ | (refine zn ?_; intro _))
  refine exec_cond rfl (fun _ => ?_) (fun _ => ?_)
  · repeat (first | refine zr ?_ | (refine zn ?_; intro _))
    refine exec_draw (lst := [(0, 0), (1, 1), (2, 0), (3, 4), (4, 12), (5, 28), (6, 60), (7, 127), (8, 255), (9, 511)]) (full := 1023) (by kernel_rfl) (by kernel_rfl) (by kernel_rfl) (by kernel_rfl) ?_
    repeat (first | refine zd ?_ | refine draw_w rfl rfl rfl rfl rfl rfl (step_call_pure rfl rfl rfl (fun H hs => by first | exact seatTyp_ok | exact seatRef_ok | exact seatOne_ok | exact seatNum_ok | exact seatStr_ok | exact seatAt_ok | exact seatOf_ok | exact seatPart_ok | exact seatCall_ok) (zst ?_)) | refine draw_a rfl rfl rfl rfl rfl (step_buildSliceF rfl rfl rfl rfl rfl rfl (fun _ => (zst ?_))) | refine draw_a rfl rfl rfl rfl rfl (step_alloc rfl rfl rfl rfl (fun _ => (zst ?_))))
    try refine draw_nil ?_
    refine draw_w rfl rfl rfl rfl rfl rfl (step_storeZ 1 rfl rfl rfl rfl rfl rfl rfl rfl rfl (zst ?_))
    refine draw_nil ?_
    refine ExecS.pick [0, 2, 4] [false, true, true, true] rfl rfl ?_
    repeat (first | refine zr ?_ | (refine zn ?_; intro _))
    refine exec_cond rfl (fun _ => ?_) (fun _ => ?_)
    · repeat (first | refine zr ?_ | (refine zn ?_; intro _))
      refine exec_draw (lst := [(0, 0), (1, 1), (2, 0), (3, 4), (4, 15), (5, 31), (6, 63)]) (full := 127) (by kernel_rfl) (by kernel_rfl) (by kernel_rfl) (by kernel_rfl) ?_
      repeat (first | refine zd ?_)
      try refine draw_nil ?_
      refine draw_w rfl rfl rfl rfl rfl rfl (step_call_ex rfl rfl rfl (fun H hs => seatClinit_ok) (fun v h => ⟨by repeat (first | exact True.intro | refine And.intro (.inl rfl) ?_ | refine And.intro (.inr ⟨veq_refl rfl, (fun _ _ => rfl)⟩) ?_ | refine And.intro (.inr ⟨veq_refl rfl, (look_own 0 rfl rfl rfl rfl)⟩) ?_ | refine And.intro (.inr ⟨veq_refl rfl, (look_own 1 rfl rfl rfl rfl)⟩) ?_ | refine And.intro (.inr ⟨veq_refl rfl, (look_own 2 rfl rfl rfl rfl)⟩) ?_), ?_⟩))
      obtain ⟨ca, cN, cc, rfl⟩ := h
      repeat (first | refine zd ?_ | refine draw_w rfl rfl rfl rfl rfl rfl (step_call_pure rfl rfl rfl (fun H hs => by first | exact seatTyp_ok | exact seatRef_ok | exact seatOne_ok | exact seatNum_ok | exact seatStr_ok | exact seatAt_ok | exact seatOf_ok | exact seatPart_ok | exact seatCall_ok) (zst ?_)) | refine draw_a rfl rfl rfl rfl rfl (step_buildSliceF rfl rfl rfl rfl rfl rfl (fun _ => (zst ?_))) | refine draw_a rfl rfl rfl rfl rfl (step_alloc rfl rfl rfl rfl (fun _ => (zst ?_))))
      try refine draw_nil ?_
      refine draw_w rfl rfl rfl rfl rfl rfl (step_append_full (z := 9) 1 rfl rfl rfl rfl rfl rfl rfl rfl rfl (fun H hs => src_own (j := 0) hs rfl rfl 1) rfl (by first | rfl | exact allCell_map (fun _ => rfl) _) (by first | rfl | (simp; done) | (simp; omega)) (by omega) (fun a2 c2 p2 sl2 => (zst ?_)))
      repeat (first | refine zd ?_)
      try refine draw_nil ?_
      refine draw_w rfl rfl rfl rfl rfl rfl (step_storeZ 3 rfl rfl rfl rfl rfl rfl rfl rfl rfl (zst ?_))
      refine draw_nil ?_
      refine ExecS.pick [2, 4] [false, false, false, true, true] rfl rfl ?_
      repeat (first | refine zr ?_ | (refine zn ?_; intro _))
      refine ⟨trivial, [_], ⟨look_agg 1 rfl rfl rfl rfl, trivial⟩, _, _, _, _, _, _, rfl⟩
    · repeat (first | refine zr ?_ | (refine zn ?_; intro _))
      refine ⟨trivial, [_], ⟨look_agg 2 rfl rfl rfl rfl, trivial⟩, _, _, _, _, _, _, rfl⟩
  · skip
    repeat (first | refine zr ?_ | (refine zn ?_; intro _))
    refine exec_cond rfl (fun _ => ?_) (fun _ => ?_)
    · repeat (first | refine zr ?_ | (refine zn ?_; intro _))
      refine exec_draw (lst := [(0, 0), (1, 1), (2, 0), (3, 4), (4, 15), (5, 31), (6, 63)]) (full := 127) (by kernel_rfl) (by kernel_rfl) (by kernel_rfl) (by kernel_rfl) ?_
      repeat (first | refine zd ?_)
      try refine draw_nil ?_
      refine draw_w rfl rfl rfl rfl rfl rfl (step_call_ex rfl rfl rfl (fun H hs => seatClinit_ok) (fun v h => ⟨by repeat (first | exact True.intro | refine And.intro (.inl rfl) ?_ | refine And.intro (.inr ⟨veq_refl rfl, (fun _ _ => rfl)⟩) ?_ | refine And.intro (.inr ⟨veq_refl rfl, (look_own 0 rfl rfl rfl rfl)⟩) ?_ | refine And.intro (.inr ⟨veq_refl rfl, (look_own 1 rfl rfl rfl rfl)⟩) ?_ | refine And.intro (.inr ⟨veq_refl rfl, (look_own 2 rfl rfl rfl rfl)⟩) ?_), ?_⟩))
      obtain ⟨ca, cN, cc, rfl⟩ := h
      repeat (first | refine zd ?_ | refine draw_w rfl rfl rfl rfl rfl rfl (step_call_pure rfl rfl rfl (fun H hs => by first | exact seatTyp_ok | exact seatRef_ok | exact seatOne_ok | exact seatNum_ok | exact seatStr_ok | exact seatAt_ok | exact seatOf_ok | exact seatPart_ok | exact seatCall_ok) (zst ?_)) | refine draw_a rfl rfl rfl rfl rfl (step_buildSliceF rfl rfl rfl rfl rfl rfl (fun _ => (zst ?_))) | refine draw_a rfl rfl rfl rfl rfl (step_alloc rfl rfl rfl rfl (fun _ => (zst ?_))))
      try refine draw_nil ?_
      refine draw_w rfl rfl rfl rfl rfl rfl (step_append_full (z := 9) 1 rfl rfl rfl rfl rfl rfl rfl rfl rfl (fun H hs => src_own (j := 0) hs rfl rfl 1) rfl (by first | rfl | exact allCell_map (fun _ => rfl) _) (by first | rfl | (simp; done) | (simp; omega)) (by omega) (fun a2 c2 p2 sl2 => (zst ?_)))
      repeat (first | refine zd ?_)
      try refine draw_nil ?_
      refine draw_w rfl rfl rfl rfl rfl rfl (step_storeZ 3 rfl rfl rfl rfl rfl rfl rfl rfl rfl (zst ?_))
      refine draw_nil ?_
      refine ExecS.pick [2, 4] [false, false, false, true, true] rfl rfl ?_
      repeat (first | refine zr ?_ | (refine zn ?_; intro _))
      refine ⟨trivial, [_], ⟨look_agg 1 rfl rfl rfl rfl, trivial⟩, _, _, _, _, _, _, rfl⟩
    · repeat (first | refine zr ?_ | (refine zn ?_; intro _))
      refine ⟨trivial, [_], ⟨look_agg 2 rfl rfl rfl rfl, trivial⟩, _, _, _, _, _, _, rfl⟩
end Go.Proofs.Ythifbkjkiijkoaa

