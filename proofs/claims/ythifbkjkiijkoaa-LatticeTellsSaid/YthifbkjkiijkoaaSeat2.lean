/-
  Walks: a method 'run' of a class; the class 'Util'.
-/
import Derived.Test.YthifbkjkiijkoaaSeat1
namespace Go.Proofs.Ythifbkjkiijkoaa
open Go.Ev Go.Ev.Wk
set_option linter.unusedVariables false
set_option linter.unusedSimpArgs false
variable {O : Old}



set_option maxHeartbeats 16000000 in
set_option maxRecDepth 100000 in
theorem seatRun_ok {H : Heap} {cls : List UInt8} {n : Int} : CallC TT O 69 [str cls, .int .u8 n] H fun v H' => (∃ (ca : Option Addr) (cN cc : Nat), v = methW [114, 117, 110] none 0 0 1 [] false 1 ca cN cc) ∧ Ext H H' := by
  refine call_exM rfl rfl rfl rfl rfl ?_
  repeat (first | refine zr ?_ | (refine zn ?_; intro _) | refine ops_step rfl rfl rfl (step_call_pure rfl rfl rfl (fun H hs => by first | exact seatTyp_ok | exact seatRef_ok | exact seatOne_ok | exact seatNum_ok | exact seatStr_ok | exact seatAt_ok | exact seatOf_ok | exact seatPart_ok | exact seatCall_ok | exact seatMethod_ok) ?_))
  refine ExecS.pick [0, 1, 4, 5, 19, 20] [true, true, true] rfl rfl ?_
  refine exec_cond rfl (fun _ => ?_) (fun _ => ?_)
  · repeat (first | refine zr ?_ | (refine zn ?_; intro _))
    refine exec_draw (lst := [(0, 0), (4, 0), (5, 16), (1, 1), (2, 3), (3, 7), (6, 63), (7, 127), (8, 255)]) (full := 511) (by kernel_rfl) (by kernel_rfl) (by kernel_rfl) (by kernel_rfl) ?_
    repeat (first | refine zd ?_ | refine draw_w rfl rfl rfl rfl rfl rfl (step_call_pure rfl rfl rfl (fun H hs => by first | exact seatTyp_ok | exact seatRef_ok | exact seatOne_ok | exact seatNum_ok | exact seatStr_ok | exact seatAt_ok | exact seatOf_ok | exact seatPart_ok | exact seatCall_ok | exact seatMethod_ok) (zst ?_)) | refine draw_a rfl rfl rfl rfl rfl (step_buildSliceF rfl rfl rfl rfl rfl rfl (fun _ => (zst ?_))) | refine draw_a rfl rfl rfl rfl rfl (step_alloc rfl rfl rfl rfl (fun _ => (zst ?_))))
    try refine draw_nil ?_
    refine draw_w rfl rfl rfl rfl rfl rfl (step_append_full (z := 7) 0 rfl rfl rfl rfl rfl rfl rfl rfl rfl (fun H hs => src_own (j := 2) hs rfl rfl 5) rfl (by first | rfl | exact allCell_map (fun _ => rfl) _) (by first | rfl | (simp; done) | (simp; omega)) (by omega) (fun a2 c2 p2 sl2 => (zst ?_)))
    repeat (first | refine zd ?_ | refine draw_w rfl rfl rfl rfl rfl rfl (step_call_pure rfl rfl rfl (fun H hs => by first | exact seatTyp_ok | exact seatRef_ok | exact seatOne_ok | exact seatNum_ok | exact seatStr_ok | exact seatAt_ok | exact seatOf_ok | exact seatPart_ok | exact seatCall_ok | exact seatMethod_ok) (zst ?_)) | refine draw_a rfl rfl rfl rfl rfl (step_buildSliceF rfl rfl rfl rfl rfl rfl (fun _ => (zst ?_))) | refine draw_a rfl rfl rfl rfl rfl (step_alloc rfl rfl rfl rfl (fun _ => (zst ?_))))
    try refine draw_nil ?_
    refine draw_w rfl rfl rfl rfl rfl rfl (step_storeZ 2 rfl rfl rfl rfl rfl rfl rfl rfl rfl (zst ?_))
    repeat (first | refine zd ?_ | refine draw_w rfl rfl rfl rfl rfl rfl (step_call_pure rfl rfl rfl (fun H hs => by first | exact seatTyp_ok | exact seatRef_ok | exact seatOne_ok | exact seatNum_ok | exact seatStr_ok | exact seatAt_ok | exact seatOf_ok | exact seatPart_ok | exact seatCall_ok | exact seatMethod_ok) (zst ?_)) | refine draw_a rfl rfl rfl rfl rfl (step_buildSliceF rfl rfl rfl rfl rfl rfl (fun _ => (zst ?_))) | refine draw_a rfl rfl rfl rfl rfl (step_alloc rfl rfl rfl rfl (fun _ => (zst ?_))))
    try refine draw_nil ?_
    refine ExecS.pick [4, 5] [false, false, true, false, true] rfl rfl ?_
    repeat (first | refine zr ?_ | (refine zn ?_; intro _))
    refine ⟨trivial, [_], ⟨look_agg 1 rfl rfl rfl rfl, trivial⟩, _, _, _, rfl⟩
  · repeat (first | refine zr ?_ | (refine zn ?_; intro _))
    refine exec_cond rfl (fun _ => ?_) (fun _ => ?_)
    · repeat (first | refine zr ?_ | (refine zn ?_; intro _))
      refine exec_draw (lst := [(4, 0), (5, 16), (9, 0), (10, 512), (0, 0), (1, 1), (2, 3), (3, 7), (6, 63), (7, 127), (8, 255), (11, 2047), (12, 4095), (13, 8191)]) (full := 16383) (by kernel_rfl) (by kernel_rfl) (by kernel_rfl) (by kernel_rfl) ?_
      repeat (first | refine zd ?_ | refine draw_w rfl rfl rfl rfl rfl rfl (step_call_pure rfl rfl rfl (fun H hs => by first | exact seatTyp_ok | exact seatRef_ok | exact seatOne_ok | exact seatNum_ok | exact seatStr_ok | exact seatAt_ok | exact seatOf_ok | exact seatPart_ok | exact seatCall_ok | exact seatMethod_ok) (zst ?_)) | refine draw_a rfl rfl rfl rfl rfl (step_buildSliceF rfl rfl rfl rfl rfl rfl (fun _ => (zst ?_))) | refine draw_a rfl rfl rfl rfl rfl (step_alloc rfl rfl rfl rfl (fun _ => (zst ?_))))
      try refine draw_nil ?_
      refine draw_w rfl rfl rfl rfl rfl rfl (step_append_full (z := 7) 0 rfl rfl rfl rfl rfl rfl rfl rfl rfl (fun H hs => src_own (j := 2) hs rfl rfl 5) rfl (by first | rfl | exact allCell_map (fun _ => rfl) _) (by first | rfl | (simp; done) | (simp; omega)) (by omega) (fun a2 c2 p2 sl2 => (zst ?_)))
      repeat (first | refine zd ?_ | refine draw_w rfl rfl rfl rfl rfl rfl (step_call_pure rfl rfl rfl (fun H hs => by first | exact seatTyp_ok | exact seatRef_ok | exact seatOne_ok | exact seatNum_ok | exact seatStr_ok | exact seatAt_ok | exact seatOf_ok | exact seatPart_ok | exact seatCall_ok | exact seatMethod_ok) (zst ?_)) | refine draw_a rfl rfl rfl rfl rfl (step_buildSliceF rfl rfl rfl rfl rfl rfl (fun _ => (zst ?_))) | refine draw_a rfl rfl rfl rfl rfl (step_alloc rfl rfl rfl rfl (fun _ => (zst ?_))))
      try refine draw_nil ?_
      refine draw_w rfl rfl rfl rfl rfl rfl (step_storeZ 2 rfl rfl rfl rfl rfl rfl rfl rfl rfl (zst ?_))
      repeat (first | refine zd ?_ | refine draw_w rfl rfl rfl rfl rfl rfl (step_call_pure rfl rfl rfl (fun H hs => by first | exact seatTyp_ok | exact seatRef_ok | exact seatOne_ok | exact seatNum_ok | exact seatStr_ok | exact seatAt_ok | exact seatOf_ok | exact seatPart_ok | exact seatCall_ok | exact seatMethod_ok) (zst ?_)) | refine draw_a rfl rfl rfl rfl rfl (step_buildSliceF rfl rfl rfl rfl rfl rfl (fun _ => (zst ?_))) | refine draw_a rfl rfl rfl rfl rfl (step_alloc rfl rfl rfl rfl (fun _ => (zst ?_))))
      try refine draw_nil ?_
      refine ExecS.pick [4, 5] [false, false, true, false, true] rfl rfl ?_
      repeat (first | refine zr ?_ | (refine zn ?_; intro _))
      refine ⟨trivial, [_], ⟨look_agg 1 rfl rfl rfl rfl, trivial⟩, _, _, _, rfl⟩
    · repeat (first | refine zr ?_ | (refine zn ?_; intro _))
      refine ⟨trivial, [_], ⟨look_agg 2 rfl rfl rfl rfl, trivial⟩, _, _, _, rfl⟩
end Go.Proofs.Ythifbkjkiijkoaa

