/-
  Walks: the body of an entry, of no numbers.
-/
import Derived.Test.YthifbkjkiijkoaaSeat2
namespace Go.Proofs.Ythifbkjkiijkoaa
open Go.Ev Go.Ev.Wk
set_option linter.unusedVariables false
set_option linter.unusedSimpArgs false
variable {O : Old}



abbrev bldA (bb : Nat) (a : Option Addr) (n c : Nat) (hv : Value) : Option Nat × Cont := (some bb, .cells 0 [.slice a n c, hv] 0 105)

set_option maxHeartbeats 16000000 in
set_option maxRecDepth 100000 in
theorem seatAdd_ok {H : Heap} {bb n c m : Nat} {a : Option Addr} {l new : List Value} {p : Option Nat × Cont} {sv hv : Value} (hst : St (blksOf [bldA bb a n c hv, p]) H H [bldA bb a n c hv, p]) (own : OwnA 7 86 a n c l p) (hk : Keep (blksOf [bldA bb a n c hv, p]) H fun H' => Sl O H' sv 7 m new) (hall : new.all isCell = true) (hlen : new.length = m * 7) (hn : n + m ≤ 1000000) :
    FpC TT O 63 [ptr bb, sv] H [bldA bb a n c hv, p] fun v F' => ∃ a' c' p', F' = [bldA bb a' (n + m) c' hv, p'] ∧ OwnA 7 86 a' (n + m) c' (l ++ new) p' := by
  refine call_fp rfl rfl rfl rfl rfl hst ?_
  repeat (first | refine zr ?_ | (refine zn ?_; intro _))
  refine ops_step rfl rfl rfl (step_append 1 7 rfl rfl rfl rfl rfl rfl rfl rfl own (fun H hs => (hk.at hs).src) rfl hall hlen (by omega) (fun a2 c2 p2 own2 => ?_))
  repeat (first | refine zr ?_ | (refine zn ?_; intro _))
  exact ⟨trivial, _, rfl, [_, _], [], List.Perm.refl _, a2, c2, p2, rfl, own2⟩

set_option maxHeartbeats 32000000 in
set_option maxRecDepth 100000 in
theorem seatBody_ok {H : Heap} : CallC TT O 40 [.slice none 0 0] H fun v H' => (∃ (a : Option Addr) (n c : Nat), v = .tuple #[.slice a n c, .slice none 0 0]) ∧ Ext H H' := by
  refine call_ex rfl rfl rfl rfl rfl ?_
  refine ExecS.ghost ?_
  repeat (first | refine zr ?_ | (refine zn ?_; intro _) | refine ops_step rfl rfl rfl (step_call_pure rfl rfl rfl (fun H hs => by first | exact seatTyp_ok | exact seatRef_ok | exact seatOne_ok | exact seatNum_ok | exact seatStr_ok | exact seatAt_ok | exact seatOf_ok | exact seatPart_ok | exact seatCall_ok | exact seatMethod_ok) ?_))
  refine OpsS.reord [1, 1] rfl ?_
  refine ops_step rfl rfl rfl (step_call_fp [_, _] _ rfl rfl rfl (List.Perm.refl _) (fun H hs hst => seatAdd_ok hst (.nil _) (Rd.keep (Rd.sl (i := 0) (n := 11) rfl rfl 11) hs) rfl rfl (by omega)) (fun v F' h => ?_))
  obtain ⟨a1, c1, p1, rfl, own1⟩ := h
  rename_i bb sb
  repeat (first | refine zr ?_ | (refine zn ?_; intro _))
  refine exec_loop_step ?_
  repeat (first | refine zr ?_ | (refine zn ?_; intro _))
  repeat (first | refine zr ?_ | (refine zn ?_; intro _) | refine ops_step rfl rfl rfl (step_call_pure rfl rfl rfl (fun H hs => by first | exact seatTyp_ok | exact seatRef_ok | exact seatOne_ok | exact seatNum_ok | exact seatStr_ok | exact seatAt_ok | exact seatOf_ok | exact seatPart_ok | exact seatCall_ok | exact seatMethod_ok) ?_))
  refine OpsS.reord [1, 1] rfl ?_
  refine ops_step rfl rfl rfl (step_call_fp [_, _] _ rfl rfl rfl (List.Perm.refl _) (fun H hs hst => seatAdd_ok hst own1 (Rd.keep (Rd.sl (i := 0) (n := 1) rfl rfl 1) hs) rfl rfl (by omega)) (fun v F' h => ?_))
  obtain ⟨a2, c2, p2, rfl, own2⟩ := h
  repeat (first | refine zr ?_ | (refine zn ?_; intro _))
  refine exec_draw (lst := [(0, 0), (1, 1), (2, 3), (3, 7), (4, 0), (5, 16), (6, 48), (7, 112), (8, 15), (9, 511)]) (full := 1023) (by kernel_rfl) (by kernel_rfl) (by kernel_rfl) (by kernel_rfl) ?_
  repeat (first | refine zd ?_)
  try refine draw_nil ?_
  repeat (first | refine zr ?_ | (refine zn ?_; intro _))
  exact ⟨trivial, _, rfl, _, _, _, rfl⟩
end Go.Proofs.Ythifbkjkiijkoaa

