/-
  Walks: the statements' archives.
-/
import Derived.Test.YthifbkjkiijkoaaFam
import Derived.Test.YthifbkjkiijkoaaSeat3
import Derived.Test.YthifbkjkiijkoaaSeat4
namespace Go.Proofs.Ythifbkjkiijkoaa
open Go.Ev Go.Ev.Wk
set_option linter.unusedVariables false
set_option linter.unusedSimpArgs false
variable {O : Old}



/-- a class of which fields and methods are not known -/
abbrev CV.dim (nm su : List UInt8) (ia : Option Addr) (iN ic : Nat) (kd : Int) (fa : Option Addr) (fN fc : Nat) (ma : Option Addr) (mN mc : Nat) (ifs : List (List UInt8)) : CV := ⟨nm, su, ia, iN, ic, kd, fa, fN, fc, ma, mN, mc, ifs, false, [], []⟩

theorem dimF {H : Heap} {nm su : List UInt8} {ia : Option Addr} {iN ic : Nat} {kd : Int} {fa : Option Addr} {fN fc : Nat} {ma : Option Addr} {mN mc : Nat} {ifs : List (List UInt8)} (h : Sl O H (.slice ia iN ic) 1 iN (ifs.map str)) (hN : iN ≤ 1000000) : ClsF O H (.dim nm su ia iN ic kd fa fN fc ma mN mc ifs) :=
  ⟨h, hN, (fun e => Bool.noConfusion e), (fun e => Bool.noConfusion e)⟩

/-- what a class is, its members apart -/
structure PN (c : CV) (nm su : List UInt8) (kd : Int) (ifs : List (List UInt8)) : Prop where
  nm : c.nm = nm
  su : c.su = su
  kd : c.kd = kd
  ifs : c.ifs = ifs

/-- the other classes -/
structure Rest (c11 c12 c13 c14 c15 c16 c17 : CV) : Prop where
  h11 : PN c11 [77, 97, 105, 110] objB 1 []
  h12 : PN c12 [73] objB 4 []
  h13 : PN c13 [74] objB 4 [[73]]
  h14 : PN c14 [69, 114, 114] fauB 1 []
  h15 : PN c15 [69, 114, 114, 50] [69, 114, 114] 1 []
  h16 : PN c16 [71, 111, 110, 101] [65] 1 []
  h17 : PN c17 [85, 116, 105, 108] objB 1 []

theorem wrL_mid : ∀ (vs old a r : List Value), vs.all isCell = true → old.length = vs.length → wrL vs a.length (a ++ (old ++ r)) = some (a ++ (vs ++ r))
  | [], [], a, r, _, _ => rfl
  | [], _ :: _, _, _, _, h => by cases h
  | _ :: _, [], _, _, _, h => by cases h
  | v :: vs, o :: old, a, r, hall, hl => by
    simp only [List.all_cons, Bool.and_eq_true] at hall
    have hb : Nat.blt a.length (a ++ ((o :: old) ++ r)).length = true := Nat.ble_eq_true_of_le (by simp)
    simp only [wrL, hall.1, hb, Bool.and_self, cond_true]
    have e : (a ++ ((o :: old) ++ r)).set a.length v = (a ++ [v]) ++ (old ++ r) := by simp
    rw [e]
    have := wrL_mid vs old (a ++ [v]) r hall.2 (by simpa using hl)
    rw [List.length_append] at this
    simpa using this

theorem cells_len (cl : List CV) : (cl.flatMap CV.cells).length = cl.length * 6 := by
  induction cl with
  | nil => rfl
  | cons c l ih => rw [List.flatMap_cons, List.length_append, ih, List.length_cons]; show 6 + l.length * 6 = (l.length + 1) * 6; omega

theorem wrL_class {cl : List CV} {i : Nat} (hi : i < cl.length) (c : CV) : wrL c.cells (i * 6) (cl.flatMap CV.cells) = some ((cl.set i c).flatMap CV.cells) := by
  have e1 : cl.flatMap CV.cells = (cl.take i).flatMap CV.cells ++ (cl[i].cells ++ (cl.drop (i + 1)).flatMap CV.cells) := by
    conv => lhs; rw [← List.take_append_drop i cl, List.drop_eq_getElem_cons hi]
    simp only [List.flatMap_append, List.flatMap_cons]
  have e2 : (cl.set i c).flatMap CV.cells = (cl.take i).flatMap CV.cells ++ (c.cells ++ (cl.drop (i + 1)).flatMap CV.cells) := by
    rw [List.set_eq_take_append_cons_drop, if_pos hi]
    simp only [List.flatMap_append, List.flatMap_cons]
  rw [e1, e2]
  have := wrL_mid c.cells cl[i].cells ((cl.take i).flatMap CV.cells) ((cl.drop (i + 1)).flatMap CV.cells) rfl rfl
  rwa [cells_len, List.length_take, Nat.min_eq_left (by omega)] at this

theorem rdL_class {cl : List CV} {i : Nat} {c : CV} (h : cl[i]? = some c) : rdL (cl.flatMap CV.cells) 6 (0 + ((i : Nat) : Int).toNat * 6) = some c.cells := by
  obtain ⟨hi, rfl⟩ := List.getElem?_eq_some_iff.1 h
  have e1 : cl.flatMap CV.cells = (cl.take i).flatMap CV.cells ++ (cl[i].cells ++ (cl.drop (i + 1)).flatMap CV.cells) := by
    conv => lhs; rw [← List.take_append_drop i cl, List.drop_eq_getElem_cons hi]
    simp only [List.flatMap_append, List.flatMap_cons]
  have hl : ((cl.take i).flatMap CV.cells).length = i * 6 := by rw [cells_len, List.length_take, Nat.min_eq_left (by omega)]
  have key : ∀ (n off : Nat) (a l : List Value), rdL (a ++ l) n (a.length + off) = rdL l n off := by
    intro n
    induction n with
    | zero => intros; rfl
    | succ n ih =>
      intro off a l
      have e : (a ++ l)[a.length + off]? = l[off]? := by rw [List.getElem?_append_right (by omega)]; congr 1; omega
      simp only [rdL, e, Nat.add_assoc, ih (off + 1) a l]
  rw [e1, show 0 + ((i : Nat) : Int).toNat * 6 = ((cl.take i).flatMap CV.cells).length + 0 from by rw [hl]; omega, key]
  rfl

set_option maxHeartbeats 64000000 in
set_option maxRecDepth 100000 in
theorem seatArchive_ok {H : Heap} {k0 k1 k2 k3 : Int} (hst : St (blksOf []) H H []) (h0 : 0 ≤ k0 ∧ k0 ≤ 255) (h1 : 0 ≤ k1 ∧ k1 ≤ 255) (h2 : 0 ≤ k2 ∧ k2 ≤ 255) (h3 : 0 ≤ k3 ∧ k3 ≤ 255) :
    FpC TT O 12 [.agg #[.int .u8 k0, .int .u8 k1, .int .u8 k2, .int .u8 k3], .slice none 0 0, .slice none 0 0] H [] fun v F' => ∃ (a : Option Addr) (c : Nat) (m6 : Bool) (kd : Int) (c4 c5 c6 c7 c8 c9 c11 c12 c13 c14 c15 c16 c17 : CV) (cl : List CV), v = .agg #[.slice a 13 c] ∧ Fam m6 kd c4 c5 c6 c7 c8 c9 ∧ cl.Perm [c11, c12, c13, c4, c5, c6, c7, c8, c9, c14, c15, c16, c17] ∧ Rest c11 c12 c13 c14 c15 c16 c17 ∧ Rd F' fun H => ClsH O H (.slice a 13 c) cl := by
  refine call_fpM rfl rfl rfl rfl rfl hst ?_
  repeat (first | refine zr ?_ | (refine zn ?_; intro _) | refine ops_step rfl rfl rfl (step_call_pure rfl rfl rfl (fun H hs => by first | exact seatTyp_ok | exact seatRef_ok | exact seatOne_ok | exact seatNum_ok | exact seatStr_ok | exact seatAt_ok | exact seatOf_ok | exact seatPart_ok | exact seatCall_ok | exact seatMethod_ok) ?_))
  refine ops_step rfl rfl rfl (step_call_ex rfl rfl rfl (fun H hs => seatBody_ok) (fun v h => ?_))
  obtain ⟨ba, bn, bc, rfl⟩ := h
  repeat (first | refine zr ?_ | (refine zn ?_; intro _) | refine ops_step rfl rfl rfl (step_call_pure rfl rfl rfl (fun H hs => by first | exact seatTyp_ok | exact seatRef_ok | exact seatOne_ok | exact seatNum_ok | exact seatStr_ok | exact seatAt_ok | exact seatOf_ok | exact seatPart_ok | exact seatCall_ok | exact seatMethod_ok) ?_))
  refine ops_step rfl rfl rfl (step_call_ex rfl rfl rfl (fun H hs => seatBody_ok) (fun v h => ?_))
  obtain ⟨da, dn, dc, rfl⟩ := h
  repeat (first | refine zr ?_ | (refine zn ?_; intro _) | refine ops_step rfl rfl rfl (step_call_pure rfl rfl rfl (fun H hs => by first | exact seatTyp_ok | exact seatRef_ok | exact seatOne_ok | exact seatNum_ok | exact seatStr_ok | exact seatAt_ok | exact seatOf_ok | exact seatPart_ok | exact seatCall_ok | exact seatMethod_ok) ?_))
  rename_i kb rb mb b11
  refine ExecS.weak (pickE_sub (ks := [3, 6, 11, 43]) rfl) (List.Sublist.refl _) ?_
  refine exec_mid (fun E L => SubE [(3, ptr kb), (6, ptr rb), (11, ptr b11)] E ∧ ∃ (ma : Option Addr) (mN mc : Nat), ((some b11, .cells 0 [str [77, 97, 105, 110], str objB, .slice none 0 0, .int .i64 1, .slice none 0 0, .slice ma mN mc] 0 70) :: (some rb, .cells 0 [.slice none 0 0] 0 28) :: (some kb, .cells 0 [.int .u8 k0, .int .u8 k1, .int .u8 k2, .int .u8 k3] 0 22) :: []).Sublist L) ?_ ?_
  · refine exec_cond rfl (fun _ => ?_) (fun _ => ?_)
    · refine exec_draw (lst := [(0, 0), (1, 1), (2, 0), (3, 4), (4, 15), (5, 31), (6, 63)]) (full := 127) (by kernel_rfl) (by kernel_rfl) (by kernel_rfl) (by kernel_rfl) ?_
      repeat (first | refine zd ?_)
      try refine draw_nil ?_
      refine draw_w rfl rfl rfl rfl rfl rfl (step_call_ex rfl rfl rfl (fun H hs => seatClinit_ok) (fun v h => (zst ?_)))
      obtain ⟨ca, cN, cc, rfl⟩ := h
      repeat (first | refine zd ?_ | refine draw_w rfl rfl rfl rfl rfl rfl (step_call_pure rfl rfl rfl (fun H hs => by first | exact seatTyp_ok | exact seatRef_ok | exact seatOne_ok | exact seatNum_ok | exact seatStr_ok | exact seatAt_ok | exact seatOf_ok | exact seatPart_ok | exact seatCall_ok | exact seatMethod_ok) (zst ?_)) | refine draw_a rfl rfl rfl rfl rfl (step_buildSliceF rfl rfl rfl rfl rfl rfl (fun _ => (zst ?_))) | refine draw_a rfl rfl rfl rfl rfl (step_alloc rfl rfl rfl rfl (fun _ => (zst ?_))))
      try refine draw_nil ?_
      refine draw_w rfl rfl rfl rfl rfl rfl (step_appendC 2 rfl rfl rfl rfl rfl rfl rfl rfl (OwnC.full rfl) (fun H hs => src_own (j := 0) hs rfl rfl 1) rfl (by first | rfl | exact allCell_map (fun _ => rfl) _) (by first | rfl | (simp; done) | (simp; omega)) (by omega) (by omega) (fun a2 c2 p2 own2 => (zst ?_)))
      repeat (first | refine zd ?_)
      try refine draw_nil ?_
      refine draw_w rfl rfl rfl rfl rfl rfl (step_storeZ 2 rfl rfl rfl rfl rfl rfl rfl rfl rfl (zst ?_))
      refine draw_nil ?_
      exact ⟨⟨rfl, rfl, rfl, trivial⟩, _, _, _, List.Sublist.cons _ (List.Sublist.cons _ (List.Sublist.refl _))⟩
    · repeat (first | refine zr ?_ | (refine zn ?_; intro _))
      exact ⟨⟨rfl, rfl, rfl, trivial⟩, _, _, _, List.Sublist.cons_cons _ (List.Sublist.cons _ (List.Sublist.refl _))⟩
  rintro E L ⟨hE, ma1, mN1, mc1, hL⟩
  refine ExecS.weak hE hL ?_
  clear hE hL

  repeat (first | refine zrb ?_ | (refine zn ?_; intro _) | refine ops_step rfl rfl rfl (step_call_pure rfl rfl rfl (fun H hs => by first | exact seatTyp_ok | exact seatRef_ok | exact seatOne_ok | exact seatNum_ok | exact seatStr_ok | exact seatAt_ok | exact seatOf_ok | exact seatPart_ok | exact seatCall_ok | exact seatMethod_ok) ?_))
  rename_i m12 b12 ib b13
  refine ExecS.weak (pickE_sub (ks := [3, 6, 11, 12, 13, 59]) rfl) (List.Sublist.refl _) ?_
  refine exec_mid (fun E L => SubE [(3, ptr kb), (6, ptr rb), (11, ptr b11), (12, ptr b12), (13, ptr b13)] E ∧ ∃ (ma : Option Addr) (mN mc : Nat), ((some b13, .cells 0 [str [74], str objB, .slice (some ⟨ib, 0, some 0⟩) 1 1, .int .i64 4, .slice none 0 0, .slice ma mN mc] 0 70) :: (some ib, .cells 0 [str [73]] 1 9) :: (some b12, .cells 0 [str [73], str objB, .slice none 0 0, .int .i64 4, .slice none 0 0, .slice (some ⟨m12, 0, some 0⟩) 1 1] 0 70) :: (some b11, .cells 0 [str [77, 97, 105, 110], str objB, .slice none 0 0, .int .i64 1, .slice none 0 0, .slice ma1 mN1 mc1] 0 70) :: (some rb, .cells 0 [.slice none 0 0] 0 28) :: (some kb, .cells 0 [.int .u8 k0, .int .u8 k1, .int .u8 k2, .int .u8 k3] 0 22) :: []).Sublist L) ?_ ?_
  · refine exec_cond rfl (fun _ => ?_) (fun _ => ?_)
    · repeat (first | refine zrb ?_ | (refine zn ?_; intro _) | refine ops_step rfl rfl rfl (step_call_pure rfl rfl rfl (fun H hs => by first | exact seatTyp_ok | exact seatRef_ok | exact seatOne_ok | exact seatNum_ok | exact seatStr_ok | exact seatAt_ok | exact seatOf_ok | exact seatPart_ok | exact seatCall_ok | exact seatMethod_ok) ?_))
      exact ⟨⟨rfl, rfl, rfl, rfl, rfl, trivial⟩, _, _, _, List.Sublist.cons _ (List.Sublist.cons_cons _ (List.Sublist.cons_cons _ (List.Sublist.cons_cons _ (List.Sublist.cons _ (List.Sublist.refl _)))))⟩
    · repeat (first | refine zrb ?_ | (refine zn ?_; intro _))
      exact ⟨⟨rfl, rfl, rfl, rfl, rfl, trivial⟩, _, _, _, List.Sublist.cons_cons _ (List.Sublist.cons_cons _ (List.Sublist.cons_cons _ (List.Sublist.cons _ (List.Sublist.refl _))))⟩
  rintro E L ⟨hE, ma2, mN2, mc2, hL⟩
  refine ExecS.weak hE hL ?_
  clear hE hL

  repeat (first | refine zrb ?_ | (refine zn ?_; intro _))
  have hk3 : k3.tmod 3 = ((k3.toNat % 3 : Nat) : Int) := tmodN (m := 3) (by omega) (by omega)
  have hv3 : [Value.int IntKind.i64 1, Value.int IntKind.i64 1, Value.int IntKind.i64 1][0 + ((k3.toNat % 3 : Nat) : Int).toNat * 1]? = some (.int .i64 1) := by
    rcases (by omega : k3.toNat % 3 = 0 ∨ k3.toNat % 3 = 1 ∨ k3.toNat % 3 = 2) with h | h | h <;> rw [h] <;> rfl
  rw [hk3]
  (first | apply ops_pl rfl rfl rfl ?_ rfl ?_ | apply draw_pl rfl rfl rfl rfl ?_ rfl rfl ?_); rotate_left; focus exact (.p rfl (opP_idxo (z := 1) rfl rfl rfl rfl (by omega) (by omega)))
  first | refine ops_pl rfl rfl rfl (.l rfl (look_own 0 rfl rfl rfl hv3)) rfl ?_ | refine draw_pl rfl rfl rfl rfl (.l rfl (look_own 0 rfl rfl rfl hv3)) rfl rfl ?_
  repeat (first | refine zrb ?_ | (refine zn ?_; intro _) | refine ops_step rfl rfl rfl (step_call_pure rfl rfl rfl (fun H hs => by first | exact seatTyp_ok | exact seatRef_ok | exact seatOne_ok | exact seatNum_ok | exact seatStr_ok | exact seatAt_ok | exact seatOf_ok | exact seatPart_ok | exact seatCall_ok | exact seatMethod_ok) ?_))
  rename_i kdb b14 b15 prm cd16 m16 b16
  refine ExecS.weak (pickE_sub (ks := [3, 6, 11, 12, 13, 14, 15, 16]) rfl) (List.Sublist.refl _) ?_
  obtain ⟨c11, hc11⟩ : ∃ c : CV, c = .dim [77, 97, 105, 110] objB none 0 0 1 none 0 0 ma1 mN1 mc1 [] := ⟨_, rfl⟩
  obtain ⟨c12, hc12⟩ : ∃ c : CV, c = .dim [73] objB none 0 0 4 none 0 0 (some ⟨m12, 0, some 0⟩) 1 1 [] := ⟨_, rfl⟩
  obtain ⟨c13, hc13⟩ : ∃ c : CV, c = .dim [74] objB (some ⟨ib, 0, some 0⟩) 1 1 4 none 0 0 ma2 mN2 mc2 [[73]] := ⟨_, rfl⟩
  obtain ⟨c14, hc14⟩ : ∃ c : CV, c = .dim [69, 114, 114] fauB none 0 0 1 none 0 0 none 0 0 [] := ⟨_, rfl⟩
  obtain ⟨c15, hc15⟩ : ∃ c : CV, c = .dim [69, 114, 114, 50] [69, 114, 114] none 0 0 1 none 0 0 none 0 0 [] := ⟨_, rfl⟩
  obtain ⟨c16, hc16⟩ : ∃ c : CV, c = .dim [71, 111, 110, 101] [65] none 0 0 1 none 0 0 (some ⟨m16, 0, some 0⟩) 1 1 [] := ⟨_, rfl⟩
  obtain ⟨ibA, hibA⟩ : ∃ q : Option Nat × Cont, q = (some ib, .cells 0 [str [73]] 1 9) := ⟨_, rfl⟩
  refine ExecS.weakL (L' := [(some b16, .cells 0 c16.cells 0 70), (some b15, .cells 0 c15.cells 0 70), (some b14, .cells 0 c14.cells 0 70), (some b13, .cells 0 c13.cells 0 70), ibA, (some b12, .cells 0 c12.cells 0 70), (some b11, .cells 0 c11.cells 0 70), (some rb, .cells 0 [.slice none 0 0] 0 28), (some kb, .cells 0 [.int .u8 k0, .int .u8 k1, .int .u8 k2, .int .u8 k3] 0 22)]) (by rw [hibA, hc11, hc12, hc13, hc14, hc15, hc16]; exact List.Sublist.cons_cons _ (List.Sublist.cons _ (List.Sublist.cons _ (List.Sublist.cons _ (List.Sublist.cons_cons _ (List.Sublist.cons_cons _ (List.Sublist.cons _ (List.Sublist.refl _)))))))) ?_
  refine ExecS.reord [0, 0, 0, 0, 1, 1, 1, 1] rfl ?_

  repeat (first | refine zrc ?_ | (refine zn ?_; intro _))
  refine exec_draw (lst := [(0, 0), (1, 0), (2, 0), (3, 7), (4, 0), (8, 0), (5, 16), (6, 63), (7, 127), (9, 511)]) (full := 1023) (by kernel_rfl) (by kernel_rfl) (by kernel_rfl) (by kernel_rfl) ?_
  repeat (first | refine zdc ?_ | refine draw_w rfl rfl rfl rfl rfl rfl (step_call_pure rfl rfl rfl (fun H hs => by first | exact seatTyp_ok | exact seatRef_ok | exact seatOne_ok | exact seatNum_ok | exact seatStr_ok | exact seatAt_ok | exact seatOf_ok | exact seatPart_ok | exact seatCall_ok | exact seatMethod_ok) (zst ?_)) | refine draw_a rfl rfl rfl rfl rfl (step_buildSliceF rfl rfl rfl rfl rfl rfl (fun _ => (zst ?_))) | refine draw_a rfl rfl rfl rfl rfl (step_alloc rfl rfl rfl rfl (fun _ => (zst ?_))))
  try refine draw_nil ?_
  refine draw_w rfl rfl rfl rfl rfl rfl (step_call_fp [] _ rfl rfl rfl (List.Perm.refl _) (fun H hs hst => seatFamily_ok hst h0 h1 h2 h3) (fun v F' h => ?_))
  obtain ⟨fa, fc, m6, kd, c4, c5, c6, c7, c8, c9, rfl, hF, hR⟩ := h
  have hS : Rd F' fun H => Sl O H (.slice fa 6 fc) 6 6 ([c4, c5, c6, c7, c8, c9].flatMap CV.cells) := fun X' H0' H' h => (hR X' H0' H' h).cells
  refine ⟨StabS.perm List.perm_append_comm (by repeat (first | exact True.intro | refine And.intro (.inl rfl) ?_ | refine And.intro (.inr ⟨veq_refl rfl, (fun _ _ => rfl)⟩) ?_ | refine And.intro (.inr ⟨veq_refl rfl, (look_agg 0 rfl rfl rfl rfl)⟩) ?_ | refine And.intro (.inr ⟨veq_refl rfl, (look_agg 1 rfl rfl rfl rfl)⟩) ?_ | refine And.intro (.inr ⟨veq_refl rfl, (look_agg 2 rfl rfl rfl rfl)⟩) ?_ | refine And.intro (.inr ⟨veq_refl rfl, (look_agg 3 rfl rfl rfl rfl)⟩) ?_ | refine And.intro (.inr ⟨veq_refl rfl, (look_agg 4 rfl rfl rfl rfl)⟩) ?_ | refine And.intro (.inr ⟨veq_refl rfl, (look_agg 5 rfl rfl rfl rfl)⟩) ?_ | refine And.intro (.inr ⟨veq_refl rfl, (look_agg 6 rfl rfl rfl rfl)⟩) ?_ | refine And.intro (.inr ⟨veq_refl rfl, (look_agg 7 rfl rfl rfl rfl)⟩) ?_ | refine And.intro (.inr ⟨veq_refl rfl, (look_agg 8 rfl rfl rfl rfl)⟩) ?_ | refine And.intro (.inr ⟨veq_refl rfl, (look_agg 9 rfl rfl rfl rfl)⟩) ?_)), DrawS.perm List.perm_append_comm ?_⟩
  repeat (first | refine zdc ?_)
  try refine draw_nil ?_
  refine draw_w rfl rfl rfl rfl rfl rfl (step_appendC 1 rfl rfl rfl rfl rfl rfl rfl rfl (OwnC.full rfl) (fun H hs => (hS.at (hs.sublist (List.sublist_append_right _ _))).src) rfl (by first | rfl | exact allCell_map (fun _ => rfl) _) (by first | rfl | (simp; done) | (simp; omega)) (by omega) (by omega) (fun a2 c2 p2 own2 => (zst ?_)))
  repeat (first | refine zdc ?_)
  try refine draw_nil ?_
  refine draw_w rfl rfl rfl rfl rfl rfl (step_storeZ 1 rfl rfl rfl rfl rfl rfl rfl rfl rfl (zst ?_))
  refine draw_nil ?_
  rename_i sb3 b17
  refine ExecS.weak (pickE_sub (ks := [3, 6, 14, 15, 16, 17]) rfl) (List.Sublist.refl _) ?_
  refine ExecS.weakL (L' := p2 :: (some b17, .cells 0 [.slice a2 (3 + 6) c2] 0 28) :: (some b16, .cells 0 c16.cells 0 70) :: (some b15, .cells 0 c15.cells 0 70) :: (some b14, .cells 0 c14.cells 0 70) :: (some rb, .cells 0 [.slice none 0 0] 0 28) :: (some kb, .cells 0 [.int .u8 k0, .int .u8 k1, .int .u8 k2, .int .u8 k3] 0 22) :: ibA :: F') (List.Sublist.cons_cons _ (List.Sublist.cons_cons _ (List.Sublist.cons_cons _ (List.Sublist.cons_cons _ (List.Sublist.cons_cons _ (List.Sublist.cons _ (List.Sublist.cons _ (List.Sublist.cons _ (List.Sublist.refl _))))))))) ?_

  repeat (first | refine zrc ?_ | (refine zn ?_; intro _))
  refine exec_draw (lst := [(0, 0), (1, 1), (2, 0), (3, 0), (4, 0), (5, 0), (6, 32), (7, 96), (8, 252), (9, 511), (10, 1023), (11, 2047)]) (full := 4095) (by kernel_rfl) (by kernel_rfl) (by kernel_rfl) (by kernel_rfl) ?_
  repeat (first | refine zdc ?_ | refine draw_w rfl rfl rfl rfl rfl rfl (step_call_pure rfl rfl rfl (fun H hs => by first | exact seatTyp_ok | exact seatRef_ok | exact seatOne_ok | exact seatNum_ok | exact seatStr_ok | exact seatAt_ok | exact seatOf_ok | exact seatPart_ok | exact seatCall_ok | exact seatMethod_ok) (zst ?_)) | refine draw_a rfl rfl rfl rfl rfl (step_buildSliceF rfl rfl rfl rfl rfl rfl (fun _ => (zst ?_))) | refine draw_a rfl rfl rfl rfl rfl (step_alloc rfl rfl rfl rfl (fun _ => (zst ?_))))
  try refine draw_nil ?_
  refine draw_w rfl rfl rfl rfl rfl rfl (step_call_ex rfl rfl rfl (fun H hs => seatUtil_ok) (fun v h => (zst ?_)))
  obtain ⟨ua, uN, uc, va, vN, vc, rfl⟩ := h
  repeat (first | refine zdc ?_ | refine draw_w rfl rfl rfl rfl rfl rfl (step_call_pure rfl rfl rfl (fun H hs => by first | exact seatTyp_ok | exact seatRef_ok | exact seatOne_ok | exact seatNum_ok | exact seatStr_ok | exact seatAt_ok | exact seatOf_ok | exact seatPart_ok | exact seatCall_ok | exact seatMethod_ok) (zst ?_)) | refine draw_a rfl rfl rfl rfl rfl (step_buildSliceF rfl rfl rfl rfl rfl rfl (fun _ => (zst ?_))) | refine draw_a rfl rfl rfl rfl rfl (step_alloc rfl rfl rfl rfl (fun _ => (zst ?_))))
  try refine draw_nil ?_
  refine draw_w rfl rfl rfl rfl rfl rfl (step_appendC 1 rfl rfl rfl rfl rfl rfl rfl rfl (.inl own2) (fun H hs => src_own (j := 0) hs rfl rfl 4) rfl (by first | rfl | exact allCell_map (fun _ => rfl) _) (by first | rfl | (simp; done) | (simp; omega)) (by omega) (by omega) (fun a3 c3 p3 own3 => (zst ?_)))
  repeat (first | refine zdc ?_)
  try refine draw_nil ?_
  refine draw_w rfl rfl rfl rfl rfl rfl (step_storeZ 2 rfl rfl rfl rfl rfl rfl rfl rfl rfl (zst ?_))
  refine draw_nil ?_
  refine ExecS.weak (pickE_sub (ks := [3, 6, 17]) rfl) (List.Sublist.refl _) ?_
  refine ExecS.weakL (L' := p3 :: (some b17, .cells 0 [.slice a3 13 c3] 0 28) :: (some rb, .cells 0 [.slice none 0 0] 0 28) :: (some kb, .cells 0 [.int .u8 k0, .int .u8 k1, .int .u8 k2, .int .u8 k3] 0 22) :: ibA :: F') (List.Sublist.cons_cons _ (List.Sublist.cons _ (List.Sublist.cons_cons _ (List.Sublist.cons _ (List.Sublist.cons _ (List.Sublist.cons _ (List.Sublist.refl _))))))) ?_
  obtain ⟨c17, hc17⟩ : ∃ c : CV, c = .dim [85, 116, 105, 108] objB none 0 0 1 ua uN uc va vN vc [] := ⟨_, rfl⟩
  obtain ⟨cl, hcl⟩ : ∃ cl : List CV, cl = [c11, c12, c13, c4, c5, c6, c7, c8, c9, c14, c15, c16, c17] := ⟨_, rfl⟩
  have own4 : OwnA 6 70 a3 13 c3 (cl.flatMap CV.cells) p3 := by rw [hcl, hc17]; exact own3
  obtain ⟨Z, hZ⟩ : ∃ Z : Atoms, Z = ibA :: F' := ⟨_, rfl⟩
  rw [← hZ]
  have hcls : Rd Z fun H => ∀ c ∈ cl, ClsF O H c := fun X' H0' H' hst' c hc => by
    have hF := hR.at (hst'.sublist (by rw [hZ]; exact List.sublist_cons_self _ _))
    have hi : Sl O H' (.slice (some ⟨ib, 0, some 0⟩) 1 1) 1 1 ([[73]].map str) := (Rd.sl (i := 0) (by rw [hZ, hibA]; rfl) rfl 1) X' H0' H' hst'
    rw [hcl] at hc
    simp only [List.mem_cons, List.not_mem_nil, or_false] at hc
    rcases hc with rfl | rfl | rfl | rfl | rfl | rfl | rfl | rfl | rfl | rfl | rfl | rfl | rfl
    · rw [hc11]; exact dimF Sl.nil (by omega)
    · rw [hc12]; exact dimF Sl.nil (by omega)
    · rw [hc13]; exact dimF hi (by omega)
    · exact hF.cls _ (by simp)
    · exact hF.cls _ (by simp)
    · exact hF.cls _ (by simp)
    · exact hF.cls _ (by simp)
    · exact hF.cls _ (by simp)
    · exact hF.cls _ (by simp)
    · rw [hc14]; exact dimF Sl.nil (by omega)
    · rw [hc15]; exact dimF Sl.nil (by omega)
    · rw [hc16]; exact dimF Sl.nil (by omega)
    · rw [hc17]; exact dimF Sl.nil (by omega)
  have hmc : cl.length = 13 := by rw [hcl]; rfl

  repeat (first | refine zr ?_ | (refine zn ?_; intro _))
  refine ExecS.weak (pickE_sub (ks := [6, 17, 105]) rfl) (List.Sublist.refl _) ?_
  refine exec_mid (fun E L => SubE [(6, ptr rb), (17, ptr b17)] E ∧ ∃ (cl' : List CV) (p' : Option Nat × Cont), cl'.Perm cl ∧ OwnA 6 70 a3 13 c3 (cl'.flatMap CV.cells) p' ∧ (p' :: (some b17, .cells 0 [.slice a3 13 c3] 0 28) :: (some rb, .cells 0 [.slice none 0 0] 0 28) :: Z).Sublist L) ?_ ?_
  · refine exec_cond rfl (fun _ => ?_) (fun _ => ?_)
    rotate_left
    · repeat (first | refine zr ?_ | (refine zn ?_; intro _))
      exact ⟨⟨rfl, rfl, trivial⟩, cl, p3, List.Perm.refl _, own4, List.Sublist.cons_cons _ (List.Sublist.cons_cons _ (List.Sublist.cons_cons _ (List.Sublist.cons _ (List.Sublist.refl _))))⟩
    · clear own3
      obtain ⟨bb, ver, rfl, rfl, rfl, hlen⟩ := own4.inv (by omega)
      repeat (first | refine zr ?_ | (refine zn ?_; intro _))
      refine ExecS.weak (E' := [(6, ptr rb), (17, ptr b17), (18, .slice (some ⟨bb, 0, some ver⟩) 13 unk), (19, .int .i64 ((0 : Nat) : Int))]) ⟨rfl, rfl, rfl, rfl, trivial⟩ (List.Sublist.refl _) ?_
      refine exec_loop (fun k E L => ∃ (i : Nat) (cur : List CV), i + k = 6 ∧ cur.Perm cl ∧ E = [(6, ptr rb), (17, ptr b17), (18, .slice (some ⟨bb, 0, some ver⟩) 13 unk), (19, .int .i64 (i : Int))] ∧ L = (some bb, .cells ver (cur.flatMap CV.cells) 6 70) :: (some b17, .cells 0 [.slice (some ⟨bb, 0, some ver⟩) 13 unk] 0 28) :: (some rb, .cells 0 [.slice none 0 0] 0 28) :: (some kb, .cells 0 [.int .u8 k0, .int .u8 k1, .int .u8 k2, .int .u8 k3] 0 22) :: Z) ?_ 6 _ _ ⟨0, cl, rfl, List.Perm.refl _, rfl, rfl⟩
      rintro k E L ⟨i, cur, hik, hper, rfl, rfl⟩
      have hcl13 : cur.length = 13 := by rw [hper.length_eq, hmc]
      repeat (first | refine zr ?_ | (refine zn ?_; intro _))
      refine exec_cond rfl (fun hlt => ?_) (fun hge => ?_)
      · have hlt := of_decide_eq_true hlt
        have hi : i < 6 := by have h : (i : Int) < 6 := hlt; omega
        have hx : cur[12 - i]? = some (cur[12 - i]'(by omega)) := List.getElem?_eq_getElem _
        have hy : cur[i]? = some (cur[i]'(by omega)) := List.getElem?_eq_getElem _
        repeat (first | refine zr ?_ | (refine zn ?_; intro _))
        refine exec_draw (lst := [(0, 0), (1, 0), (2, 0), (3, 0), (4, 8), (5, 24), (6, 0), (7, 120), (8, 0), (9, 0), (10, 512), (11, 1536), (12, 0), (13, 7680), (14, 16128), (15, 32512), (16, 0), (17, 0), (18, 196608), (19, 458752), (20, 1048323), (21, 2096899), (22, 4194303), (23, 8388607)]) (full := 16777215) (by kernel_rfl) (by kernel_rfl) (by kernel_rfl) (by kernel_rfl) ?_
        repeat (first | refine zd ?_)
        try refine draw_nil ?_
        rw [show ((13 : Nat) : Int) - 1 - (i : Int) = ((12 - i : Nat) : Int) from by omega]
        (first | apply ops_pl rfl rfl rfl ?_ rfl ?_ | apply draw_pl rfl rfl rfl rfl ?_ rfl rfl ?_); rotate_left; focus exact (.p rfl (opP_idxo (z := 6) rfl rfl rfl rfl (by omega) (by omega)))
        (first | apply ops_pl rfl rfl rfl ?_ rfl ?_ | apply draw_pl rfl rfl rfl rfl ?_ rfl rfl ?_); rotate_left; focus exact (.l rfl (look_agg 0 rfl rfl rfl (rdL_class hx)))
        repeat (first | refine zd ?_)
        try refine draw_nil ?_
        (first | apply ops_pl rfl rfl rfl ?_ rfl ?_ | apply draw_pl rfl rfl rfl rfl ?_ rfl rfl ?_); rotate_left; focus exact (.p rfl (opP_idxo (z := 6) rfl rfl rfl rfl (by omega) (by omega)))
        (first | apply ops_pl rfl rfl rfl ?_ rfl ?_ | apply draw_pl rfl rfl rfl rfl ?_ rfl rfl ?_); rotate_left; focus exact (.l rfl (look_agg 0 rfl rfl rfl (rdL_class hy)))
        repeat (first | refine zd ?_)
        try refine draw_nil ?_
        (first | apply ops_pl rfl rfl rfl ?_ rfl ?_ | apply draw_pl rfl rfl rfl rfl ?_ rfl rfl ?_); rotate_left; focus exact (.p rfl (opP_idxo (z := 6) rfl rfl rfl rfl (by omega) (by omega)))
        refine draw_w rfl rfl rfl rfl rfl rfl (step_store' 0 rfl rfl rfl rfl rfl rfl (by rw [show 0 + (i : Int).toNat * 6 = i * 6 from by omega]; exact wrL_class (by omega) (cur[12 - i]'(by omega))) ⟨by repeat (first | exact True.intro | refine And.intro (.inl rfl) ?_ | refine And.intro (.inr ⟨veq_refl rfl, (fun _ _ => rfl)⟩) ?_), ?_⟩)
        (first | apply ops_pl rfl rfl rfl ?_ rfl ?_ | apply draw_pl rfl rfl rfl rfl ?_ rfl rfl ?_); rotate_left; focus exact (.p rfl (opP_idxo (z := 6) rfl rfl rfl rfl (by omega) (by omega)))
        refine draw_w rfl rfl rfl rfl rfl rfl (step_store' 0 rfl rfl rfl rfl rfl rfl (by rw [show 0 + ((12 - i : Nat) : Int).toNat * 6 = (12 - i) * 6 from by omega]; exact wrL_class (by rw [List.length_set]; omega) (cur[i]'(by omega))) ⟨by repeat (first | exact True.intro | refine And.intro (.inl rfl) ?_ | refine And.intro (.inr ⟨veq_refl rfl, (fun _ _ => rfl)⟩) ?_), ?_⟩)
        refine draw_nil ?_
        repeat (first | refine zr ?_ | (refine zn ?_; intro _))
        refine ⟨k - 1, by omega, _, _, ?_, List.Sublist.refl _, i + 1, (cur.set i (cur[12 - i]'(by omega))).set (12 - i) (cur[i]'(by omega)), by omega, (List.set_set_perm (by omega) (by omega)).trans hper, rfl, rfl⟩
        exact ⟨rfl, rfl, rfl, rfl, trivial⟩
      · repeat (first | refine zr ?_ | (refine zn ?_; intro _))
        exact ⟨⟨rfl, rfl, trivial⟩, cur, _, hper, .own (by rw [cells_len, hcl13]), List.Sublist.cons_cons _ (List.Sublist.cons_cons _ (List.Sublist.cons_cons _ (List.Sublist.cons _ (List.Sublist.refl _))))⟩
  rintro E L ⟨hE, cl', p', hper, own5, hL⟩
  refine ExecS.weak hE hL ?_
  clear hE hL own4 own3
  repeat (first | refine zr ?_ | (refine zn ?_; intro _))
  refine ⟨trivial, [_], ⟨look_agg 2 rfl rfl rfl rfl, trivial⟩, p' :: Z, [(some b17, .cells 0 [.slice a3 13 c3] 0 28), (some rb, .cells 0 [.slice a3 13 c3] 0 28)], ?_, a3, c3, m6, kd, c4, c5, c6, c7, c8, c9, c11, c12, c13, c14, c15, c16, c17, cl', rfl, hF, ?_, ?_, fun X' H0' H' hst' => ⟨?_, ?_⟩⟩
  · exact (List.perm_append_comm (l₁ := [(some b17, .cells 0 [.slice a3 13 c3] 0 28), (some rb, .cells 0 [.slice a3 13 c3] 0 28)]) (l₂ := Z)).cons p'
  · rw [hcl] at hper; exact hper
  · exact ⟨by rw [hc11]; exact ⟨rfl, rfl, rfl, rfl⟩, by rw [hc12]; exact ⟨rfl, rfl, rfl, rfl⟩, by rw [hc13]; exact ⟨rfl, rfl, rfl, rfl⟩, by rw [hc14]; exact ⟨rfl, rfl, rfl, rfl⟩, by rw [hc15]; exact ⟨rfl, rfl, rfl, rfl⟩, by rw [hc16]; exact ⟨rfl, rfl, rfl, rfl⟩, by rw [hc17]; exact ⟨rfl, rfl, rfl, rfl⟩⟩
  · rw [hper.length_eq, hmc]
    exact (Rd.own own5 (by simp)) X' H0' H' hst'
  · intro c hc
    exact hcls _ _ _ (hst'.sublist (List.sublist_cons_self _ _)) c (hper.mem_iff.1 hc)

end Go.Proofs.Ythifbkjkiijkoaa

