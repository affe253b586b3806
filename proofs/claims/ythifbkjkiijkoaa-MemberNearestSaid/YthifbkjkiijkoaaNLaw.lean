/-
  'bonsailaw9.MemberNearest' is true at every input: the walk.
-/
import Derived.Test.YthifbkjkiijkoaaNear5
import Derived.Test.YthifbkjkiijkoaaEvArgA
namespace Go.Proofs.Ythifbkjkiijkoaa
open Go.Ev Go.Ev.Wk
set_option linter.unusedVariables false
set_option linter.unusedSimpArgs false
variable {O : Old}


section
variable {g : List UInt8 → Option CV} {m6 : Bool} {kd : Int} {c4 c5 c6 c7 c8 c9 : CV} (h : NearG g m6 kd c4 c5 c6 c7 c8 c9)
include h

theorem slots_A : slotsL g [[65], [66, 97, 115, 101], objB].reverse = [⟨[120], 1, [], false⟩, ⟨[110, 101, 120, 116], 4, [66, 97, 115, 101], false⟩, ⟨[119], 1, [], false⟩, ⟨[117, 110, 117, 115, 101, 100], 2, [], false⟩] := by
  show slotsL g [objB, [66, 97, 115, 101], [65]] = _
  simp only [slotsL, List.flatMap_cons, List.flatMap_nil, slot1, getC_eq h.gO, getC_eq h.g5, h.fam.h5.fl, getC_eq h.g4, h.fam.h4.fl]
  rfl

theorem slots_B : slotsL g [[66], [65], [66, 97, 115, 101], objB].reverse = [⟨[120], 1, [], false⟩, ⟨[110, 101, 120, 116], 4, [66, 97, 115, 101], false⟩, ⟨[119], 1, [], false⟩, ⟨[117, 110, 117, 115, 101, 100], 2, [], false⟩] := by
  show slotsL g [objB, [66, 97, 115, 101], [65], [66]] = _
  simp only [slotsL, List.flatMap_cons, List.flatMap_nil, slot1, getC_eq h.gO, getC_eq h.g6, h.fam.h6.fl, getC_eq h.g5, h.fam.h5.fl, getC_eq h.g4, h.fam.h4.fl]
  rfl

theorem slots_Base : slotsL g [[66, 97, 115, 101], objB].reverse = [⟨[120], 1, [], false⟩, ⟨[110, 101, 120, 116], 4, [66, 97, 115, 101], false⟩, ⟨[119], 1, [], false⟩, ⟨[117, 110, 117, 115, 101, 100], 2, [], false⟩] := by
  show slotsL g [objB, [66, 97, 115, 101]] = _
  simp only [slotsL, List.flatMap_cons, List.flatMap_nil, slot1, getC_eq h.gO, getC_eq h.g4, h.fam.h4.fl]
  rfl

theorem slots_Mid : slotsL g [[77, 105, 100], [66, 97, 115, 101], objB].reverse = [⟨[120], 1, [], false⟩, ⟨[110, 101, 120, 116], 4, [66, 97, 115, 101], false⟩, ⟨[119], 1, [], false⟩, ⟨[117, 110, 117, 115, 101, 100], 2, [], false⟩, ⟨[109], 1, [], false⟩] := by
  show slotsL g [objB, [66, 97, 115, 101], [77, 105, 100]] = _
  simp only [slotsL, List.flatMap_cons, List.flatMap_nil, slot1, getC_eq h.gO, getC_eq h.g7, h.fam.h7.fl, getC_eq h.g4, h.fam.h4.fl]
  rfl

theorem slots_C : slotsL g [[67], [77, 105, 100], [66, 97, 115, 101], objB].reverse = [⟨[120], 1, [], false⟩, ⟨[110, 101, 120, 116], 4, [66, 97, 115, 101], false⟩, ⟨[119], 1, [], false⟩, ⟨[117, 110, 117, 115, 101, 100], 2, [], false⟩, ⟨[109], 1, [], false⟩] := by
  show slotsL g [objB, [66, 97, 115, 101], [77, 105, 100], [67]] = _
  simp only [slotsL, List.flatMap_cons, List.flatMap_nil, slot1, getC_eq h.gO, getC_eq h.g8, h.fam.h8.fl, getC_eq h.g7, h.fam.h7.fl, getC_eq h.g4, h.fam.h4.fl]
  rfl

theorem slots_D : slotsL g [[68], [66, 97, 115, 101], objB].reverse = [⟨[120], 1, [], false⟩, ⟨[110, 101, 120, 116], 4, [66, 97, 115, 101], false⟩, ⟨[119], 1, [], false⟩, ⟨[117, 110, 117, 115, 101, 100], 2, [], false⟩, ⟨[120], 2, [], false⟩] := by
  show slotsL g [objB, [66, 97, 115, 101], [68]] = _
  simp only [slotsL, List.flatMap_cons, List.flatMap_nil, slot1, getC_eq h.gO, getC_eq h.g9, h.fam.h9.fl, getC_eq h.g4, h.fam.h4.fl]
  rfl

end

set_option maxHeartbeats 64000000 in
set_option maxRecDepth 100000 in
theorem memberNearest_walk {k0 k1 k2 k3 x : Int} (h0 : 0 ≤ k0 ∧ k0 ≤ 255) (h1 : 0 ≤ k1 ∧ k1 ≤ 255) (h2 : 0 ≤ k2 ∧ k2 ≤ 255) (h3 : 0 ≤ k3 ∧ k3 ≤ 255) (hx : 0 ≤ x ∧ x ≤ 255) :
    CallC TT O 9 [.agg #[.int .u8 k0, .int .u8 k1, .int .u8 k2, .int .u8 k3], .int .u8 x] .empty fun v H' => v = .bool true ∧ Ext .empty H' := by
  obtain ⟨n, rfl⟩ := Int.eq_ofNat_of_zero_le hx.1
  have t1 : (n : Int).tmod 6 = ((n % 6 : Nat) : Int) := tmodN (m := 6) (by omega) rfl
  refine call_pure rfl rfl rfl rfl rfl ?_
  repeat (first | refine zr ?_ | (refine zn ?_; intro _))
  refine ops_step rfl rfl rfl (step_call_pure rfl rfl rfl (fun H hs => call_known rfl) ?_)
  repeat (first | refine zr ?_ | (refine zn ?_; intro _))
  refine ops_step rfl rfl rfl (step_call_fp [] _ rfl rfl rfl (List.Perm.refl _) (fun H hs hst => seatArchive_ok hst h0 h1 h2 h3) (fun v F' h => ?_))
  obtain ⟨aa, ac, m6, kd, c4, c5, c6, c7, c8, c9, c11, c12, c13, c14, c15, c16, c17, cl, rfl, hF, hper, hR, hZ⟩ := h
  have hm := tmA_ok (arc_entG hF hR hper)
  have hN := arc_near hF hR hper
  have hl13 : cl.length = 13 := by rw [hper.length_eq]; rfl
  refine ops_step rfl rfl rfl (step_call_fp [] _ rfl rfl rfl (List.Perm.refl _) (fun H hs hst => new_ok hst hl13 (by omega) ((hZ.mono (List.sublist_append_left _ _)).pure hs)) (fun v F2 h => ?_))
  obtain ⟨tb, mb, es, rfl, rfl, hsay⟩ := h
  obtain ⟨A, hA⟩ : ∃ A : Atoms, A = (some tb, .cells 0 [.map (some mb), .slice aa 13 ac] 0 78) :: (some mb, .map es) :: F' := ⟨_, rfl⟩
  have hT : Rd A fun H => TreeH O H tb mb (.slice aa 13 ac) (gOf cl) := fun X' H0' H' hst' => (hZ.at (hst'.sublist (by rw [hA]; exact List.Sublist.cons _ (List.Sublist.cons _ (List.Sublist.refl _))))).tree (fun c h => h) (hst'.has _ _ (by rw [hA]; simp)) (hst'.has _ _ (by rw [hA]; simp)) hsay
  refine OpsS.weak (pickE_sub (ks := [1, 23]) rfl) (L' := A) (by rw [hA]; exact List.Sublist.cons_cons _ (List.Sublist.cons_cons _ (List.sublist_append_left _ _))) ?_
  clear hA hsay hZ hR hper hF hl13
  generalize gOf cl = g at hm hT hN
  obtain ⟨mbx, hbx⟩ := near_has hN
  repeat (first | refine zr ?_ | (refine zn ?_; intro _))
  rw [t1]
  have hn6 : n % 6 = 0 ∨ n % 6 = 1 ∨ n % 6 = 2 ∨ n % 6 = 3 ∨ n % 6 = 4 ∨ n % 6 = 5 := by omega
  rcases hn6 with e6 | e6 | e6 | e6 | e6 | e6 <;> rw [e6] <;> clear e6 t1
  · have hc : ChainOf g [65] [[65], [66, 97, 115, 101], objB] := by have := hm.ch [65]; cases m6 <;> exact this
    obtain ⟨il, fu, hil, hill⟩ : ∃ il fu, ifsF g fu [[65], [66, 97, 115, 101], objB] [] = some il ∧ il.length ≤ 1000 := by
      obtain ⟨fu, h1⟩ := hm.ifl [65]
      have h2 := hm.ifll [65]
      cases m6 <;> exact ⟨_, fu, h1, h2⟩
    have hall : ∀ s ∈ ([[65], [66, 97, 115, 101]] : List (List UInt8)), s ∈ [[66, 97, 115, 101], [65], [66], [77, 105, 100], [67], [68]] := by decide
    have hgs : ∀ s ∈ [[65], [66, 97, 115, 101], objB], ∃ c, g s = some c ∧ c.core = true ∧ c.fl.length ≤ 1000 := by
      intro s hs
      by_cases ho : s = objB
      · subst ho; exact ⟨_, hN.gO, rfl, by decide⟩
      · obtain ⟨c, h1, h2, _, _, h5⟩ := near_cls hN (hall s (by simp only [List.mem_cons, List.not_mem_nil, or_false, ho] at hs ⊢; exact hs))
        exact ⟨c, h1, h2, by omega⟩
    have hpm : ∀ s ∈ ([[65]] ++ [[66, 97, 115, 101]] : List (List UInt8)), s ∈ [[66, 97, 115, 101], [65], [66], [77, 105, 100], [67], [68]] := by decide
    have hfp : ∀ s ∈ ([[65]] : List (List UInt8)), (getC g s).fl.find? (isF [120] false) = none := by
      intro s hs
      simp only [List.mem_cons, List.not_mem_nil, or_false] at hs
      subst hs; rw [getC_eq hN.g5, hN.fam.h5.fl] <;> rfl
    have hf0 : (getC g [66, 97, 115, 101]).fl.find? (isF [120] false) = some ⟨[120], 1, [], false⟩ := by rw [getC_eq hN.g4, hN.fam.h4.fl]; rfl
    (first | apply ops_pl rfl rfl rfl ?_ rfl ?_ | apply draw_pl rfl rfl rfl rfl ?_ rfl rfl ?_); rotate_left; focus exact (.p rfl (opP_idxo (z := 1) rfl rfl rfl rfl (by omega) (by omega)))
    repeat (first | refine zr ?_ | (refine zn ?_; intro _))
    refine ops_step rfl rfl rfl (step_call_fp [] _ rfl rfl rfl (List.Perm.refl _) (fun H hs hst => slots_ok hst ((hT.mono (by repeat first | exact List.Sublist.refl _ | apply List.Sublist.cons)).pure hs) hc (by decide) hgs) (fun v F' h => ?_))
    obtain ⟨la, ln, lc, lp, rfl, rfl, ownl⟩ := h
    rw [slots_A hN] at ownl
    obtain rfl : ln = 4 := by have h : 16 = ln * 4 := ownl.len; omega
    obtain ⟨lb, lver, rfl, rfl, rfl, hlen⟩ := ownl.inv (by decide)
    repeat (first | refine zr ?_ | (refine zn ?_; intro _))
    refine ops_step rfl rfl rfl (step_call_fp [] _ rfl rfl rfl (List.Perm.refl _) (fun H hs hst => chain_ok hst ((hT.mono (by repeat first | exact List.Sublist.refl _ | apply List.Sublist.cons)).pure hs) hc (by decide)) (fun v F' h => ?_))
    obtain ⟨ca, cn, cc, cp, rfl, rfl, ownc⟩ := h
    obtain rfl : cn = 3 := by have h : 3 = cn * 1 := ownc.len; omega
    repeat (first | refine zr ?_ | (refine zn ?_; intro _))
    refine ops_step rfl rfl rfl (step_call_pure rfl rfl rfl (fun H hs => field_ok (nm := [120]) (st := false) (pre := [[65]]) (s0 := [66, 97, 115, 101]) (post := [objB]) (f0 := ⟨[120], 1, [], false⟩) ((hT.mono (by repeat first | exact List.Sublist.refl _ | apply List.Sublist.cons)).pure hs) hc (by decide) (fun s hs => by obtain ⟨c, h1, h2, _, _, h5⟩ := near_cls hN (hpm s hs); exact ⟨c, h1, h2, by omega⟩) hfp hf0) ?_)
    obtain ⟨pre, s0, post', m0, e1, e2, e3, e4⟩ := first_split (g := g) (post := [objB]) hbx [[65]]
    replace e1 : [[65], [66, 97, 115, 101], objB] = pre ++ s0 :: post' := e1
    have hlen2 : (pre ++ s0 :: post').length ≤ 1000 := by rw [← e1]; decide
    rw [e1] at hc hil
    have hmg : ∀ s ∈ pre ++ [s0], ∃ c, g s = some c ∧ c.core = true ∧ c.mN ≤ 1000000 := fun s hs => by
      obtain ⟨c, h1, h2, h3, _, _⟩ := near_cls hN (hall s (e4 s hs))
      exact ⟨c, h1, h2, by omega⟩
    have hmo : ∀ s ∈ pre ++ [s0], okMs (getC g s).ml := fun s hs => by
      obtain ⟨c, h1, _, _, h4, _⟩ := near_cls hN (hall s (e4 s hs))
      rw [getC_eq h1]; exact h4
    have hm0 : m0.st = false := (hmo s0 (by simp) m0 (List.mem_of_find?_eq_some e3) (of_decide_eq_true (show isN m0 = true from List.find?_some e3))).1
    repeat (first | refine zr ?_ | (refine zn ?_; intro _))
    refine ops_step rfl rfl rfl (step_call_pure rfl rfl rfl (fun H hs => virtual_ok ((hT.mono (by repeat first | exact List.Sublist.refl _ | apply List.Sublist.cons)).pure hs) hc hlen2 hmg hmo e2 e3) ?_)
    repeat (first | refine zr ?_ | (refine zn ?_; intro _))
    refine ops_step rfl rfl rfl (step_call_pure rfl rfl rfl (fun H hs => method_ok ((hT.mono (by repeat first | exact List.Sublist.refl _ | apply List.Sublist.cons)).pure hs) hc hlen2 hil hill hmg hmo e2 e3) ?_)
    repeat (first | refine zr ?_ | (refine zn ?_; intro _))

    refine exec_draw (lst := [(0, 0), (1, 1), (2, 3), (3, 3), (4, 15), (5, 31), (6, 63), (7, 127), (8, 255), (9, 511), (10, 1023), (11, 2047), (12, 4095), (13, 8191), (14, 16383), (15, 32767), (16, 32767), (17, 98303), (18, 229375), (19, 524287), (20, 1048575), (21, 32767), (22, 4194303), (23, 8388607), (24, 16777215), (25, 33554431), (26, 67108863), (27, 134217727), (28, 268435455), (29, 536870911), (30, 1073741823), (31, 1073741823), (32, 4294967295), (33, 8589934591), (34, 17179869183), (35, 34359738367), (36, 68719476735), (37, 137438953471), (38, 274877906943), (39, 549755813887)]) (full := 1099511627775) (by kernel_rfl) (by kernel_rfl) (by kernel_rfl) (by kernel_rfl) ?_
    repeat (first | refine zdb ?_)
    try refine draw_nil ?_
    rw [show ((⟨⟨s0⟩⟩ : ByteArray).data.toList == (⟨⟨s0⟩⟩ : ByteArray).data.toList) = true from by simp]
    repeat (first | refine zdb ?_)
    try refine draw_nil ?_
    rw [hm0]
    repeat (first | refine zrb ?_ | (refine zn ?_; intro _))
    exact ⟨trivial, _, rfl, rfl⟩

  · have hc : ChainOf g [66] [[66], [65], [66, 97, 115, 101], objB] := by have := hm.ch [66]; cases m6 <;> exact this
    obtain ⟨il, fu, hil, hill⟩ : ∃ il fu, ifsF g fu [[66], [65], [66, 97, 115, 101], objB] [] = some il ∧ il.length ≤ 1000 := by
      obtain ⟨fu, h1⟩ := hm.ifl [66]
      have h2 := hm.ifll [66]
      cases m6 <;> exact ⟨_, fu, h1, h2⟩
    have hall : ∀ s ∈ ([[66], [65], [66, 97, 115, 101]] : List (List UInt8)), s ∈ [[66, 97, 115, 101], [65], [66], [77, 105, 100], [67], [68]] := by decide
    have hgs : ∀ s ∈ [[66], [65], [66, 97, 115, 101], objB], ∃ c, g s = some c ∧ c.core = true ∧ c.fl.length ≤ 1000 := by
      intro s hs
      by_cases ho : s = objB
      · subst ho; exact ⟨_, hN.gO, rfl, by decide⟩
      · obtain ⟨c, h1, h2, _, _, h5⟩ := near_cls hN (hall s (by simp only [List.mem_cons, List.not_mem_nil, or_false, ho] at hs ⊢; exact hs))
        exact ⟨c, h1, h2, by omega⟩
    have hpm : ∀ s ∈ ([[66], [65]] ++ [[66, 97, 115, 101]] : List (List UInt8)), s ∈ [[66, 97, 115, 101], [65], [66], [77, 105, 100], [67], [68]] := by decide
    have hfp : ∀ s ∈ ([[66], [65]] : List (List UInt8)), (getC g s).fl.find? (isF [120] false) = none := by
      intro s hs
      simp only [List.mem_cons, List.not_mem_nil, or_false] at hs
      rcases hs with rfl | rfl
      · rw [getC_eq hN.g6, hN.fam.h6.fl] <;> rfl
      · rw [getC_eq hN.g5, hN.fam.h5.fl] <;> rfl
    have hf0 : (getC g [66, 97, 115, 101]).fl.find? (isF [120] false) = some ⟨[120], 1, [], false⟩ := by rw [getC_eq hN.g4, hN.fam.h4.fl]; rfl
    (first | apply ops_pl rfl rfl rfl ?_ rfl ?_ | apply draw_pl rfl rfl rfl rfl ?_ rfl rfl ?_); rotate_left; focus exact (.p rfl (opP_idxo (z := 1) rfl rfl rfl rfl (by omega) (by omega)))
    repeat (first | refine zr ?_ | (refine zn ?_; intro _))
    refine ops_step rfl rfl rfl (step_call_fp [] _ rfl rfl rfl (List.Perm.refl _) (fun H hs hst => slots_ok hst ((hT.mono (by repeat first | exact List.Sublist.refl _ | apply List.Sublist.cons)).pure hs) hc (by decide) hgs) (fun v F' h => ?_))
    obtain ⟨la, ln, lc, lp, rfl, rfl, ownl⟩ := h
    rw [slots_B hN] at ownl
    obtain rfl : ln = 4 := by have h : 16 = ln * 4 := ownl.len; omega
    obtain ⟨lb, lver, rfl, rfl, rfl, hlen⟩ := ownl.inv (by decide)
    repeat (first | refine zr ?_ | (refine zn ?_; intro _))
    refine ops_step rfl rfl rfl (step_call_fp [] _ rfl rfl rfl (List.Perm.refl _) (fun H hs hst => chain_ok hst ((hT.mono (by repeat first | exact List.Sublist.refl _ | apply List.Sublist.cons)).pure hs) hc (by decide)) (fun v F' h => ?_))
    obtain ⟨ca, cn, cc, cp, rfl, rfl, ownc⟩ := h
    obtain rfl : cn = 4 := by have h : 4 = cn * 1 := ownc.len; omega
    repeat (first | refine zr ?_ | (refine zn ?_; intro _))
    refine ops_step rfl rfl rfl (step_call_pure rfl rfl rfl (fun H hs => field_ok (nm := [120]) (st := false) (pre := [[66], [65]]) (s0 := [66, 97, 115, 101]) (post := [objB]) (f0 := ⟨[120], 1, [], false⟩) ((hT.mono (by repeat first | exact List.Sublist.refl _ | apply List.Sublist.cons)).pure hs) hc (by decide) (fun s hs => by obtain ⟨c, h1, h2, _, _, h5⟩ := near_cls hN (hpm s hs); exact ⟨c, h1, h2, by omega⟩) hfp hf0) ?_)
    obtain ⟨pre, s0, post', m0, e1, e2, e3, e4⟩ := first_split (g := g) (post := [objB]) hbx [[66], [65]]
    replace e1 : [[66], [65], [66, 97, 115, 101], objB] = pre ++ s0 :: post' := e1
    have hlen2 : (pre ++ s0 :: post').length ≤ 1000 := by rw [← e1]; decide
    rw [e1] at hc hil
    have hmg : ∀ s ∈ pre ++ [s0], ∃ c, g s = some c ∧ c.core = true ∧ c.mN ≤ 1000000 := fun s hs => by
      obtain ⟨c, h1, h2, h3, _, _⟩ := near_cls hN (hall s (e4 s hs))
      exact ⟨c, h1, h2, by omega⟩
    have hmo : ∀ s ∈ pre ++ [s0], okMs (getC g s).ml := fun s hs => by
      obtain ⟨c, h1, _, _, h4, _⟩ := near_cls hN (hall s (e4 s hs))
      rw [getC_eq h1]; exact h4
    have hm0 : m0.st = false := (hmo s0 (by simp) m0 (List.mem_of_find?_eq_some e3) (of_decide_eq_true (show isN m0 = true from List.find?_some e3))).1
    repeat (first | refine zr ?_ | (refine zn ?_; intro _))
    refine ops_step rfl rfl rfl (step_call_pure rfl rfl rfl (fun H hs => virtual_ok ((hT.mono (by repeat first | exact List.Sublist.refl _ | apply List.Sublist.cons)).pure hs) hc hlen2 hmg hmo e2 e3) ?_)
    repeat (first | refine zr ?_ | (refine zn ?_; intro _))
    refine ops_step rfl rfl rfl (step_call_pure rfl rfl rfl (fun H hs => method_ok ((hT.mono (by repeat first | exact List.Sublist.refl _ | apply List.Sublist.cons)).pure hs) hc hlen2 hil hill hmg hmo e2 e3) ?_)
    repeat (first | refine zr ?_ | (refine zn ?_; intro _))

    refine exec_draw (lst := [(0, 0), (1, 1), (2, 3), (3, 3), (4, 15), (5, 31), (6, 63), (7, 127), (8, 255), (9, 511), (10, 1023), (11, 2047), (12, 4095), (13, 8191), (14, 16383), (15, 32767), (16, 32767), (17, 98303), (18, 229375), (19, 524287), (20, 1048575), (21, 32767), (22, 4194303), (23, 8388607), (24, 16777215), (25, 33554431), (26, 67108863), (27, 134217727), (28, 268435455), (29, 536870911), (30, 1073741823), (31, 1073741823), (32, 4294967295), (33, 8589934591), (34, 17179869183), (35, 34359738367), (36, 68719476735), (37, 137438953471), (38, 274877906943), (39, 549755813887)]) (full := 1099511627775) (by kernel_rfl) (by kernel_rfl) (by kernel_rfl) (by kernel_rfl) ?_
    repeat (first | refine zdb ?_)
    try refine draw_nil ?_
    rw [show ((⟨⟨s0⟩⟩ : ByteArray).data.toList == (⟨⟨s0⟩⟩ : ByteArray).data.toList) = true from by simp]
    repeat (first | refine zdb ?_)
    try refine draw_nil ?_
    rw [hm0]
    repeat (first | refine zrb ?_ | (refine zn ?_; intro _))
    exact ⟨trivial, _, rfl, rfl⟩

  · have hc : ChainOf g [66, 97, 115, 101] [[66, 97, 115, 101], objB] := by have := hm.ch [66, 97, 115, 101]; cases m6 <;> exact this
    obtain ⟨il, fu, hil, hill⟩ : ∃ il fu, ifsF g fu [[66, 97, 115, 101], objB] [] = some il ∧ il.length ≤ 1000 := by
      obtain ⟨fu, h1⟩ := hm.ifl [66, 97, 115, 101]
      have h2 := hm.ifll [66, 97, 115, 101]
      cases m6 <;> exact ⟨_, fu, h1, h2⟩
    have hall : ∀ s ∈ ([[66, 97, 115, 101]] : List (List UInt8)), s ∈ [[66, 97, 115, 101], [65], [66], [77, 105, 100], [67], [68]] := by decide
    have hgs : ∀ s ∈ [[66, 97, 115, 101], objB], ∃ c, g s = some c ∧ c.core = true ∧ c.fl.length ≤ 1000 := by
      intro s hs
      by_cases ho : s = objB
      · subst ho; exact ⟨_, hN.gO, rfl, by decide⟩
      · obtain ⟨c, h1, h2, _, _, h5⟩ := near_cls hN (hall s (by simp only [List.mem_cons, List.not_mem_nil, or_false, ho] at hs ⊢; exact hs))
        exact ⟨c, h1, h2, by omega⟩
    have hpm : ∀ s ∈ ([] ++ [[66, 97, 115, 101]] : List (List UInt8)), s ∈ [[66, 97, 115, 101], [65], [66], [77, 105, 100], [67], [68]] := by decide
    have hfp : ∀ s ∈ ([] : List (List UInt8)), (getC g s).fl.find? (isF [120] false) = none := by
      intro s hs
      cases hs
    have hf0 : (getC g [66, 97, 115, 101]).fl.find? (isF [120] false) = some ⟨[120], 1, [], false⟩ := by rw [getC_eq hN.g4, hN.fam.h4.fl]; rfl
    (first | apply ops_pl rfl rfl rfl ?_ rfl ?_ | apply draw_pl rfl rfl rfl rfl ?_ rfl rfl ?_); rotate_left; focus exact (.p rfl (opP_idxo (z := 1) rfl rfl rfl rfl (by omega) (by omega)))
    repeat (first | refine zr ?_ | (refine zn ?_; intro _))
    refine ops_step rfl rfl rfl (step_call_fp [] _ rfl rfl rfl (List.Perm.refl _) (fun H hs hst => slots_ok hst ((hT.mono (by repeat first | exact List.Sublist.refl _ | apply List.Sublist.cons)).pure hs) hc (by decide) hgs) (fun v F' h => ?_))
    obtain ⟨la, ln, lc, lp, rfl, rfl, ownl⟩ := h
    rw [slots_Base hN] at ownl
    obtain rfl : ln = 4 := by have h : 16 = ln * 4 := ownl.len; omega
    obtain ⟨lb, lver, rfl, rfl, rfl, hlen⟩ := ownl.inv (by decide)
    repeat (first | refine zr ?_ | (refine zn ?_; intro _))
    refine ops_step rfl rfl rfl (step_call_fp [] _ rfl rfl rfl (List.Perm.refl _) (fun H hs hst => chain_ok hst ((hT.mono (by repeat first | exact List.Sublist.refl _ | apply List.Sublist.cons)).pure hs) hc (by decide)) (fun v F' h => ?_))
    obtain ⟨ca, cn, cc, cp, rfl, rfl, ownc⟩ := h
    obtain rfl : cn = 2 := by have h : 2 = cn * 1 := ownc.len; omega
    repeat (first | refine zr ?_ | (refine zn ?_; intro _))
    refine ops_step rfl rfl rfl (step_call_pure rfl rfl rfl (fun H hs => field_ok (nm := [120]) (st := false) (pre := []) (s0 := [66, 97, 115, 101]) (post := [objB]) (f0 := ⟨[120], 1, [], false⟩) ((hT.mono (by repeat first | exact List.Sublist.refl _ | apply List.Sublist.cons)).pure hs) hc (by decide) (fun s hs => by obtain ⟨c, h1, h2, _, _, h5⟩ := near_cls hN (hpm s hs); exact ⟨c, h1, h2, by omega⟩) hfp hf0) ?_)
    obtain ⟨pre, s0, post', m0, e1, e2, e3, e4⟩ := first_split (g := g) (post := [objB]) hbx []
    replace e1 : [[66, 97, 115, 101], objB] = pre ++ s0 :: post' := e1
    have hlen2 : (pre ++ s0 :: post').length ≤ 1000 := by rw [← e1]; decide
    rw [e1] at hc hil
    have hmg : ∀ s ∈ pre ++ [s0], ∃ c, g s = some c ∧ c.core = true ∧ c.mN ≤ 1000000 := fun s hs => by
      obtain ⟨c, h1, h2, h3, _, _⟩ := near_cls hN (hall s (e4 s hs))
      exact ⟨c, h1, h2, by omega⟩
    have hmo : ∀ s ∈ pre ++ [s0], okMs (getC g s).ml := fun s hs => by
      obtain ⟨c, h1, _, _, h4, _⟩ := near_cls hN (hall s (e4 s hs))
      rw [getC_eq h1]; exact h4
    have hm0 : m0.st = false := (hmo s0 (by simp) m0 (List.mem_of_find?_eq_some e3) (of_decide_eq_true (show isN m0 = true from List.find?_some e3))).1
    repeat (first | refine zr ?_ | (refine zn ?_; intro _))
    refine ops_step rfl rfl rfl (step_call_pure rfl rfl rfl (fun H hs => virtual_ok ((hT.mono (by repeat first | exact List.Sublist.refl _ | apply List.Sublist.cons)).pure hs) hc hlen2 hmg hmo e2 e3) ?_)
    repeat (first | refine zr ?_ | (refine zn ?_; intro _))
    refine ops_step rfl rfl rfl (step_call_pure rfl rfl rfl (fun H hs => method_ok ((hT.mono (by repeat first | exact List.Sublist.refl _ | apply List.Sublist.cons)).pure hs) hc hlen2 hil hill hmg hmo e2 e3) ?_)
    repeat (first | refine zr ?_ | (refine zn ?_; intro _))

    refine exec_draw (lst := [(0, 0), (1, 1), (2, 3), (3, 3), (4, 15), (5, 31), (6, 63), (7, 127), (8, 255), (9, 511), (10, 1023), (11, 2047), (12, 4095), (13, 8191), (14, 16383), (15, 32767), (16, 32767), (17, 98303), (18, 229375), (19, 524287), (20, 1048575), (21, 32767), (22, 4194303), (23, 8388607), (24, 16777215), (25, 33554431), (26, 67108863), (27, 134217727), (28, 268435455), (29, 536870911), (30, 1073741823), (31, 1073741823), (32, 4294967295), (33, 8589934591), (34, 17179869183), (35, 34359738367), (36, 68719476735), (37, 137438953471), (38, 274877906943), (39, 549755813887)]) (full := 1099511627775) (by kernel_rfl) (by kernel_rfl) (by kernel_rfl) (by kernel_rfl) ?_
    repeat (first | refine zdb ?_)
    try refine draw_nil ?_
    rw [show ((⟨⟨s0⟩⟩ : ByteArray).data.toList == (⟨⟨s0⟩⟩ : ByteArray).data.toList) = true from by simp]
    repeat (first | refine zdb ?_)
    try refine draw_nil ?_
    rw [hm0]
    repeat (first | refine zrb ?_ | (refine zn ?_; intro _))
    exact ⟨trivial, _, rfl, rfl⟩

  · have hc : ChainOf g [77, 105, 100] [[77, 105, 100], [66, 97, 115, 101], objB] := by have := hm.ch [77, 105, 100]; cases m6 <;> exact this
    obtain ⟨il, fu, hil, hill⟩ : ∃ il fu, ifsF g fu [[77, 105, 100], [66, 97, 115, 101], objB] [] = some il ∧ il.length ≤ 1000 := by
      obtain ⟨fu, h1⟩ := hm.ifl [77, 105, 100]
      have h2 := hm.ifll [77, 105, 100]
      cases m6 <;> exact ⟨_, fu, h1, h2⟩
    have hall : ∀ s ∈ ([[77, 105, 100], [66, 97, 115, 101]] : List (List UInt8)), s ∈ [[66, 97, 115, 101], [65], [66], [77, 105, 100], [67], [68]] := by decide
    have hgs : ∀ s ∈ [[77, 105, 100], [66, 97, 115, 101], objB], ∃ c, g s = some c ∧ c.core = true ∧ c.fl.length ≤ 1000 := by
      intro s hs
      by_cases ho : s = objB
      · subst ho; exact ⟨_, hN.gO, rfl, by decide⟩
      · obtain ⟨c, h1, h2, _, _, h5⟩ := near_cls hN (hall s (by simp only [List.mem_cons, List.not_mem_nil, or_false, ho] at hs ⊢; exact hs))
        exact ⟨c, h1, h2, by omega⟩
    have hpm : ∀ s ∈ ([[77, 105, 100]] ++ [[66, 97, 115, 101]] : List (List UInt8)), s ∈ [[66, 97, 115, 101], [65], [66], [77, 105, 100], [67], [68]] := by decide
    have hfp : ∀ s ∈ ([[77, 105, 100]] : List (List UInt8)), (getC g s).fl.find? (isF [120] false) = none := by
      intro s hs
      simp only [List.mem_cons, List.not_mem_nil, or_false] at hs
      subst hs; rw [getC_eq hN.g7, hN.fam.h7.fl] <;> rfl
    have hf0 : (getC g [66, 97, 115, 101]).fl.find? (isF [120] false) = some ⟨[120], 1, [], false⟩ := by rw [getC_eq hN.g4, hN.fam.h4.fl]; rfl
    (first | apply ops_pl rfl rfl rfl ?_ rfl ?_ | apply draw_pl rfl rfl rfl rfl ?_ rfl rfl ?_); rotate_left; focus exact (.p rfl (opP_idxo (z := 1) rfl rfl rfl rfl (by omega) (by omega)))
    repeat (first | refine zr ?_ | (refine zn ?_; intro _))
    refine ops_step rfl rfl rfl (step_call_fp [] _ rfl rfl rfl (List.Perm.refl _) (fun H hs hst => slots_ok hst ((hT.mono (by repeat first | exact List.Sublist.refl _ | apply List.Sublist.cons)).pure hs) hc (by decide) hgs) (fun v F' h => ?_))
    obtain ⟨la, ln, lc, lp, rfl, rfl, ownl⟩ := h
    rw [slots_Mid hN] at ownl
    obtain rfl : ln = 5 := by have h : 20 = ln * 4 := ownl.len; omega
    obtain ⟨lb, lver, rfl, rfl, rfl, hlen⟩ := ownl.inv (by decide)
    repeat (first | refine zr ?_ | (refine zn ?_; intro _))
    refine ops_step rfl rfl rfl (step_call_fp [] _ rfl rfl rfl (List.Perm.refl _) (fun H hs hst => chain_ok hst ((hT.mono (by repeat first | exact List.Sublist.refl _ | apply List.Sublist.cons)).pure hs) hc (by decide)) (fun v F' h => ?_))
    obtain ⟨ca, cn, cc, cp, rfl, rfl, ownc⟩ := h
    obtain rfl : cn = 3 := by have h : 3 = cn * 1 := ownc.len; omega
    repeat (first | refine zr ?_ | (refine zn ?_; intro _))
    refine ops_step rfl rfl rfl (step_call_pure rfl rfl rfl (fun H hs => field_ok (nm := [120]) (st := false) (pre := [[77, 105, 100]]) (s0 := [66, 97, 115, 101]) (post := [objB]) (f0 := ⟨[120], 1, [], false⟩) ((hT.mono (by repeat first | exact List.Sublist.refl _ | apply List.Sublist.cons)).pure hs) hc (by decide) (fun s hs => by obtain ⟨c, h1, h2, _, _, h5⟩ := near_cls hN (hpm s hs); exact ⟨c, h1, h2, by omega⟩) hfp hf0) ?_)
    obtain ⟨pre, s0, post', m0, e1, e2, e3, e4⟩ := first_split (g := g) (post := [objB]) hbx [[77, 105, 100]]
    replace e1 : [[77, 105, 100], [66, 97, 115, 101], objB] = pre ++ s0 :: post' := e1
    have hlen2 : (pre ++ s0 :: post').length ≤ 1000 := by rw [← e1]; decide
    rw [e1] at hc hil
    have hmg : ∀ s ∈ pre ++ [s0], ∃ c, g s = some c ∧ c.core = true ∧ c.mN ≤ 1000000 := fun s hs => by
      obtain ⟨c, h1, h2, h3, _, _⟩ := near_cls hN (hall s (e4 s hs))
      exact ⟨c, h1, h2, by omega⟩
    have hmo : ∀ s ∈ pre ++ [s0], okMs (getC g s).ml := fun s hs => by
      obtain ⟨c, h1, _, _, h4, _⟩ := near_cls hN (hall s (e4 s hs))
      rw [getC_eq h1]; exact h4
    have hm0 : m0.st = false := (hmo s0 (by simp) m0 (List.mem_of_find?_eq_some e3) (of_decide_eq_true (show isN m0 = true from List.find?_some e3))).1
    repeat (first | refine zr ?_ | (refine zn ?_; intro _))
    refine ops_step rfl rfl rfl (step_call_pure rfl rfl rfl (fun H hs => virtual_ok ((hT.mono (by repeat first | exact List.Sublist.refl _ | apply List.Sublist.cons)).pure hs) hc hlen2 hmg hmo e2 e3) ?_)
    repeat (first | refine zr ?_ | (refine zn ?_; intro _))
    refine ops_step rfl rfl rfl (step_call_pure rfl rfl rfl (fun H hs => method_ok ((hT.mono (by repeat first | exact List.Sublist.refl _ | apply List.Sublist.cons)).pure hs) hc hlen2 hil hill hmg hmo e2 e3) ?_)
    repeat (first | refine zr ?_ | (refine zn ?_; intro _))

    refine exec_draw (lst := [(0, 0), (1, 1), (2, 3), (3, 3), (4, 15), (5, 31), (6, 63), (7, 127), (8, 255), (9, 511), (10, 1023), (11, 2047), (12, 4095), (13, 8191), (14, 16383), (15, 32767), (16, 32767), (17, 98303), (18, 229375), (19, 524287), (20, 1048575), (21, 32767), (22, 4194303), (23, 8388607), (24, 16777215), (25, 33554431), (26, 67108863), (27, 134217727), (28, 268435455), (29, 536870911), (30, 1073741823), (31, 1073741823), (32, 4294967295), (33, 8589934591), (34, 17179869183), (35, 34359738367), (36, 68719476735), (37, 137438953471), (38, 274877906943), (39, 549755813887)]) (full := 1099511627775) (by kernel_rfl) (by kernel_rfl) (by kernel_rfl) (by kernel_rfl) ?_
    repeat (first | refine zdb ?_)
    try refine draw_nil ?_
    rw [show ((⟨⟨s0⟩⟩ : ByteArray).data.toList == (⟨⟨s0⟩⟩ : ByteArray).data.toList) = true from by simp]
    repeat (first | refine zdb ?_)
    try refine draw_nil ?_
    rw [hm0]
    repeat (first | refine zrb ?_ | (refine zn ?_; intro _))
    exact ⟨trivial, _, rfl, rfl⟩

  · have hc : ChainOf g [67] [[67], [77, 105, 100], [66, 97, 115, 101], objB] := by have := hm.ch [67]; cases m6 <;> exact this
    obtain ⟨il, fu, hil, hill⟩ : ∃ il fu, ifsF g fu [[67], [77, 105, 100], [66, 97, 115, 101], objB] [] = some il ∧ il.length ≤ 1000 := by
      obtain ⟨fu, h1⟩ := hm.ifl [67]
      have h2 := hm.ifll [67]
      cases m6 <;> exact ⟨_, fu, h1, h2⟩
    have hall : ∀ s ∈ ([[67], [77, 105, 100], [66, 97, 115, 101]] : List (List UInt8)), s ∈ [[66, 97, 115, 101], [65], [66], [77, 105, 100], [67], [68]] := by decide
    have hgs : ∀ s ∈ [[67], [77, 105, 100], [66, 97, 115, 101], objB], ∃ c, g s = some c ∧ c.core = true ∧ c.fl.length ≤ 1000 := by
      intro s hs
      by_cases ho : s = objB
      · subst ho; exact ⟨_, hN.gO, rfl, by decide⟩
      · obtain ⟨c, h1, h2, _, _, h5⟩ := near_cls hN (hall s (by simp only [List.mem_cons, List.not_mem_nil, or_false, ho] at hs ⊢; exact hs))
        exact ⟨c, h1, h2, by omega⟩
    have hpm : ∀ s ∈ ([[67], [77, 105, 100]] ++ [[66, 97, 115, 101]] : List (List UInt8)), s ∈ [[66, 97, 115, 101], [65], [66], [77, 105, 100], [67], [68]] := by decide
    have hfp : ∀ s ∈ ([[67], [77, 105, 100]] : List (List UInt8)), (getC g s).fl.find? (isF [120] false) = none := by
      intro s hs
      simp only [List.mem_cons, List.not_mem_nil, or_false] at hs
      rcases hs with rfl | rfl
      · rw [getC_eq hN.g8, hN.fam.h8.fl] <;> rfl
      · rw [getC_eq hN.g7, hN.fam.h7.fl] <;> rfl
    have hf0 : (getC g [66, 97, 115, 101]).fl.find? (isF [120] false) = some ⟨[120], 1, [], false⟩ := by rw [getC_eq hN.g4, hN.fam.h4.fl]; rfl
    (first | apply ops_pl rfl rfl rfl ?_ rfl ?_ | apply draw_pl rfl rfl rfl rfl ?_ rfl rfl ?_); rotate_left; focus exact (.p rfl (opP_idxo (z := 1) rfl rfl rfl rfl (by omega) (by omega)))
    repeat (first | refine zr ?_ | (refine zn ?_; intro _))
    refine ops_step rfl rfl rfl (step_call_fp [] _ rfl rfl rfl (List.Perm.refl _) (fun H hs hst => slots_ok hst ((hT.mono (by repeat first | exact List.Sublist.refl _ | apply List.Sublist.cons)).pure hs) hc (by decide) hgs) (fun v F' h => ?_))
    obtain ⟨la, ln, lc, lp, rfl, rfl, ownl⟩ := h
    rw [slots_C hN] at ownl
    obtain rfl : ln = 5 := by have h : 20 = ln * 4 := ownl.len; omega
    obtain ⟨lb, lver, rfl, rfl, rfl, hlen⟩ := ownl.inv (by decide)
    repeat (first | refine zr ?_ | (refine zn ?_; intro _))
    refine ops_step rfl rfl rfl (step_call_fp [] _ rfl rfl rfl (List.Perm.refl _) (fun H hs hst => chain_ok hst ((hT.mono (by repeat first | exact List.Sublist.refl _ | apply List.Sublist.cons)).pure hs) hc (by decide)) (fun v F' h => ?_))
    obtain ⟨ca, cn, cc, cp, rfl, rfl, ownc⟩ := h
    obtain rfl : cn = 4 := by have h : 4 = cn * 1 := ownc.len; omega
    repeat (first | refine zr ?_ | (refine zn ?_; intro _))
    refine ops_step rfl rfl rfl (step_call_pure rfl rfl rfl (fun H hs => field_ok (nm := [120]) (st := false) (pre := [[67], [77, 105, 100]]) (s0 := [66, 97, 115, 101]) (post := [objB]) (f0 := ⟨[120], 1, [], false⟩) ((hT.mono (by repeat first | exact List.Sublist.refl _ | apply List.Sublist.cons)).pure hs) hc (by decide) (fun s hs => by obtain ⟨c, h1, h2, _, _, h5⟩ := near_cls hN (hpm s hs); exact ⟨c, h1, h2, by omega⟩) hfp hf0) ?_)
    obtain ⟨pre, s0, post', m0, e1, e2, e3, e4⟩ := first_split (g := g) (post := [objB]) hbx [[67], [77, 105, 100]]
    replace e1 : [[67], [77, 105, 100], [66, 97, 115, 101], objB] = pre ++ s0 :: post' := e1
    have hlen2 : (pre ++ s0 :: post').length ≤ 1000 := by rw [← e1]; decide
    rw [e1] at hc hil
    have hmg : ∀ s ∈ pre ++ [s0], ∃ c, g s = some c ∧ c.core = true ∧ c.mN ≤ 1000000 := fun s hs => by
      obtain ⟨c, h1, h2, h3, _, _⟩ := near_cls hN (hall s (e4 s hs))
      exact ⟨c, h1, h2, by omega⟩
    have hmo : ∀ s ∈ pre ++ [s0], okMs (getC g s).ml := fun s hs => by
      obtain ⟨c, h1, _, _, h4, _⟩ := near_cls hN (hall s (e4 s hs))
      rw [getC_eq h1]; exact h4
    have hm0 : m0.st = false := (hmo s0 (by simp) m0 (List.mem_of_find?_eq_some e3) (of_decide_eq_true (show isN m0 = true from List.find?_some e3))).1
    repeat (first | refine zr ?_ | (refine zn ?_; intro _))
    refine ops_step rfl rfl rfl (step_call_pure rfl rfl rfl (fun H hs => virtual_ok ((hT.mono (by repeat first | exact List.Sublist.refl _ | apply List.Sublist.cons)).pure hs) hc hlen2 hmg hmo e2 e3) ?_)
    repeat (first | refine zr ?_ | (refine zn ?_; intro _))
    refine ops_step rfl rfl rfl (step_call_pure rfl rfl rfl (fun H hs => method_ok ((hT.mono (by repeat first | exact List.Sublist.refl _ | apply List.Sublist.cons)).pure hs) hc hlen2 hil hill hmg hmo e2 e3) ?_)
    repeat (first | refine zr ?_ | (refine zn ?_; intro _))

    refine exec_draw (lst := [(0, 0), (1, 1), (2, 3), (3, 3), (4, 15), (5, 31), (6, 63), (7, 127), (8, 255), (9, 511), (10, 1023), (11, 2047), (12, 4095), (13, 8191), (14, 16383), (15, 32767), (16, 32767), (17, 98303), (18, 229375), (19, 524287), (20, 1048575), (21, 32767), (22, 4194303), (23, 8388607), (24, 16777215), (25, 33554431), (26, 67108863), (27, 134217727), (28, 268435455), (29, 536870911), (30, 1073741823), (31, 1073741823), (32, 4294967295), (33, 8589934591), (34, 17179869183), (35, 34359738367), (36, 68719476735), (37, 137438953471), (38, 274877906943), (39, 549755813887)]) (full := 1099511627775) (by kernel_rfl) (by kernel_rfl) (by kernel_rfl) (by kernel_rfl) ?_
    repeat (first | refine zdb ?_)
    try refine draw_nil ?_
    rw [show ((⟨⟨s0⟩⟩ : ByteArray).data.toList == (⟨⟨s0⟩⟩ : ByteArray).data.toList) = true from by simp]
    repeat (first | refine zdb ?_)
    try refine draw_nil ?_
    rw [hm0]
    repeat (first | refine zrb ?_ | (refine zn ?_; intro _))
    exact ⟨trivial, _, rfl, rfl⟩

  · have hc : ChainOf g [68] [[68], [66, 97, 115, 101], objB] := by have := hm.ch [68]; cases m6 <;> exact this
    obtain ⟨il, fu, hil, hill⟩ : ∃ il fu, ifsF g fu [[68], [66, 97, 115, 101], objB] [] = some il ∧ il.length ≤ 1000 := by
      obtain ⟨fu, h1⟩ := hm.ifl [68]
      have h2 := hm.ifll [68]
      cases m6 <;> exact ⟨_, fu, h1, h2⟩
    have hall : ∀ s ∈ ([[68], [66, 97, 115, 101]] : List (List UInt8)), s ∈ [[66, 97, 115, 101], [65], [66], [77, 105, 100], [67], [68]] := by decide
    have hgs : ∀ s ∈ [[68], [66, 97, 115, 101], objB], ∃ c, g s = some c ∧ c.core = true ∧ c.fl.length ≤ 1000 := by
      intro s hs
      by_cases ho : s = objB
      · subst ho; exact ⟨_, hN.gO, rfl, by decide⟩
      · obtain ⟨c, h1, h2, _, _, h5⟩ := near_cls hN (hall s (by simp only [List.mem_cons, List.not_mem_nil, or_false, ho] at hs ⊢; exact hs))
        exact ⟨c, h1, h2, by omega⟩
    have hpm : ∀ s ∈ ([] ++ [[68]] : List (List UInt8)), s ∈ [[66, 97, 115, 101], [65], [66], [77, 105, 100], [67], [68]] := by decide
    have hfp : ∀ s ∈ ([] : List (List UInt8)), (getC g s).fl.find? (isF [120] false) = none := by
      intro s hs
      cases hs
    have hf0 : (getC g [68]).fl.find? (isF [120] false) = some ⟨[120], 2, [], false⟩ := by rw [getC_eq hN.g9, hN.fam.h9.fl]; rfl
    (first | apply ops_pl rfl rfl rfl ?_ rfl ?_ | apply draw_pl rfl rfl rfl rfl ?_ rfl rfl ?_); rotate_left; focus exact (.p rfl (opP_idxo (z := 1) rfl rfl rfl rfl (by omega) (by omega)))
    repeat (first | refine zr ?_ | (refine zn ?_; intro _))
    refine ops_step rfl rfl rfl (step_call_fp [] _ rfl rfl rfl (List.Perm.refl _) (fun H hs hst => slots_ok hst ((hT.mono (by repeat first | exact List.Sublist.refl _ | apply List.Sublist.cons)).pure hs) hc (by decide) hgs) (fun v F' h => ?_))
    obtain ⟨la, ln, lc, lp, rfl, rfl, ownl⟩ := h
    rw [slots_D hN] at ownl
    obtain rfl : ln = 5 := by have h : 20 = ln * 4 := ownl.len; omega
    obtain ⟨lb, lver, rfl, rfl, rfl, hlen⟩ := ownl.inv (by decide)
    repeat (first | refine zr ?_ | (refine zn ?_; intro _))
    refine ops_step rfl rfl rfl (step_call_fp [] _ rfl rfl rfl (List.Perm.refl _) (fun H hs hst => chain_ok hst ((hT.mono (by repeat first | exact List.Sublist.refl _ | apply List.Sublist.cons)).pure hs) hc (by decide)) (fun v F' h => ?_))
    obtain ⟨ca, cn, cc, cp, rfl, rfl, ownc⟩ := h
    obtain rfl : cn = 3 := by have h : 3 = cn * 1 := ownc.len; omega
    repeat (first | refine zr ?_ | (refine zn ?_; intro _))
    refine ops_step rfl rfl rfl (step_call_pure rfl rfl rfl (fun H hs => field_ok (nm := [120]) (st := false) (pre := []) (s0 := [68]) (post := [[66, 97, 115, 101], objB]) (f0 := ⟨[120], 2, [], false⟩) ((hT.mono (by repeat first | exact List.Sublist.refl _ | apply List.Sublist.cons)).pure hs) hc (by decide) (fun s hs => by obtain ⟨c, h1, h2, _, _, h5⟩ := near_cls hN (hpm s hs); exact ⟨c, h1, h2, by omega⟩) hfp hf0) ?_)
    obtain ⟨pre, s0, post', m0, e1, e2, e3, e4⟩ := first_split (g := g) (post := [objB]) hbx [[68]]
    replace e1 : [[68], [66, 97, 115, 101], objB] = pre ++ s0 :: post' := e1
    have hlen2 : (pre ++ s0 :: post').length ≤ 1000 := by rw [← e1]; decide
    rw [e1] at hc hil
    have hmg : ∀ s ∈ pre ++ [s0], ∃ c, g s = some c ∧ c.core = true ∧ c.mN ≤ 1000000 := fun s hs => by
      obtain ⟨c, h1, h2, h3, _, _⟩ := near_cls hN (hall s (e4 s hs))
      exact ⟨c, h1, h2, by omega⟩
    have hmo : ∀ s ∈ pre ++ [s0], okMs (getC g s).ml := fun s hs => by
      obtain ⟨c, h1, _, _, h4, _⟩ := near_cls hN (hall s (e4 s hs))
      rw [getC_eq h1]; exact h4
    have hm0 : m0.st = false := (hmo s0 (by simp) m0 (List.mem_of_find?_eq_some e3) (of_decide_eq_true (show isN m0 = true from List.find?_some e3))).1
    repeat (first | refine zr ?_ | (refine zn ?_; intro _))
    refine ops_step rfl rfl rfl (step_call_pure rfl rfl rfl (fun H hs => virtual_ok ((hT.mono (by repeat first | exact List.Sublist.refl _ | apply List.Sublist.cons)).pure hs) hc hlen2 hmg hmo e2 e3) ?_)
    repeat (first | refine zr ?_ | (refine zn ?_; intro _))
    refine ops_step rfl rfl rfl (step_call_pure rfl rfl rfl (fun H hs => method_ok ((hT.mono (by repeat first | exact List.Sublist.refl _ | apply List.Sublist.cons)).pure hs) hc hlen2 hil hill hmg hmo e2 e3) ?_)
    repeat (first | refine zr ?_ | (refine zn ?_; intro _))

    refine exec_draw (lst := [(0, 0), (1, 1), (2, 3), (3, 3), (4, 15), (5, 31), (6, 63), (7, 127), (8, 255), (9, 511), (10, 1023), (11, 2047), (12, 4095), (13, 8191), (14, 16383), (15, 32767), (16, 32767), (17, 98303), (18, 229375), (19, 524287), (20, 1048575), (21, 32767), (22, 4194303), (23, 8388607), (24, 16777215), (25, 33554431), (26, 67108863), (27, 134217727), (28, 268435455), (29, 536870911), (30, 1073741823), (31, 1073741823), (32, 4294967295), (33, 8589934591), (34, 17179869183), (35, 34359738367), (36, 68719476735), (37, 137438953471), (38, 274877906943), (39, 549755813887)]) (full := 1099511627775) (by kernel_rfl) (by kernel_rfl) (by kernel_rfl) (by kernel_rfl) ?_
    repeat (first | refine zdb ?_)
    try refine draw_nil ?_
    rw [show ((⟨⟨s0⟩⟩ : ByteArray).data.toList == (⟨⟨s0⟩⟩ : ByteArray).data.toList) = true from by simp]
    repeat (first | refine zdb ?_)
    try refine draw_nil ?_
    rw [hm0]
    repeat (first | refine zrb ?_ | (refine zn ?_; intro _))
    exact ⟨trivial, _, rfl, rfl⟩

end Go.Proofs.Ythifbkjkiijkoaa

