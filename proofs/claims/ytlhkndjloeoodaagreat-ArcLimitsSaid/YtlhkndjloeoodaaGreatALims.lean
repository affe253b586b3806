/-
  Lemmas for the laws of this seat.
-/
import Derived.Test.YtlhkndjloeoodaaGreatK11
import Derived.Test.YtlhkndjloeoodaaGreatALim
set_option linter.unusedVariables false
set_option linter.unusedSimpArgs false
namespace Go.Proofs.YtlhkndjloeoodaaGreat
open Go.Ev Go.Ev.Wk
variable {O : Old}
theorem rep_one {α : Type} {f : α → List Value} (i : Nat) (x : α) : (List.replicate (i + 1) x).flatMap f = (List.replicate i x).flatMap f ++ f x := by rw [List.replicate_succ', flat_one]
theorem rep_map {α : Type} {f : α → Value} (i : Nat) (x : α) : (List.replicate (i + 1) x).map f = (List.replicate i x).map f ++ [f x] := by rw [List.replicate_succ', List.map_append]; rfl
abbrev limL (ia : Option Addr) (n ic : Nat) (fa : Option Addr) (fn fc : Nat) (ma : Option Addr) (mn mc : Nat) : List Value := [str [67], str [79, 98, 106, 101, 99, 116], .slice ia n ic, .int .i64 1, .slice fa fn fc, .slice ma mn mc]
abbrev limCV (ifs : List (List UInt8)) (fl : List FV) (ml : List MV) (ia : Option Addr) (ic : Nat) (fa : Option Addr) (fc : Nat) (ma : Option Addr) (mc : Nat) : CV := ⟨[67], [79, 98, 106, 101, 99, 116], ifs, 1, fl, ml, ia, ic, fa, fc, ma, mc⟩
abbrev limML (pa : Option Addr) (pn pc : Nat) (lo : Int) (ca : Option Addr) (cn cc : Nat) (ha : Option Addr) (hn hc : Nat) : List Value := [str [109], .slice pa pn pc, .int .i64 5, str [], .bool false, .bool false, .int .i64 lo, .slice ca cn cc, .slice ha hn hc]
abbrev limMV (ps : List (Int × List UInt8)) (lo : Int) (cl : List Ins) (hl : List HV) (pa : Option Addr) (pc : Nat) (ca : Option Addr) (cc : Nat) (ha : Option Addr) (hc : Nat) : MV := ⟨limM ps lo cl hl, pa, pc, ca, cc, ha, hc⟩
abbrev cb0 (cb : Nat) (l : List Value) : Option Nat × Cont := (some cb, .cells 0 l 0 52)
abbrev ab0 (ab : Nat) (a : Option Addr) (n c : Nat) : Option Nat × Cont := (some ab, .cells 0 [.slice a n c] 0 24)
abbrev mb0 (mb : Nat) (l : List Value) : Option Nat × Cont := (some mb, .cells 0 l 0 59)
abbrev lim0 : CV := limCV [] [] [] none 0 none 0 none 0
abbrev lim73 : List UInt8 := [73]
abbrev limT : Int × List UInt8 := (1, [])
theorem rep_typ (i : Nat) (x : Int × List UInt8) : typC (List.replicate (i + 1) x) = typC (List.replicate i x) ++ [.int .i64 x.1, str x.2] := by
  rw [List.replicate_succ', typC_app]; rfl
theorem lim_m {Z : Atoms} {mv : MV} {lb : Nat} (h1 : Rd Z fun H => MethF O H mv) (h2 : Rd Z fun H => Sl O H (.slice (some ⟨lb, 0, some 0⟩) 1 1) 9 1 mv.cells) : Rd Z fun H => ClsF O H (limCV [] [] [mv] none 0 none 0 (some ⟨lb, 0, some 0⟩) 1) :=
  fun X H0 H hst => ⟨Sl.nil, Sl.nil, h2 X H0 H hst, fun m hm => by cases List.mem_singleton.1 hm; exact h1 X H0 H hst⟩
theorem LimA.g {cl : List CV} {d : Int} {Z : Atoms} {a : Option Addr} {k : Nat} (h : LimA (cl.map CV.pc) d) (hn : cl.length ≤ 1000000) (r : Rd Z fun H => ArcF O H a k cl) : ArcG O Z a k cl :=
  ⟨r, fun c hc => h.wf _ (List.mem_map_of_mem hc), hn, by have := h.cnt; omega⟩
theorem LimA.empty {cl : List PC} {d : Int} (h : LimA cl d) (hd : ¬ d ≤ 0) : putA cl = [] := by
  have h1 := h.right
  rw [decide_eq_false hd] at h1
  rw [putA, h1]; rfl
set_option maxHeartbeats 64000000 in
set_option maxRecDepth 100000 in
theorem arcLimits_walk {w n : Int} (hw : 0 ≤ w ∧ w ≤ 255) (hn : 0 ≤ n ∧ n ≤ 255) : CallC TT O 7 [.int .u8 w, .int .u8 n] .empty fun v H' => v = .bool true ∧ Ext .empty H' := by
  have hm : n.tmod 5 = ((n.toNat % 5 : Nat) : Int) := tmodN (m := 5) (by omega) (by omega)
  have hm7 : w.tmod 7 = ((w.toNat % 7 : Nat) : Int) := tmodN (m := 7) (by omega) (by omega)
  refine call_pure rfl rfl rfl rfl rfl ?_
  repeat (first | refine zrb ?_ | (refine zn ?_; intro _))
  refine ops_step rfl rfl rfl (step_call_pure rfl rfl rfl (fun H hs => known_walk) ?_)
  repeat (first | refine zob ?_ | (refine zn ?_; intro _))
  refine ops_nil ?_
  refine exec_false rfl ?_
  refine exec_skip ?_
  refine exec_seq ?_
  refine exec_region ?_
  repeat (first | refine zob ?_ | (refine zn ?_; intro _))
  refine ops_nil ?_
  obtain ⟨d, hd⟩ : ∃ d : Int, d = n.tmod 5 - 2 := ⟨_, rfl⟩
  have hd2 : -2 ≤ d ∧ d ≤ 2 := by omega
  refine exec_seq ?_
  rw [← hd]
  clear hd hm
  refine exec_region ?_
  repeat (first | refine zo ?_ | (refine zn ?_; intro _))
  refine ops_nil ?_
  refine exec_seq ?_
  refine exec_region ?_
  repeat (first | refine zo ?_ | (refine zn ?_; intro _))
  refine ops_nil ?_
  refine exec_seq ?_
  refine exec_region ?_
  repeat (first | refine zo ?_ | (refine zn ?_; intro _))
  refine ops_nil ?_
  rename_i cb ab
  refine exec_seq ?_
  refine ExecS.weak (E' := [(0, .int .u8 w), (5, .int .i64 d), (6, ptr cb), (7, ptr ab)]) (L' := [ab0 ab none 0 0, cb0 cb (limL none 0 0 none 0 0 none 0 0)]) ⟨rfl, rfl, rfl, rfl, trivial⟩ (.refl _) ?_
  refine ExecS.reord [1] rfl ?_
  refine exec_midQ (fun E L => SubE [(5, .int .i64 d), (6, ptr cb), (7, ptr ab)] E ∧ ∃ (cv : CV) (Z : Atoms), LimA [cv.pc] d ∧ Rd Z (fun H => ClsF O H cv) ∧ ∃ L', L.Perm L' ∧ ((cb0 cb cv.cells) :: (ab0 ab none 0 0) :: Z).Sublist L') ?_ ?_
  rotate_left
  · rintro E L ⟨hE, cv, Z, hA, hZ, L', hP, hL⟩
    refine ExecS.weak hE (.refl _) ?_
    refine ExecS.perm hP ?_
    refine ExecS.weakL hL ?_
    clear hE hP hL
    repeat (first | refine zrb ?_ | (refine zn ?_; intro _))
    rename_i lb
    have hs0 : Rd ([(some lb, .cells 0 cv.cells 6 52), cb0 cb cv.cells, ab0 ab (some ⟨lb, 0, some 0⟩) 1 1] ++ Z) (fun H => ArcF O H (some ⟨lb, 0, some 0⟩) 1 [cv]) := fun X H0 H hst =>
      ⟨Rd.sl (i := 0) (Z := (some lb, .cells 0 cv.cells 6 52) :: _) rfl rfl 1 X H0 H hst, fun c hc => by cases List.mem_singleton.1 hc; exact (hZ.mono (List.sublist_append_right _ _)) X H0 H hst⟩
    have g : ArcG O ([(some lb, .cells 0 cv.cells 6 52), cb0 cb cv.cells, ab0 ab (some ⟨lb, 0, some 0⟩) 1 1] ++ Z) (some ⟨lb, 0, some 0⟩) 1 [cv] := LimA.g (cl := [cv]) hA (by simp) hs0
    clear hs0 hZ
    have hle : (putA [cv.pc]).length ≤ 1000000 := putA_le hA.sh hA.wf hA.cnt
    have hwm : ∀ c ∈ [cv.pc], WfC c := hA.wf
    refine ops_step rfl rfl rfl (step_call_fp [] _ rfl rfl rfl (List.Perm.refl _) (fun H hs hst => putG g hs) (fun v2 F2 h2 => ?_))
    obtain ⟨pa, pn, pc, rfl, hpn, rP⟩ := h2
    have hpn' : pn = (putA [cv.pc]).length := hpn
    refine OpsS.perm (List.perm_append_comm_assoc F2 [_, _, _] Z) ?_
    replace g := g.mono (Z' := [_, _, _] ++ (F2 ++ Z)) ((List.sublist_append_right F2 Z).append_left _)
    replace rP := rP.mono (Z' := [(some lb, .cells 0 cv.cells 6 52), cb0 cb cv.cells, ab0 ab (some ⟨lb, 0, some 0⟩) 1 1] ++ (F2 ++ Z)) ((List.sublist_append_left F2 Z).trans (List.sublist_append_right _ _))
    generalize F2 ++ Z = Z2 at g rP ⊢
    repeat (first | refine zrb ?_ | (refine zn ?_; intro _))
    refine ops_step rfl rfl rfl (step_call_fp [] _ rfl rfl rfl (List.Perm.refl _) (fun H hs hst => readG rP hs (by omega)) (fun v3 F3 h3 => ?_))
    obtain ⟨cl3, a3, k3, rfl, hp3, g3⟩ := h3
    have hp3' : cl3.map CV.pc = (readA (putA [cv.pc])).1 := hp3
    refine OpsS.perm (List.perm_append_comm_assoc F3 [_, _, _] Z2) ?_
    replace g := g.mono (Z' := [_, _, _] ++ (F3 ++ Z2)) ((List.sublist_append_right F3 Z2).append_left _)
    replace g3 := g3.mono (Z' := [(some lb, .cells 0 cv.cells 6 52), cb0 cb cv.cells, ab0 ab (some ⟨lb, 0, some 0⟩) 1 1] ++ (F3 ++ Z2)) ((List.sublist_append_left F3 Z2).trans (List.sublist_append_right _ _))
    generalize F3 ++ Z2 = Z3 at g g3 ⊢
    clear rP hp3 hpn
    have e4 : ((readA (putA (List.map CV.pc [cv]))).2 : Int) = (readA (putA [cv.pc])).2 := rfl
    rw [e4]
    repeat (first | refine zrb ?_ | (refine zn ?_; intro _))
    rename_i b19
    replace g := g.mono (.cons (some b19, .cells 0 [.slice a3 cl3.length k3] 0 24) (.refl _))
    replace g3 := g3.mono (.cons (some b19, .cells 0 [.slice a3 cl3.length k3] 0 24) (.refl _))
    by_cases hd0 : d ≤ 0
    · have hr : rightA [cv.pc] = true := by rw [hA.right]; exact decide_eq_true hd0
      have hge := putA_ge hr
      rw [read_put hr hwm] at hp3' ⊢
      refine ops_step rfl rfl rfl (step_call_pure rfl rfl rfl (fun H hs => rightX g hs hr) ?_)
      repeat (first | refine zrb ?_ | (refine zn ?_; intro _))
      rw [decide_eq_true hd0]
      repeat (first | refine zrb ?_ | (refine zn ?_; intro _))
      rw [show decide ((pn : Int) > 0) = true from decide_eq_true (by omega), decide_eq_true hd0]
      repeat (first | refine zrb ?_ | (refine zn ?_; intro _))
      rw [show decide (d > 0) = false from decide_eq_false (by omega)]
      repeat (first | refine zrb ?_ | (refine zn ?_; intro _))
      refine ops_step rfl rfl rfl (step_call_pure rfl rfl rfl (fun H hs => sameT g3 g hs hp3') ?_)
      repeat (first | refine zrb ?_ | (refine zn ?_; intro _))
      exact ⟨trivial, _, rfl, rfl⟩
    · have hr : rightA [cv.pc] = false := by rw [hA.right]; exact decide_eq_false hd0
      have he := hA.empty hd0
      have hpn0 : pn = 0 := by rw [hpn', he]; rfl
      refine ops_step rfl rfl rfl (step_call_pure rfl rfl rfl (fun H hs => rightX g hs hr) ?_)
      repeat (first | refine zrb ?_ | (refine zn ?_; intro _))
      rw [decide_eq_false hd0]
      repeat (first | refine zrb ?_ | (refine zn ?_; intro _))
      rw [show decide ((pn : Int) > 0) = false from decide_eq_false (by omega), decide_eq_false hd0]
      repeat (first | refine zrb ?_ | (refine zn ?_; intro _))
      rw [show decide (d > 0) = true from decide_eq_true (by omega)]
      repeat (first | refine zrb ?_ | (refine zn ?_; intro _))
      exact ⟨trivial, _, rfl, rfl⟩
  · clear hm7
    repeat (first | refine zrb ?_ | (refine zn ?_; intro _))
    refine exec_cond rfl (fun _ => ?_) (fun _ => ?_)
    · repeat (first | refine zrb ?_ | (refine zn ?_; intro _))
      obtain ⟨m, hm⟩ : ∃ m : Nat, (m : Int) = 400 + d := ⟨(400 + d).toNat, by omega⟩
      rw [← hm]
      refine ExecS.ghost ?_
      refine ExecS.weak (E' := [(5, .int .i64 d), (6, ptr cb), (7, ptr ab), (8, .int .i64 (m : Int)), (9, .int .i64 ((0 : Nat) : Int))]) ⟨rfl, rfl, rfl, rfl, rfl, trivial⟩ (.refl _) ?_
      refine exec_loop (fun q E L => ∃ (i : Nat) (a : Option Addr) (c : Nat) (p : Option Nat × Cont), i + q = m ∧ OwnA 6 52 a (List.replicate i (lim0)).length c ((List.replicate i lim0).flatMap CV.cells) p ∧ E = [(5, .int .i64 d), (6, ptr cb), (7, ptr ab), (8, .int .i64 (m : Int)), (9, .int .i64 (i : Int))] ∧ L = [p, cb0 cb (limL none 0 0 none 0 0 none 0 0), ab0 ab a ((List.replicate i (lim0)).length) c]) ?_ m _ _ ⟨0, none, 0, _, by omega, .nil _, rfl, rfl⟩
      rintro q E L ⟨i, a, c, p, hiq, own, rfl, rfl⟩
      have hl : (List.replicate i (lim0)).length = i := List.length_replicate
      repeat (first | refine zrb ?_ | (refine zn ?_; intro _))
      refine exec_cond rfl (fun hlt => ?_) (fun hge => ?_)
      · have hi : i < m := by simp at hlt; omega
        have e1 : (List.replicate (i + 1) (lim0)).length = (List.replicate i (lim0)).length + 1 := by simp
        repeat (first | refine zrb ?_ | (refine zn ?_; intro _))
        refine ops_step rfl rfl rfl (step_append 1 6 rfl rfl rfl rfl rfl rfl rfl rfl own (fun H hs => src_own (j := 0) hs rfl rfl 1) rfl (by first | rfl | exact allCell_map (fun _ => rfl) _) (by first | rfl | (simp; done) | (simp; omega)) (by omega) (fun a2 c2 p2 own2 => ?_))
        repeat (first | refine zrb ?_ | (refine zn ?_; intro _))
        refine ⟨q - 1, by omega, _, _, ?_, .cons _ (.refl _), i + 1, a2, c2, p2, by omega, ?_, rfl, ?_⟩
        · exact ⟨rfl, rfl, rfl, rfl, rfl, trivial⟩
        · rw [e1, rep_one]; exact own2
        · rw [e1]
      have hi : i = m := by simp at hge; omega
      subst hi
      clear hge hiq
      have hA : LimA ((List.replicate i lim0).map CV.pc) d := by rw [List.map_replicate]; exact lim_classes hm hd2
      have g : ArcG O [p, cb0 cb (limL none 0 0 none 0 0 none 0 0), ab0 ab a (List.replicate i lim0).length c] a c (List.replicate i lim0) := LimA.g hA (by omega) fun X H0 H hst =>
        ⟨(Rd.own own (by simp)) X H0 H hst, fun x hx => by rw [mem_rep hx]; exact ⟨Sl.nil, Sl.nil, Sl.nil, fun _ h => by cases h⟩⟩
      by_cases hd0 : d ≤ 0
      · have hr : rightA ((List.replicate i lim0).map CV.pc) = true := by rw [hA.right]; exact decide_eq_true hd0
        have hge := putA_ge hr
        repeat (first | refine zrb ?_ | (refine zn ?_; intro _))
        refine ops_step rfl rfl rfl (step_call_pure rfl rfl rfl (fun H hs => rightX g hs hr) ?_)
        repeat (first | refine zrb ?_ | (refine zn ?_; intro _))
        rw [decide_eq_true hd0]
        repeat (first | refine zrb ?_ | (refine zn ?_; intro _))
        refine ops_step rfl rfl rfl (step_call_fp [] _ rfl rfl rfl (List.Perm.refl _) (fun H hs hst => putG g hs) (fun v2 F2 h2 => ?_))
        obtain ⟨pa, pn, pc, rfl, hpn, -⟩ := h2
        repeat (first | refine zrb ?_ | (refine zn ?_; intro _))
        refine ⟨trivial, _, rfl, ?_⟩
        rw [show decide ((pn : Int) > 0) = true from decide_eq_true (by omega), decide_eq_true hd0]
        rfl
      · have hr : rightA ((List.replicate i lim0).map CV.pc) = false := by rw [hA.right]; exact decide_eq_false hd0
        have he := hA.empty hd0
        repeat (first | refine zrb ?_ | (refine zn ?_; intro _))
        refine ops_step rfl rfl rfl (step_call_pure rfl rfl rfl (fun H hs => rightX g hs hr) ?_)
        repeat (first | refine zrb ?_ | (refine zn ?_; intro _))
        rw [decide_eq_false hd0]
        repeat (first | refine zrb ?_ | (refine zn ?_; intro _))
        refine ops_step rfl rfl rfl (step_call_fp [] _ rfl rfl rfl (List.Perm.refl _) (fun H hs hst => putG g hs) (fun v2 F2 h2 => ?_))
        obtain ⟨pa, pn, pc, rfl, hpn, -⟩ := h2
        rw [he] at hpn
        have hpn0 : pn = 0 := hpn
        repeat (first | refine zrb ?_ | (refine zn ?_; intro _))
        refine ⟨trivial, _, rfl, ?_⟩
        rw [show decide ((pn : Int) > 0) = false from decide_eq_false (by omega), decide_eq_false hd0]
        rfl
    repeat (first | refine zrb ?_ | (refine zn ?_; intro _))
    refine exec_cond rfl (fun _ => ?_) (fun _ => ?_)
    · repeat (first | refine zrb ?_ | (refine zn ?_; intro _))
      obtain ⟨m, hm⟩ : ∃ m : Nat, (m : Int) = 100 + d := ⟨(100 + d).toNat, by omega⟩
      rw [← hm]
      refine ExecS.ghost ?_
      refine ExecS.weak (E' := [(5, .int .i64 d), (6, ptr cb), (7, ptr ab), (8, .int .i64 (m : Int)), (10, .int .i64 ((0 : Nat) : Int))]) ⟨rfl, rfl, rfl, rfl, rfl, trivial⟩ (.refl _) ?_
      refine exec_loop (fun q E L => ∃ (i : Nat) (a : Option Addr) (c : Nat) (p : Option Nat × Cont), i + q = m ∧ OwnA 4 63 a (List.replicate i (limF)).length c ((List.replicate i limF).flatMap FV.cells) p ∧ E = [(5, .int .i64 d), (6, ptr cb), (7, ptr ab), (8, .int .i64 (m : Int)), (10, .int .i64 (i : Int))] ∧ L = [p, cb0 cb (limL none 0 0 a ((List.replicate i (limF)).length) c none 0 0), ab0 ab none 0 0]) ?_ m _ _ ⟨0, none, 0, _, by omega, .nil _, rfl, rfl⟩
      rintro q E L ⟨i, a, c, p, hiq, own, rfl, rfl⟩
      have hl : (List.replicate i (limF)).length = i := List.length_replicate
      repeat (first | refine zrb ?_ | (refine zn ?_; intro _))
      refine exec_cond rfl (fun hlt => ?_) (fun hge => ?_)
      · have hi : i < m := by simp at hlt; omega
        have e1 : (List.replicate (i + 1) (limF)).length = (List.replicate i (limF)).length + 1 := by simp
        repeat (first | refine zrb ?_ | (refine zn ?_; intro _))
        refine ops_step rfl rfl rfl (step_append 1 4 rfl rfl rfl rfl rfl rfl rfl rfl own (fun H hs => src_own (j := 0) hs rfl rfl 1) rfl (by first | rfl | exact allCell_map (fun _ => rfl) _) (by first | rfl | (simp; done) | (simp; omega)) (by omega) (fun a2 c2 p2 own2 => ?_))
        repeat (first | refine zrb ?_ | (refine zn ?_; intro _))
        refine ⟨q - 1, by omega, _, _, ?_, .cons _ (.refl _), i + 1, a2, c2, p2, by omega, ?_, rfl, ?_⟩
        · exact ⟨rfl, rfl, rfl, rfl, rfl, trivial⟩
        · rw [e1, rep_one]; exact own2
        · rw [e1]
      have hi : i = m := by simp at hge; omega
      subst hi
      clear hge hiq
      repeat (first | refine zrb ?_ | (refine zn ?_; intro _))
      exact ⟨⟨rfl, rfl, rfl, trivial⟩, limCV [] (List.replicate i limF) [] none 0 a c none 0, [p], lim_fields hm hd2, fun X H0 H hst => ⟨Sl.nil, (Rd.own own (by simp)) X H0 H hst, Sl.nil, fun _ h => by cases h⟩, _, (List.perm_middle (l₁ := [_, _]) (l₂ := [])).symm, .refl _⟩
    repeat (first | refine zrb ?_ | (refine zn ?_; intro _))
    refine exec_cond rfl (fun _ => ?_) (fun _ => ?_)
    · repeat (first | refine zrb ?_ | (refine zn ?_; intro _))
      obtain ⟨m, hm⟩ : ∃ m : Nat, (m : Int) = 20 + d := ⟨(20 + d).toNat, by omega⟩
      rw [← hm]
      refine ExecS.ghost ?_
      refine ExecS.weak (E' := [(5, .int .i64 d), (6, ptr cb), (7, ptr ab), (8, .int .i64 (m : Int)), (11, .int .i64 ((0 : Nat) : Int))]) ⟨rfl, rfl, rfl, rfl, rfl, trivial⟩ (.refl _) ?_
      refine exec_loop (fun q E L => ∃ (i : Nat) (a : Option Addr) (c : Nat) (p : Option Nat × Cont), i + q = m ∧ OwnA 1 9 a (List.replicate i (lim73)).length c ((List.replicate i lim73).map str) p ∧ E = [(5, .int .i64 d), (6, ptr cb), (7, ptr ab), (8, .int .i64 (m : Int)), (11, .int .i64 (i : Int))] ∧ L = [p, cb0 cb (limL a ((List.replicate i (lim73)).length) c none 0 0 none 0 0), ab0 ab none 0 0]) ?_ m _ _ ⟨0, none, 0, _, by omega, .nil _, rfl, rfl⟩
      rintro q E L ⟨i, a, c, p, hiq, own, rfl, rfl⟩
      have hl : (List.replicate i (lim73)).length = i := List.length_replicate
      repeat (first | refine zrb ?_ | (refine zn ?_; intro _))
      refine exec_cond rfl (fun hlt => ?_) (fun hge => ?_)
      · have hi : i < m := by simp at hlt; omega
        have e1 : (List.replicate (i + 1) (lim73)).length = (List.replicate i (lim73)).length + 1 := by simp
        repeat (first | refine zrb ?_ | (refine zn ?_; intro _))
        refine ops_step rfl rfl rfl (step_append 1 1 rfl rfl rfl rfl rfl rfl rfl rfl own (fun H hs => src_own (j := 0) hs rfl rfl 1) rfl (by first | rfl | exact allCell_map (fun _ => rfl) _) (by first | rfl | (simp; done) | (simp; omega)) (by omega) (fun a2 c2 p2 own2 => ?_))
        repeat (first | refine zrb ?_ | (refine zn ?_; intro _))
        refine ⟨q - 1, by omega, _, _, ?_, .cons _ (.refl _), i + 1, a2, c2, p2, by omega, ?_, rfl, ?_⟩
        · exact ⟨rfl, rfl, rfl, rfl, rfl, trivial⟩
        · rw [e1, rep_map]; exact own2
        · rw [e1]
      have hi : i = m := by simp at hge; omega
      subst hi
      clear hge hiq
      repeat (first | refine zrb ?_ | (refine zn ?_; intro _))
      exact ⟨⟨rfl, rfl, rfl, trivial⟩, limCV (List.replicate i lim73) [] [] a c none 0 none 0, [p], lim_ifaces hm hd2, fun X H0 H hst => ⟨(Rd.own own (by simp)) X H0 H hst, Sl.nil, Sl.nil, fun _ h => by cases h⟩, _, (List.perm_middle (l₁ := [_, _]) (l₂ := [])).symm, .refl _⟩
    repeat (first | refine zrb ?_ | (refine zn ?_; intro _))
    refine exec_cond rfl (fun _ => ?_) (fun _ => ?_)
    · repeat (first | refine zrb ?_ | (refine zn ?_; intro _))
      rename_i mb
      skip
      obtain ⟨m, hm⟩ : ∃ m : Nat, (m : Int) = 8 + d := ⟨(8 + d).toNat, by omega⟩
      refine ExecS.ghost ?_
      refine ExecS.weak (E' := [(5, .int .i64 d), (6, ptr cb), (7, ptr ab), (12, ptr mb), (13, .int .i64 ((0 : Nat) : Int))]) ⟨rfl, rfl, rfl, rfl, rfl, trivial⟩ (.refl _) ?_
      refine exec_loop (fun q E L => ∃ (i : Nat) (a : Option Addr) (c : Nat) (p : Option Nat × Cont), i + q = m ∧ OwnA 2 55 a (List.replicate i (limT)).length c (typC (List.replicate i limT)) p ∧ E = [(5, .int .i64 d), (6, ptr cb), (7, ptr ab), (12, ptr mb), (13, .int .i64 (i : Int))] ∧ L = [p, mb0 mb (limML a ((List.replicate i (limT)).length) c 0 none 0 0 none 0 0), cb0 cb (limL none 0 0 none 0 0 none 0 0), ab0 ab none 0 0]) ?_ m _ _ ⟨0, none, 0, _, by omega, .nil _, rfl, rfl⟩
      rintro q E L ⟨i, a, c, p, hiq, own, rfl, rfl⟩
      have hl : (List.replicate i (limT)).length = i := List.length_replicate
      repeat (first | refine zrb ?_ | (refine zn ?_; intro _))
      rw [← hm]
      refine exec_cond rfl (fun hlt => ?_) (fun hge => ?_)
      · have hi : i < m := by simp at hlt; omega
        have e1 : (List.replicate (i + 1) (limT)).length = (List.replicate i (limT)).length + 1 := by simp
        repeat (first | refine zrb ?_ | (refine zn ?_; intro _))
        refine ops_step rfl rfl rfl (step_append 1 2 rfl rfl rfl rfl rfl rfl rfl rfl own (fun H hs => src_own (j := 0) hs rfl rfl 1) rfl (by first | rfl | exact allCell_map (fun _ => rfl) _) (by first | rfl | (simp; done) | (simp; omega)) (by omega) (fun a2 c2 p2 own2 => ?_))
        repeat (first | refine zrb ?_ | (refine zn ?_; intro _))
        refine ⟨q - 1, by omega, _, _, ?_, .cons _ (.refl _), i + 1, a2, c2, p2, by omega, ?_, rfl, ?_⟩
        · exact ⟨rfl, rfl, rfl, rfl, rfl, trivial⟩
        · rw [e1, rep_typ]; exact own2
        · rw [e1]
      have hi : i = m := by simp at hge; omega
      subst hi
      clear hge hiq
      repeat (first | refine zrb ?_ | (refine zn ?_; intro _))
      rename_i lb
      exact ⟨⟨rfl, rfl, rfl, trivial⟩, limCV [] [] [limMV (List.replicate i limT) 0 [] [] a c none 0 none 0] none 0 none 0 (some ⟨lb, 0, some 0⟩) 1, [(some lb, .cells 0 (limMV (List.replicate i limT) 0 [] [] a c none 0 none 0 : MV).cells 9 59), p, mb0 mb (limMV (List.replicate i limT) 0 [] [] a c none 0 none 0 : MV).cells], lim_params hm hd2, lim_m (fun X H0 H hst => ⟨(Rd.own own (by simp)) X H0 H hst, Sl.nil, Sl.nil⟩) (Rd.sl (i := 0) rfl rfl 1), _, List.perm_append_comm (l₁ := [_, _, _]) (l₂ := [_, _]), .refl _⟩
    repeat (first | refine zrb ?_ | (refine zn ?_; intro _))
    refine exec_cond rfl (fun _ => ?_) (fun _ => ?_)
    · repeat (first | refine zrb ?_ | (refine zn ?_; intro _))
      rename_i mb
      skip
      obtain ⟨m, hm⟩ : ∃ m : Nat, (m : Int) = 2000 + d := ⟨(2000 + d).toNat, by omega⟩
      refine ExecS.ghost ?_
      refine ExecS.weak (E' := [(5, .int .i64 d), (6, ptr cb), (7, ptr ab), (14, ptr mb), (15, .int .i64 ((0 : Nat) : Int))]) ⟨rfl, rfl, rfl, rfl, rfl, trivial⟩ (.refl _) ?_
      refine exec_loop (fun q E L => ∃ (i : Nat) (a : Option Addr) (c : Nat) (p : Option Nat × Cont), i + q = m ∧ OwnA 7 61 a (List.replicate i (limI)).length c ((List.replicate i limI).flatMap insL) p ∧ E = [(5, .int .i64 d), (6, ptr cb), (7, ptr ab), (14, ptr mb), (15, .int .i64 (i : Int))] ∧ L = [p, mb0 mb (limML none 0 0 0 a ((List.replicate i (limI)).length) c none 0 0), cb0 cb (limL none 0 0 none 0 0 none 0 0), ab0 ab none 0 0]) ?_ m _ _ ⟨0, none, 0, _, by omega, .nil _, rfl, rfl⟩
      rintro q E L ⟨i, a, c, p, hiq, own, rfl, rfl⟩
      have hl : (List.replicate i (limI)).length = i := List.length_replicate
      repeat (first | refine zrb ?_ | (refine zn ?_; intro _))
      rw [← hm]
      refine exec_cond rfl (fun hlt => ?_) (fun hge => ?_)
      · have hi : i < m := by simp at hlt; omega
        have e1 : (List.replicate (i + 1) (limI)).length = (List.replicate i (limI)).length + 1 := by simp
        repeat (first | refine zrb ?_ | (refine zn ?_; intro _))
        refine ops_step rfl rfl rfl (step_append 1 7 rfl rfl rfl rfl rfl rfl rfl rfl own (fun H hs => src_own (j := 0) hs rfl rfl 1) rfl (by first | rfl | exact allCell_map (fun _ => rfl) _) (by first | rfl | (simp; done) | (simp; omega)) (by omega) (fun a2 c2 p2 own2 => ?_))
        repeat (first | refine zrb ?_ | (refine zn ?_; intro _))
        refine ⟨q - 1, by omega, _, _, ?_, .cons _ (.refl _), i + 1, a2, c2, p2, by omega, ?_, rfl, ?_⟩
        · exact ⟨rfl, rfl, rfl, rfl, rfl, trivial⟩
        · rw [e1, rep_one]; exact own2
        · rw [e1]
      have hi : i = m := by simp at hge; omega
      subst hi
      clear hge hiq
      repeat (first | refine zrb ?_ | (refine zn ?_; intro _))
      rename_i lb
      exact ⟨⟨rfl, rfl, rfl, trivial⟩, limCV [] [] [limMV [] 0 (List.replicate i limI) [] none 0 a c none 0] none 0 none 0 (some ⟨lb, 0, some 0⟩) 1, [(some lb, .cells 0 (limMV [] 0 (List.replicate i limI) [] none 0 a c none 0 : MV).cells 9 59), p, mb0 mb (limMV [] 0 (List.replicate i limI) [] none 0 a c none 0 : MV).cells], lim_code hm hd2, lim_m (fun X H0 H hst => ⟨Sl.nil, (Rd.own own (by simp)) X H0 H hst, Sl.nil⟩) (Rd.sl (i := 0) rfl rfl 1), _, List.perm_append_comm (l₁ := [_, _, _]) (l₂ := [_, _]), .refl _⟩
    repeat (first | refine zrb ?_ | (refine zn ?_; intro _))
    refine exec_cond rfl (fun _ => ?_) (fun _ => ?_)
    · repeat (first | refine zrb ?_ | (refine zn ?_; intro _))
      rename_i lb
      exact ⟨⟨rfl, rfl, rfl, trivial⟩, limCV [] [] [limMV [] (200 + d) [] [] none 0 none 0 none 0] none 0 none 0 (some ⟨lb, 0, some 0⟩) 1, [(some lb, .cells 0 (limMV [] (200 + d) [] [] none 0 none 0 none 0 : MV).cells 9 59)], lim_locals hd2, lim_m (fun X H0 H hst => ⟨Sl.nil, Sl.nil, Sl.nil⟩) (Rd.sl (i := 0) rfl rfl 1), _, List.perm_append_comm (l₁ := [_]) (l₂ := [_, _]), .refl _⟩
    · repeat (first | refine zrb ?_ | (refine zn ?_; intro _))
      rename_i mb
      skip
      obtain ⟨m, hm⟩ : ∃ m : Nat, (m : Int) = 50 + d := ⟨(50 + d).toNat, by omega⟩
      refine ExecS.ghost ?_
      refine ExecS.weak (E' := [(5, .int .i64 d), (6, ptr cb), (7, ptr ab), (16, ptr mb), (17, .int .i64 ((0 : Nat) : Int))]) ⟨rfl, rfl, rfl, rfl, rfl, trivial⟩ (.refl _) ?_
      refine exec_loop (fun q E L => ∃ (i : Nat) (a : Option Addr) (c : Nat) (p : Option Nat × Cont), i + q = m ∧ OwnA 4 66 a (List.replicate i (limH)).length c ((List.replicate i limH).flatMap HV.cells) p ∧ E = [(5, .int .i64 d), (6, ptr cb), (7, ptr ab), (16, ptr mb), (17, .int .i64 (i : Int))] ∧ L = [p, mb0 mb (limML none 0 0 0 none 0 0 a ((List.replicate i (limH)).length) c), cb0 cb (limL none 0 0 none 0 0 none 0 0), ab0 ab none 0 0]) ?_ m _ _ ⟨0, none, 0, _, by omega, .nil _, rfl, rfl⟩
      rintro q E L ⟨i, a, c, p, hiq, own, rfl, rfl⟩
      have hl : (List.replicate i (limH)).length = i := List.length_replicate
      repeat (first | refine zrb ?_ | (refine zn ?_; intro _))
      rw [← hm]
      refine exec_cond rfl (fun hlt => ?_) (fun hge => ?_)
      · have hi : i < m := by simp at hlt; omega
        have e1 : (List.replicate (i + 1) (limH)).length = (List.replicate i (limH)).length + 1 := by simp
        repeat (first | refine zrb ?_ | (refine zn ?_; intro _))
        refine ops_step rfl rfl rfl (step_append 1 4 rfl rfl rfl rfl rfl rfl rfl rfl own (fun H hs => src_own (j := 0) hs rfl rfl 1) rfl (by first | rfl | exact allCell_map (fun _ => rfl) _) (by first | rfl | (simp; done) | (simp; omega)) (by omega) (fun a2 c2 p2 own2 => ?_))
        repeat (first | refine zrb ?_ | (refine zn ?_; intro _))
        refine ⟨q - 1, by omega, _, _, ?_, .cons _ (.refl _), i + 1, a2, c2, p2, by omega, ?_, rfl, ?_⟩
        · exact ⟨rfl, rfl, rfl, rfl, rfl, trivial⟩
        · rw [e1, rep_one]; exact own2
        · rw [e1]
      have hi : i = m := by simp at hge; omega
      subst hi
      clear hge hiq
      repeat (first | refine zrb ?_ | (refine zn ?_; intro _))
      rename_i lb
      exact ⟨⟨rfl, rfl, rfl, trivial⟩, limCV [] [] [limMV [] 0 [] (List.replicate i limH) none 0 none 0 a c] none 0 none 0 (some ⟨lb, 0, some 0⟩) 1, [(some lb, .cells 0 (limMV [] 0 [] (List.replicate i limH) none 0 none 0 a c : MV).cells 9 59), p, mb0 mb (limMV [] 0 [] (List.replicate i limH) none 0 none 0 a c : MV).cells], lim_handlers hm hd2, lim_m (fun X H0 H hst => ⟨Sl.nil, Sl.nil, (Rd.own own (by simp)) X H0 H hst⟩) (Rd.sl (i := 0) rfl rfl 1), _, List.perm_append_comm (l₁ := [_, _, _]) (l₂ := [_, _]), .refl _⟩
end Go.Proofs.YtlhkndjloeoodaaGreat
