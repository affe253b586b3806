/-
  Lemmas for the laws of this seat.
-/
import Derived.Test.YtlhkndjloeoodaaGreatK11
set_option linter.unusedVariables false
set_option linter.unusedSimpArgs false
namespace Go.Proofs.YtlhkndjloeoodaaGreat
open Go.Ev Go.Ev.Wk
variable {O : Old}
theorem OwnL.split {α : Type} {R : α → Atoms → Prop} {x : α} : ∀ {l : List α} {i : Nat} {Z : Atoms}, OwnL R l Z → l[i]? = some x → ∃ Z1 Zx Z2, Z = Z1 ++ (Zx ++ Z2) ∧ R x Zx ∧ ∀ x' Zx', R x' Zx' → OwnL R (l.set i x') (Z1 ++ (Zx' ++ Z2))
  | [], _, _, _, hi => by cases hi
  | y :: l, 0, _, ⟨Z1, Z2, rfl, h1, h2⟩, hi => by
    cases hi
    exact ⟨[], Z1, Z2, rfl, h1, fun x' Zx' h => ⟨Zx', Z2, rfl, h, h2⟩⟩
  | y :: l, i + 1, _, ⟨Z1, Z2, rfl, h1, h2⟩, hi => by
    obtain ⟨Y1, Yx, Y2, rfl, h3, h4⟩ := h2.split (i := i) hi
    exact ⟨Z1 ++ Y1, Yx, Y2, by rw [List.append_assoc], h3, fun x' Zx' h => ⟨Z1, _, by rw [List.append_assoc], h1, h4 x' Zx' h⟩⟩
theorem flat_same {α : Type} {f : α → List Value} {l : List α} {i : Nat} {x y : α} (h : l[i]? = some x) (e : f y = f x) : (l.set i y).flatMap f = l.flatMap f := by
  obtain ⟨hi, rfl⟩ := List.getElem?_eq_some_iff.1 h
  rw [List.set_eq_take_append_cons_drop, if_pos hi, List.flatMap_append, List.flatMap_cons, e]
  conv => rhs; rw [← List.take_append_drop i l, List.drop_eq_getElem_cons hi]
  simp only [List.flatMap_append, List.flatMap_cons]
def BndC (c : CV) : Prop := c.ifs.length ≤ 1000000 ∧ c.fl.length ≤ 1000000 ∧ c.ml.length ≤ 1000000 ∧ ∀ m ∈ c.ml, m.cl.length ≤ 1000000
theorem BndC.of {c : CV} (h : WfC c.pc) : BndC c := ⟨h.ifn, h.fln, by have := h.mln; simpa using this, fun m hm => (h.ml _ (List.mem_map_of_mem hm)).cln⟩
theorem all_set {α : Type} {P : α → Prop} {l : List α} {i : Nat} {x : α} (h : ∀ y ∈ l, P y) (hx : P x) : ∀ y ∈ l.set i x, P y := fun y hy => (List.mem_or_eq_of_mem_set hy).elim (h y) fun e => e ▸ hx
def AllPop (c : CV) : Prop := ∀ m ∈ c.ml, ∀ x ∈ m.cl, x.op = 6
theorem take_set {α : Type} {P : α → Prop} {l : List α} {i : Nat} {x : α} (h : ∀ y ∈ l.take i, P y) (hx : P x) : ∀ y ∈ (l.set i x).take (i + 1), P y := fun y hy => by
  by_cases hi : i < l.length
  · rw [List.take_add_one, List.take_set_of_le (Nat.le_refl i), List.getElem?_set, if_pos rfl, if_pos hi] at hy
    simp only [Option.toList_some, List.mem_append, List.mem_singleton] at hy
    rcases hy with hy | rfl
    · exact h y hy
    · exact hx
  · rw [List.set_eq_of_length_le (by omega), List.take_of_length_le (by omega)] at hy
    exact h y (by rw [List.take_of_length_le (by omega)]; exact hy)
theorem perm_open {b a z1 zc z2 z : Atoms} : (b ++ ((a ++ (z1 ++ (zc ++ z2))) ++ z)).Perm ((b ++ a) ++ (zc ++ (z1 ++ (z2 ++ z)))) := by
  simp only [List.append_assoc]
  exact ((List.perm_append_comm_assoc z1 zc (z2 ++ z)).append_left a).append_left b
abbrev arcB (b : Nat) (a : Option Addr) (n k : Nat) : Option Nat × Cont := (some b, .cells 0 [.slice a n k] 0 24)
abbrev popI : Ins := ⟨6, 0, 0, [], [], [], []⟩
abbrev chS : List UInt8 := [99, 104, 97, 110, 103, 101, 100]
theorem map_put {l : List (List UInt8)} {j : Nat} (hj : j < l.length) (x : List UInt8) : wrL [str x] (0 + ((j : Nat) : Int).toNat * 1) (l.map str) = some ((l.set j x).map str) := by
  rw [show 0 + ((j : Nat) : Int).toNat * 1 = j from by omega, wrL_one rfl (by rw [List.length_map]; exact hj), List.map_set]
set_option maxHeartbeats 64000000 in
set_option maxRecDepth 100000 in
theorem arcCopies_walk {k0 k1 k2 k3 : Int} {a : Option Addr} {n c : Nat} {l : List UInt8} (h0 : 0 ≤ k0 ∧ k0 ≤ 255) (hk3 : 0 ≤ k3 ∧ k3 ≤ 255) (hL : ∀ H, Sl O H (.slice a n c) 1 n (l.map by8)) : CallC TT O 6 [.agg #[.int .u8 k0, .int .u8 k1, .int .u8 k2, .int .u8 k3], .slice a n c] .empty fun v H' => v = .bool true ∧ Ext .empty H' := by
  refine call_pure rfl rfl rfl rfl rfl ?_
  repeat (first | refine zrb ?_ | (refine zn ?_; intro _))
  refine ops_step rfl rfl rfl (step_call_pure rfl rfl rfl (fun H hs => known_walk) ?_)
  repeat (first | refine zrb ?_ | (refine zn ?_; intro _))
  refine exec_cond rfl (fun h => ?_) (fun h => ?_)
  · repeat (first | refine zrb ?_ | (refine zn ?_; intro _))
    exact ⟨trivial, _, rfl, rfl⟩
  have hn : n ≤ 40 := by simp at h; omega
  clear h
  repeat (first | refine zrb ?_ | (refine zn ?_; intro _))
  refine ops_step rfl rfl rfl (step_call_fp [] _ rfl rfl rfl (List.Perm.refl _) (fun H hs hst => seatArchive_ok (ys := []) h0 hk3 (fun H' _ => hL H') (by omega) (fun _ _ => Sl.nil) (by omega)) (fun v1 F1 h1 => ?_))
  obtain ⟨aa, ac, cl, rfl, sA⟩ := h1
  refine OpsS.weakL (List.sublist_append_left F1 _) ?_
  repeat (first | refine zrb ?_ | (refine zn ?_; intro _))
  rename_i b5
  refine ops_step rfl rfl rfl (step_call_fp [] _ rfl rfl rfl (List.Perm.refl _) (fun H hs hst => copyG (sA.g.mono (.cons _ (.refl _))) hs) (fun v2 F2 h2 => ?_))
  obtain ⟨a1, k1', cl1, rfl, e1, own1⟩ := h2
  refine OpsS.perm (List.perm_append_comm_assoc F2 [_] F1) ?_
  have gA := sA.g.mono (Z' := [arcB b5 aa cl.length ac] ++ (F2 ++ F1)) ((List.sublist_append_right F2 F1).trans (List.sublist_append_right _ _))
  have g1 : ArcG O ([arcB b5 aa cl.length ac] ++ (F2 ++ F1)) a1 k1' cl1 := gA.copy (own1.rd.mono ((List.sublist_append_left F2 F1).trans (List.sublist_append_right _ _))) e1
  generalize F2 ++ F1 = Z1 at gA g1 ⊢
  repeat (first | refine zrb ?_ | (refine zn ?_; intro _))
  rename_i b6
  replace gA := gA.mono (.cons (arcB b6 a1 cl1.length k1') (.refl _))
  replace g1 := g1.mono (.cons (arcB b6 a1 cl1.length k1') (.refl _))
  refine ops_step rfl rfl rfl (step_call_fp [] _ rfl rfl rfl (List.Perm.refl _) (fun H hs hst => copyG g1 hs) (fun v3 F3 h3 => ?_))
  obtain ⟨a2, k2', cl2, rfl, e2, own2⟩ := h3
  refine OpsS.perm (List.perm_append_comm_assoc F3 [_, _] Z1) ?_
  have ll1 : cl1.length = cl.length := by have := congrArg List.length e1; simpa using this
  have ll2 : cl2.length = cl1.length := by have := congrArg List.length e2; simpa using this
  have l13 := sA.len
  have hbd : ∀ x ∈ cl2, BndC x := fun x hx => BndC.of (gA.wfm _ (by rw [← e1, ← e2]; exact List.mem_map_of_mem hx))
  repeat (first | refine zrb ?_ | (refine zn ?_; intro _))
  rename_i b7
  refine exec_cond rfl (fun h => ?_) (fun _ => ?_)
  · exfalso
    simp at h; omega
  repeat (first | refine zrb ?_ | (refine zn ?_; intro _))
  refine ExecS.weak (E' := [(5, ptr b5), (6, ptr b6), (7, ptr b7), (8, .int .i64 ((0 : Nat) : Int))]) (L' := [arcB b7 a2 cl2.length k2', arcB b6 a1 cl1.length k1', arcB b5 aa cl.length ac] ++ (F3 ++ Z1)) ⟨rfl, rfl, rfl, rfl, trivial⟩ (.refl _) ?_
  obtain ⟨N, hN⟩ : ∃ N, N = cl2.length := ⟨_, rfl⟩
  rw [← hN]
  refine exec_loop (fun q E L => ∃ (i : Nat) (cm : List CV) (Zd : Atoms), i + q = N ∧ cm.length = N ∧ OwnAr a2 k2' cm Zd ∧ (∀ x ∈ cm, BndC x) ∧ (∀ x ∈ cm.take i, AllPop x) ∧ E = [(5, ptr b5), (6, ptr b6), (7, ptr b7), (8, .int .i64 (i : Int))] ∧ L = [arcB b7 a2 N k2', arcB b6 a1 cl1.length k1', arcB b5 aa cl.length ac] ++ (Zd ++ Z1)) ?_ N _ _ ⟨0, cl2, F3, by omega, hN.symm, own2, hbd, by simp, rfl, rfl⟩
  clear own2 hbd
  rintro q E L ⟨i, cm, Zd, hiq, hcm, own2, hbd, hpop, rfl, rfl⟩
  repeat (first | refine zrb ?_ | (refine zn ?_; intro _))
  refine exec_cond rfl (fun hlt => ?_) (fun hge => ?_)
  rotate_left
  · have hi : i = N := by simp at hge; omega
    subst hi
    rw [List.take_of_length_le (by omega)] at hpop
    have gC : Rd ([arcB b7 a2 i k2', arcB b6 a1 cl1.length k1', arcB b5 aa cl.length ac] ++ (Zd ++ Z1)) fun H => ArcF O H a2 k2' cm := own2.rd.mono ((List.sublist_append_left Zd Z1).trans (List.sublist_append_right _ _))
    replace gA := gA.mono (Z' := [arcB b7 a2 i k2', arcB b6 a1 cl1.length k1', arcB b5 aa cl.length ac] ++ (Zd ++ Z1)) (.cons _ (.cons_cons _ (.cons_cons _ (List.sublist_append_right Zd Z1))))
    replace g1 := g1.mono (Z' := [arcB b7 a2 i k2', arcB b6 a1 cl1.length k1', arcB b5 aa cl.length ac] ++ (Zd ++ Z1)) (.cons _ (.cons_cons _ (.cons_cons _ (List.sublist_append_right Zd Z1))))
    have hne : cl1.map CV.pc ≠ cm.map CV.pc := by
      intro e
      obtain ⟨c0, hc0, m0, r0, e0, x0, hx0, hop⟩ := sA.one
      have h1 : c0.pc ∈ cm.map CV.pc := by rw [← e, e1]; exact List.mem_map_of_mem hc0
      obtain ⟨c9, hc9, e9⟩ := List.mem_map.1 h1
      have h2 : m0.toPM ∈ c9.pc.ml := by rw [e9]; show m0.toPM ∈ c0.ml.map MV.toPM; rw [e0]; simp
      obtain ⟨m9, hm9, em⟩ := List.mem_map.1 h2
      have := hpop c9 hc9 m9 hm9 x0 (by rw [em]; exact hx0)
      omega
    repeat (first | refine zrb ?_ | (refine zn ?_; intro _))
    refine ops_step rfl rfl rfl (step_call_pure rfl rfl rfl (fun H hs => sameT g1 gA hs e1) ?_)
    repeat (first | refine zrb ?_ | (refine zn ?_; intro _))
    have hsm := fun (X : List Nat) (H0 H : Heap) (hst : St X H0 H ([arcB b7 a2 i k2', arcB b6 a1 cl1.length k1', arcB b5 aa cl.length ac] ++ (Zd ++ Z1))) => same_A_ok (g1.rd.at hst) (gC.at hst) g1.wf g1.n
    rw [decide_eq_false hne, hcm] at hsm
    refine ops_step rfl rfl rfl (step_call_pure rfl rfl rfl (fun H hs => hsm _ _ _ hs) ?_)
    repeat (first | refine zrb ?_ | (refine zn ?_; intro _))
    exact ⟨trivial, _, rfl, rfl⟩
  have hi : i < N := by simp at hlt; omega
  clear hlt
  obtain ⟨p, Zs, rfl, ownC, ownZ⟩ := own2
  obtain ⟨c0, hc0⟩ : ∃ c0, cm[i]? = some c0 := ⟨_, List.getElem?_eq_getElem (by omega)⟩
  obtain ⟨Y1, Yx, Y2, rfl, hK, back⟩ := ownZ.split hc0
  obtain ⟨pI, qF, rM, Zm, rfl, hI, hF, hM, hZm⟩ := hK
  obtain ⟨b, ver, rfl, rfl, hlen, -⟩ := OwnC.put ownC (by omega)
  have hb0 := hbd c0 (List.mem_of_getElem? hc0)
  obtain ⟨bi, bf0, bm0, bc0⟩ := hb0
  have hget := flat_look (f := CV.cells) (z := 6) (fun _ => rfl) hc0
  refine ExecS.perm (perm_open (b := [_, _, _]) (a := [_]) (z1 := Y1) (zc := pI :: qF :: rM :: Zm) (z2 := Y2) (z := Z1)) ?_
  obtain ⟨W, hW⟩ : ∃ W, W = Y1 ++ (Y2 ++ Z1) := ⟨_, rfl⟩
  refine ExecS.weakL (L' := [arcB b7 (some ⟨b, 0, some ver⟩) N k2', arcB b6 a1 cl1.length k1', arcB b5 aa cl.length ac, (some b, .cells ver (cm.flatMap CV.cells) 6 52), pI, qF, rM] ++ (Zm ++ W)) (by rw [hW]; exact .refl _) ?_
  repeat (first | refine zrb ?_ | (refine zn ?_; intro _))
  (first | apply ops_pl rfl rfl rfl ?_ rfl ?_ | apply draw_pl rfl rfl rfl rfl ?_ rfl rfl ?_); rotate_left; focus exact (.p rfl (opP_idxo (z := 6) rfl rfl rfl rfl (by omega) (by omega)))
  repeat (first | refine zrb ?_ | (refine zn ?_; intro _))
  refine ExecS.weak (E' := [(5, ptr b5), (6, ptr b6), (7, ptr b7), (8, .int .i64 (i : Int)), (9, .pointer (some ⟨b, 0 + ((i : Nat) : Int).toNat * 6, some ver⟩)), (10, .int .i64 ((0 : Nat) : Int))]) ⟨rfl, rfl, rfl, rfl, rfl, rfl, trivial⟩ (.refl _) ?_
  refine exec_loop (fun q E L => ∃ (j : Nat) (ml : List MV) (Zn : Atoms), j + q = c0.ml.length ∧ ml.length = c0.ml.length ∧ OwnL OwnM ml Zn ∧ ml.flatMap MV.cells = c0.ml.flatMap MV.cells ∧ (∀ m ∈ ml, m.cl.length ≤ 1000000) ∧ (∀ m ∈ ml.take j, ∀ x ∈ m.cl, x.op = 6) ∧ E = [(5, ptr b5), (6, ptr b6), (7, ptr b7), (8, .int .i64 (i : Int)), (9, .pointer (some ⟨b, 0 + ((i : Nat) : Int).toNat * 6, some ver⟩)), (10, .int .i64 (j : Int))] ∧ L = [arcB b7 (some ⟨b, 0, some ver⟩) N k2', arcB b6 a1 cl1.length k1', arcB b5 aa cl.length ac, (some b, .cells ver (cm.flatMap CV.cells) 6 52), pI, qF, rM] ++ (Zn ++ W)) ?_ c0.ml.length _ _ ⟨0, c0.ml, Zm, by omega, rfl, hZm, rfl, bc0, by simp, rfl, rfl⟩
  clear hZm
  rintro q1 E L ⟨j, ml, Zn, hjq, hml, hZn, hsm, hmb, hjp, rfl, rfl⟩
  repeat (first | refine zrb ?_ | (refine zn ?_; intro _))
  (first | apply ops_pl rfl rfl rfl ?_ rfl ?_ | apply draw_pl rfl rfl rfl rfl ?_ rfl rfl ?_); rotate_left; focus exact (.l rfl (look_own 3 rfl rfl rfl (hget 5 (.slice c0.ma c0.ml.length c0.mc) rfl)))
  repeat (first | refine zrb ?_ | (refine zn ?_; intro _))
  refine exec_cond rfl (fun hlt => ?_) (fun hge => ?_)
  rotate_left
  · have hj : j = c0.ml.length := by simp at hge; omega
    subst hj
    rw [List.take_of_length_le (by omega)] at hjp
    repeat (first | refine zrb ?_ | (refine zn ?_; intro _))
    refine ExecS.weak (E' := [(5, ptr b5), (6, ptr b6), (7, ptr b7), (8, .int .i64 (i : Int)), (9, .pointer (some ⟨b, 0 + ((i : Nat) : Int).toNat * 6, some ver⟩)), (12, .int .i64 ((0 : Nat) : Int))]) ⟨rfl, rfl, rfl, rfl, rfl, rfl, trivial⟩ (.refl _) ?_
    refine exec_loop (fun q E L => ∃ (j : Nat) (fl : List FV) (qF' : Option Nat × Cont), j + q = c0.fl.length ∧ fl.length = c0.fl.length ∧ OwnC 4 63 c0.fa c0.fl.length c0.fc (fl.flatMap FV.cells) qF' ∧ E = [(5, ptr b5), (6, ptr b6), (7, ptr b7), (8, .int .i64 (i : Int)), (9, .pointer (some ⟨b, 0 + ((i : Nat) : Int).toNat * 6, some ver⟩)), (12, .int .i64 (j : Int))] ∧ L = [arcB b7 (some ⟨b, 0, some ver⟩) N k2', arcB b6 a1 cl1.length k1', arcB b5 aa cl.length ac, (some b, .cells ver (cm.flatMap CV.cells) 6 52), pI, qF', rM] ++ (Zn ++ W)) ?_ c0.fl.length _ _ ⟨0, c0.fl, qF, by omega, rfl, hF, rfl, rfl⟩
    clear hF hge hjq
    rintro q2 E L ⟨j, fl, qF', hjq, hfl, hF, rfl, rfl⟩
    repeat (first | refine zrb ?_ | (refine zn ?_; intro _))
    (first | apply ops_pl rfl rfl rfl ?_ rfl ?_ | apply draw_pl rfl rfl rfl rfl ?_ rfl rfl ?_); rotate_left; focus exact (.l rfl (look_own 3 rfl rfl rfl (hget 4 (.slice c0.fa c0.fl.length c0.fc) rfl)))
    repeat (first | refine zrb ?_ | (refine zn ?_; intro _))
    refine exec_cond rfl (fun hlt => ?_) (fun hge => ?_)
    rotate_left
    · clear hjq hge
      repeat (first | refine zrb ?_ | (refine zn ?_; intro _))
      refine ExecS.weak (E' := [(5, ptr b5), (6, ptr b6), (7, ptr b7), (8, .int .i64 (i : Int)), (9, .pointer (some ⟨b, 0 + ((i : Nat) : Int).toNat * 6, some ver⟩)), (13, .int .i64 ((0 : Nat) : Int))]) ⟨rfl, rfl, rfl, rfl, rfl, rfl, trivial⟩ (.refl _) ?_
      refine exec_loop (fun q E L => ∃ (j : Nat) (ifs : List (List UInt8)) (pI' : Option Nat × Cont), j + q = c0.ifs.length ∧ ifs.length = c0.ifs.length ∧ OwnC 1 9 c0.ia c0.ifs.length c0.ic (ifs.map str) pI' ∧ E = [(5, ptr b5), (6, ptr b6), (7, ptr b7), (8, .int .i64 (i : Int)), (9, .pointer (some ⟨b, 0 + ((i : Nat) : Int).toNat * 6, some ver⟩)), (13, .int .i64 (j : Int))] ∧ L = [arcB b7 (some ⟨b, 0, some ver⟩) N k2', arcB b6 a1 cl1.length k1', arcB b5 aa cl.length ac, (some b, .cells ver (cm.flatMap CV.cells) 6 52), pI', qF', rM] ++ (Zn ++ W)) ?_ c0.ifs.length _ _ ⟨0, c0.ifs, pI, by omega, rfl, hI, rfl, rfl⟩
      clear hI
      rintro q3 E L ⟨j, ifs, pI', hjq, hif, hI, rfl, rfl⟩
      repeat (first | refine zrb ?_ | (refine zn ?_; intro _))
      (first | apply ops_pl rfl rfl rfl ?_ rfl ?_ | apply draw_pl rfl rfl rfl rfl ?_ rfl rfl ?_); rotate_left; focus exact (.l rfl (look_own 3 rfl rfl rfl (hget 2 (.slice c0.ia c0.ifs.length c0.ic) rfl)))
      repeat (first | refine zrb ?_ | (refine zn ?_; intro _))
      refine exec_cond rfl (fun hlt => ?_) (fun hge => ?_)
      rotate_left
      · clear hjq hge
        have hcc : (⟨c0.nm, c0.su, ifs, c0.kd, fl, ml, c0.ia, c0.ic, c0.fa, c0.fc, c0.ma, c0.mc⟩ : CV).cells = c0.cells := by
          simp only [CV.cells, hif, hfl, hml]
        have hz : OwnAr (some ⟨b, 0, some ver⟩) k2' (cm.set i ⟨c0.nm, c0.su, ifs, c0.kd, fl, ml, c0.ia, c0.ic, c0.fa, c0.fc, c0.ma, c0.mc⟩) ((some b, .cells ver (cm.flatMap CV.cells) 6 52) :: (Y1 ++ ((pI' :: qF' :: rM :: Zn) ++ Y2))) := by
          refine ⟨_, _, rfl, ?_, back _ _ ⟨pI', qF', rM, Zn, rfl, ?_, ?_, ?_, hZn⟩⟩
          · rw [List.length_set, flat_same hc0 hcc]; exact ownC
          · simp only [hif]; exact hI
          · simp only [hfl]; exact hF
          · simp only [hml, hsm]; exact hM
        subst hW
        refine ExecS.perm (perm_open (b := [_, _, _]) (a := [_]) (z1 := Y1) (zc := pI' :: qF' :: rM :: Zn) (z2 := Y2) (z := Z1)).symm ?_
        repeat (first | refine zrb ?_ | (refine zn ?_; intro _))
        refine ⟨q - 1, by omega, _, _, ?_, .refl _, i + 1, _, _, by omega, by rw [List.length_set]; exact hcm, hz, all_set hbd ⟨by simp only [hif]; exact bi, by simp only [hfl]; exact bf0, by simp only [hml]; exact bm0, hmb⟩, take_set hpop hjp, rfl, rfl⟩
        exact ⟨rfl, rfl, rfl, rfl, trivial⟩
      · have hj : j < c0.ifs.length := by simp at hlt; omega
        obtain ⟨bf, vf, hfa, rfl, hlenf, hputf⟩ := OwnC.put hI (by omega)
        repeat (first | refine zrb ?_ | (refine zn ?_; intro _))
        (first | apply ops_pl rfl rfl rfl ?_ rfl ?_ | apply draw_pl rfl rfl rfl rfl ?_ rfl rfl ?_); rotate_left; focus exact (.l rfl (look_own 3 rfl rfl rfl (hget 2 (.slice (some ⟨bf, 0, some vf⟩) c0.ifs.length c0.ic) (by rw [← hfa]; rfl))))
        repeat (first | refine zrb ?_ | (refine zn ?_; intro _))
        (first | apply ops_pl rfl rfl rfl ?_ rfl ?_ | apply draw_pl rfl rfl rfl rfl ?_ rfl rfl ?_); rotate_left; focus exact (.p rfl (opP_idxo (z := 1) rfl rfl rfl rfl (by omega) (by omega)))
        refine ops_step rfl rfl rfl (step_storeF 4 rfl rfl rfl rfl rfl rfl (map_put (by omega) chS) rfl ?_)
        repeat (first | refine zrb ?_ | (refine zn ?_; intro _))
        refine ⟨q3 - 1, by omega, _, _, ?_, .refl _, j + 1, ifs.set j chS, _, by omega, by rw [List.length_set]; exact hif, by exact hputf ((ifs.set j chS).map str) (by rw [List.length_map, List.length_set, hif, Nat.mul_one]), rfl, rfl⟩
        exact ⟨rfl, rfl, rfl, rfl, rfl, rfl, trivial⟩
    · have hj : j < c0.fl.length := by simp at hlt; omega
      obtain ⟨f, hf⟩ : ∃ f, fl[j]? = some f := ⟨_, List.getElem?_eq_getElem (by omega)⟩
      have hset : fl = fl.set j f := by
        obtain ⟨hi', e⟩ := List.getElem?_eq_some_iff.1 hf
        rw [← e, List.set_getElem_self]
      obtain ⟨bf, vf, hfa, rfl, hlenf, hputf⟩ := OwnC.put hF (by omega)
      repeat (first | refine zrb ?_ | (refine zn ?_; intro _))
      (first | apply ops_pl rfl rfl rfl ?_ rfl ?_ | apply draw_pl rfl rfl rfl rfl ?_ rfl rfl ?_); rotate_left; focus exact (.l rfl (look_own 3 rfl rfl rfl (hget 4 (.slice (some ⟨bf, 0, some vf⟩) c0.fl.length c0.fc) (by rw [← hfa]; rfl))))
      repeat (first | refine zrb ?_ | (refine zn ?_; intro _))
      (first | apply ops_pl rfl rfl rfl ?_ rfl ?_ | apply draw_pl rfl rfl rfl rfl ?_ rfl rfl ?_); rotate_left; focus exact (.p rfl (opP_idxo (z := 4) rfl rfl rfl rfl (by omega) (by omega)))
      repeat (first | refine zrb ?_ | (refine zn ?_; intro _))
      refine ops_step rfl rfl rfl (step_storeF 5 rfl rfl rfl rfl rfl rfl (flat_put (f := FV.cells) (l0 := fl) (x := f) (y := ⟨chS, f.tk, f.tc, f.st⟩) (fun _ => rfl) hset (by omega) rfl rfl rfl) rfl ?_)
      repeat (first | refine zrb ?_ | (refine zn ?_; intro _))
      refine ⟨q2 - 1, by omega, _, _, ?_, .refl _, j + 1, fl.set j ⟨chS, f.tk, f.tc, f.st⟩, _, by omega, by rw [List.length_set]; exact hfl, by exact hputf ((fl.set j ⟨chS, f.tk, f.tc, f.st⟩).flatMap FV.cells) (by rw [flat_len (f := FV.cells) (z := 4) (fun _ => rfl), List.length_set, hfl]), rfl, rfl⟩
      exact ⟨rfl, rfl, rfl, rfl, rfl, rfl, trivial⟩
  · have hj : j < c0.ml.length := by simp at hlt; omega
    obtain ⟨m, hmj⟩ : ∃ m, ml[j]? = some m := ⟨_, List.getElem?_eq_getElem (by omega)⟩
    have hmb0 := hmb m (List.mem_of_getElem? hmj)
    obtain ⟨V1, Vx, V2, rfl, hmx, backm⟩ := hZn.split hmj
    obtain ⟨pp, pc, ph, rfl, o1, o2, o3⟩ := hmx
    obtain ⟨bm, vm, hma, rfl, hlenm, -⟩ := OwnC.put hM (by omega)
    have hgm := flat_look (f := MV.cells) (z := 9) (fun _ => rfl) hmj
    rw [hsm] at hgm
    refine ExecS.perm (perm_open (b := [_, _, _, _, _, _, _]) (a := []) (z1 := V1) (zc := [pp, pc, ph]) (z2 := V2) (z := W)) ?_
    obtain ⟨W2, hW2⟩ : ∃ W2, W2 = V1 ++ (V2 ++ W) := ⟨_, rfl⟩
    refine ExecS.weakL (L' := [arcB b7 (some ⟨b, 0, some ver⟩) N k2', arcB b6 a1 cl1.length k1', arcB b5 aa cl.length ac, (some b, .cells ver (cm.flatMap CV.cells) 6 52), pI, qF, (some bm, .cells vm (c0.ml.flatMap MV.cells) 9 59), pp, pc, ph] ++ W2) (by rw [hW2]; exact .refl _) ?_
    clear hlt
    repeat (first | refine zrb ?_ | (refine zn ?_; intro _))
    refine ExecS.weak (E' := [(5, ptr b5), (6, ptr b6), (7, ptr b7), (8, .int .i64 (i : Int)), (9, .pointer (some ⟨b, 0 + ((i : Nat) : Int).toNat * 6, some ver⟩)), (10, .int .i64 (j : Int)), (11, .int .i64 ((0 : Nat) : Int))]) ⟨rfl, rfl, rfl, rfl, rfl, rfl, rfl, trivial⟩ (.refl _) ?_
    refine exec_loop (fun q E L => ∃ (n : Nat) (cd : List Ins) (pc' : Option Nat × Cont), n + q = m.cl.length ∧ cd.length = m.cl.length ∧ OwnC 7 61 m.ca m.cl.length m.cc (cd.flatMap insL) pc' ∧ (∀ x ∈ cd.take n, x.op = 6) ∧ E = [(5, ptr b5), (6, ptr b6), (7, ptr b7), (8, .int .i64 (i : Int)), (9, .pointer (some ⟨b, 0 + ((i : Nat) : Int).toNat * 6, some ver⟩)), (10, .int .i64 (j : Int)), (11, .int .i64 (n : Int))] ∧ L = [arcB b7 (some ⟨b, 0, some ver⟩) N k2', arcB b6 a1 cl1.length k1', arcB b5 aa cl.length ac, (some b, .cells ver (cm.flatMap CV.cells) 6 52), pI, qF, (some bm, .cells vm (c0.ml.flatMap MV.cells) 9 59), pp, pc', ph] ++ W2) ?_ m.cl.length _ _ ⟨0, m.cl, pc, by omega, rfl, o2, by simp, rfl, rfl⟩
    clear o2
    rintro q4 E L ⟨n, cd, pc', hnq, hcd, o2, hcp, rfl, rfl⟩
    repeat (first | refine zrb ?_ | (refine zn ?_; intro _))
    (first | apply ops_pl rfl rfl rfl ?_ rfl ?_ | apply draw_pl rfl rfl rfl rfl ?_ rfl rfl ?_); rotate_left; focus exact (.l rfl (look_own 3 rfl rfl rfl (hget 5 (.slice (some ⟨bm, 0, some vm⟩) c0.ml.length c0.mc) (by rw [← hma]; rfl))))
    repeat (first | refine zrb ?_ | (refine zn ?_; intro _))
    (first | apply ops_pl rfl rfl rfl ?_ rfl ?_ | apply draw_pl rfl rfl rfl rfl ?_ rfl rfl ?_); rotate_left; focus exact (.p rfl (opP_idxo (z := 9) rfl rfl rfl rfl (by omega) (by omega)))
    repeat (first | refine zrb ?_ | (refine zn ?_; intro _))
    (first | apply ops_pl rfl rfl rfl ?_ rfl ?_ | apply draw_pl rfl rfl rfl rfl ?_ rfl rfl ?_); rotate_left; focus exact (.l rfl (look_own 6 rfl rfl rfl (hgm 7 (.slice m.ca m.cl.length m.cc) rfl)))
    repeat (first | refine zrb ?_ | (refine zn ?_; intro _))
    refine exec_cond rfl (fun hlt => ?_) (fun hge => ?_)
    · have hn4 : n < m.cl.length := by simp at hlt; omega
      obtain ⟨bf, vf, hfa, rfl, hlenf, hputf⟩ := OwnC.put o2 (by omega)
      repeat (first | refine zrb ?_ | (refine zn ?_; intro _))
      (first | apply ops_pl rfl rfl rfl ?_ rfl ?_ | apply draw_pl rfl rfl rfl rfl ?_ rfl rfl ?_); rotate_left; focus exact (.l rfl (look_own 3 rfl rfl rfl (hget 5 (.slice (some ⟨bm, 0, some vm⟩) c0.ml.length c0.mc) (by rw [← hma]; rfl))))
      repeat (first | refine zrb ?_ | (refine zn ?_; intro _))
      (first | apply ops_pl rfl rfl rfl ?_ rfl ?_ | apply draw_pl rfl rfl rfl rfl ?_ rfl rfl ?_); rotate_left; focus exact (.p rfl (opP_idxo (z := 9) rfl rfl rfl rfl (by omega) (by omega)))
      repeat (first | refine zrb ?_ | (refine zn ?_; intro _))
      (first | apply ops_pl rfl rfl rfl ?_ rfl ?_ | apply draw_pl rfl rfl rfl rfl ?_ rfl rfl ?_); rotate_left; focus exact (.l rfl (look_own 6 rfl rfl rfl (hgm 7 (.slice (some ⟨bf, 0, some vf⟩) m.cl.length m.cc) (by rw [← hfa]; rfl))))
      repeat (first | refine zrb ?_ | (refine zn ?_; intro _))
      (first | apply ops_pl rfl rfl rfl ?_ rfl ?_ | apply draw_pl rfl rfl rfl rfl ?_ rfl rfl ?_); rotate_left; focus exact (.p rfl (opP_idxo (z := 7) rfl rfl rfl rfl (by omega) (by omega)))
      refine ops_step rfl rfl rfl (step_storeF 8 rfl rfl rfl rfl rfl rfl (by rw [show 0 + ((n : Nat) : Int).toNat * 7 = n * 7 from by omega]; exact wrL_flat (f := insL) (fun _ => rfl) (by omega) popI rfl) rfl ?_)
      repeat (first | refine zrb ?_ | (refine zn ?_; intro _))
      refine ⟨q4 - 1, by omega, _, _, ?_, .refl _, n + 1, cd.set n popI, _, by omega, by rw [List.length_set]; exact hcd, by exact hputf ((cd.set n popI).flatMap insL) (by rw [flat_len (f := insL) (z := 7) (fun _ => rfl), List.length_set, hcd]), take_set hcp rfl, rfl, rfl⟩
      exact ⟨rfl, rfl, rfl, rfl, rfl, rfl, rfl, trivial⟩
    · have hn4 : n = m.cl.length := by simp at hge; omega
      rw [List.take_of_length_le (by omega)] at hcp
      have hmc : (⟨⟨m.nm, m.ps, m.rk, m.rc, m.st, m.ab, m.lo, cd, m.hl⟩, m.pa, m.pc, m.ca, m.cc, m.ha, m.hc⟩ : MV).cells = m.cells := by
        simp only [MV.cells, hcd]
      have hz := backm ⟨⟨m.nm, m.ps, m.rk, m.rc, m.st, m.ab, m.lo, cd, m.hl⟩, m.pa, m.pc, m.ca, m.cc, m.ha, m.hc⟩ [pp, pc', ph] ⟨pp, pc', ph, rfl, o1, by simp only [hcd]; exact o2, o3⟩
      subst hW2
      refine ExecS.perm (perm_open (b := [_, _, _, _, _, _, _]) (a := []) (z1 := V1) (zc := [pp, pc', ph]) (z2 := V2) (z := W)).symm ?_
      repeat (first | refine zrb ?_ | (refine zn ?_; intro _))
      refine ⟨q1 - 1, by omega, _, _, ?_, .refl _, j + 1, _, _, by omega, by rw [List.length_set]; exact hml, hz, by rw [flat_same hmj hmc]; exact hsm, all_set hmb (by simp only [hcd]; exact hmb0), take_set (P := fun m : MV => ∀ x ∈ m.cl, x.op = 6) hjp hcp, rfl, rfl⟩
      exact ⟨rfl, rfl, rfl, rfl, rfl, rfl, trivial⟩
end Go.Proofs.YtlhkndjloeoodaaGreat
