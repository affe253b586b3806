/-
  Lemmas for the laws of this seat.
-/
import Derived.Test.YtlhkndjloeoodaaGreatK7
import Derived.Test.YtlhkndjloeoodaaGreatK10
import Derived.Test.YtlhkndjloeoodaaGreatK9
import Derived.Test.YtlhkndjloeoodaaGreatK5
set_option linter.unusedVariables false
set_option linter.unusedSimpArgs false
namespace Go.Proofs.YtlhkndjloeoodaaGreat
open Go.Ev Go.Ev.Wk
variable {O : Old}
abbrev CV.mv (c : CV) (ia : Option Addr) (ic : Nat) (fa : Option Addr) (fc : Nat) (ma : Option Addr) (mc : Nat) (ml : List MV) : CV := ⟨c.nm, c.su, c.ifs, c.kd, c.fl, ml, ia, ic, fa, fc, ma, mc⟩
abbrev MV.mv (m : MV) (pa : Option Addr) (pc : Nat) (ca : Option Addr) (cc : Nat) (ha : Option Addr) (hc : Nat) : MV := ⟨m.toPM, pa, pc, ca, cc, ha, hc⟩
set_option maxHeartbeats 16000000 in
set_option maxRecDepth 100000 in
theorem copy_ok {H : Heap} {a : Option Addr} {k : Nat} {cl : List CV} (hm : Keep [] H fun H' => ArcF O H' a k cl) (hw : ∀ c ∈ cl, WfC c.pc) (hn : cl.length ≤ 1000000) :
    FpC TT O 20 [arcV a cl.length k] H [] fun v F' => ∃ (a' : Option Addr) (k' : Nat) (cl' : List CV), v = arcV a' cl'.length k' ∧ cl'.map CV.pc = cl.map CV.pc ∧ OwnAr a' k' cl' F' := by
  refine call_fpM rfl rfl rfl rfl rfl (St.start H) ?_
  repeat (first | refine zrb ?_ | (refine zn ?_; intro _))
  refine ops_step rfl rfl rfl (step_call_fp [] _ rfl rfl rfl (List.Perm.refl _) (fun H hs hst => cloneC_ok (hm.at hs).sl hn) (fun v F1 h1 => ?_))
  obtain ⟨a', k', pC, rfl, rfl, ownC⟩ := h1
  rename_i bx rx
  repeat (first | refine zrb ?_ | (refine zn ?_; intro _))
  refine ExecS.weak (E' := [(1, ptr bx), (2, ptr rx), (13, .int .i64 (cl.length : Int)), (14, .int .i64 ((0 : Nat) : Int))]) (L' := [pC, (some rx, .cells 0 [.slice none 0 0] 0 24), (some bx, .cells 0 [.slice a' cl.length k'] 0 24)]) ⟨rfl, rfl, rfl, rfl, trivial⟩ (.refl _) ?_
  refine exec_loop (fun q E L => ∃ (i : Nat) (done : List CV) (p : Option Nat × Cont) (Zs : Atoms), i + q = cl.length ∧ done.length = i ∧ done.map CV.pc = (cl.take i).map CV.pc ∧ OwnC 6 52 a' cl.length k' ((done ++ cl.drop i).flatMap CV.cells) p ∧ OwnL OwnK done Zs ∧ E = [(1, ptr bx), (2, ptr rx), (13, .int .i64 (cl.length : Int)), (14, .int .i64 (i : Int))] ∧ L = p :: (some rx, .cells 0 [.slice none 0 0] 0 24) :: (some bx, .cells 0 [.slice a' cl.length k'] 0 24) :: Zs) ?_ cl.length _ _ ⟨0, [], pC, [], by omega, rfl, rfl, ownC, rfl, rfl, rfl⟩
  clear ownC
  rintro q E L ⟨i, done, p, Zs, hiq, hdl, hdm, ownC, ownZ, rfl, rfl⟩
  repeat (first | refine zrb ?_ | (refine zn ?_; intro _))
  refine exec_cond rfl (fun hlt => ?_) (fun hge => ?_)
  rotate_left
  · have hi : i = cl.length := by simp at hge; omega
    subst hi
    rw [List.drop_length, List.append_nil] at ownC
    rw [List.take_length] at hdm
    rw [← hdl] at ownC
    repeat (first | refine zrb ?_ | (refine zn ?_; intro _))
    refine ⟨trivial, [_], ⟨look_agg 1 rfl rfl rfl rfl, trivial⟩, p :: Zs, [_, _], (List.perm_append_comm (l₁ := [_, _]) (l₂ := Zs)).cons p, a', k', done, ?_, hdm, p, Zs, rfl, ownC, ownZ⟩
    rw [hdl]; rfl
  have hi : i < cl.length := by simp at hlt; omega
  obtain ⟨c, hc⟩ : ∃ c, cl[i]? = some c := ⟨_, List.getElem?_eq_getElem hi⟩
  have hmem := List.mem_of_getElem? hc
  have hwc := hw c hmem
  obtain ⟨all, hall⟩ : ∃ all, all = done ++ cl.drop i := ⟨_, rfl⟩
  have hai : all[i]? = some c := by rw [hall, List.getElem?_append_right (by omega), hdl, Nat.sub_self, List.getElem?_drop]; exact hc
  have halen : all.length = cl.length := by rw [hall, List.length_append, List.length_drop]; omega
  rw [← hall] at ownC
  obtain ⟨b, ver, rfl, rfl, hlen, hput⟩ := OwnC.put ownC (by omega)
  have hset0 : all = all.set i c := by
    obtain ⟨hi', e⟩ := List.getElem?_eq_some_iff.1 hai
    rw [← e, List.set_getElem_self]
  have hget := flat_look (f := CV.cells) (z := 6) (fun _ => rfl) hai
  repeat (first | refine zrb ?_ | (refine zn ?_; intro _))
  (first | apply ops_pl rfl rfl rfl ?_ rfl ?_ | apply draw_pl rfl rfl rfl rfl ?_ rfl rfl ?_); rotate_left; focus exact (.p rfl (opP_idxo (z := 6) rfl rfl rfl rfl (by omega) (by omega)))
  repeat (first | refine zrb ?_ | (refine zn ?_; intro _))
  refine exec_draw (lst := [(0, 0), (1, 0), (2, 0), (3, 0), (4, 8), (5, 24), (6, 56), (8, 0), (9, 256), (10, 768), (11, 1792), (13, 0), (14, 8192), (15, 24576), (16, 57344), (7, 120), (12, 4088), (17, 131064), (18, 262137), (19, 524281), (20, 1048569), (21, 2097147), (22, 4194299), (23, 8388603), (24, 16777215), (25, 33554431), (26, 67108863)]) (full := 134217727) (by kernel_rfl) (by kernel_rfl) (by kernel_rfl) (by kernel_rfl) ?_
  skip
  repeat (first | refine zdb ?_)
  try refine draw_nil ?_
  (first | apply ops_pl rfl rfl rfl ?_ rfl ?_ | apply draw_pl rfl rfl rfl rfl ?_ rfl rfl ?_); rotate_left; focus exact (.l rfl (look_own 0 rfl rfl rfl (hget _ _ rfl)))
  repeat (first | refine zdb ?_)
  try refine draw_nil ?_
  (first | apply ops_pl rfl rfl rfl ?_ rfl ?_ | apply draw_pl rfl rfl rfl rfl ?_ rfl rfl ?_); rotate_left; focus exact (.l rfl (look_own 0 rfl rfl rfl (hget _ _ rfl)))
  repeat (first | refine zdb ?_)
  try refine draw_nil ?_
  (first | apply ops_pl rfl rfl rfl ?_ rfl ?_ | apply draw_pl rfl rfl rfl rfl ?_ rfl rfl ?_); rotate_left; focus exact (.l rfl (look_own 0 rfl rfl rfl (hget _ _ rfl)))
  repeat (first | refine zdb ?_)
  try refine draw_nil ?_
  refine draw_w rfl rfl rfl rfl rfl rfl (step_call_fp [] _ rfl rfl rfl (List.Perm.refl _) (fun H hs hst => cloneS_ok ((hm.at hs).cs c hmem).ifs hwc.ifn) (fun v2 F2 h2 => ?_))
  obtain ⟨ia, ic, pI, rfl, rfl, ownI⟩ := h2
  refine ⟨by repeat (first | exact True.intro | refine And.intro (.inr ⟨veq_refl rfl, (look_own 0 rfl rfl rfl (hget _ _ rfl))⟩) ?_ | refine And.intro (.inr ⟨veq_refl rfl, (look_own 1 rfl rfl rfl (hget _ _ rfl))⟩) ?_ | refine And.intro (.inr ⟨veq_refl rfl, (look_own 2 rfl rfl rfl (hget _ _ rfl))⟩) ?_ | refine And.intro (.inr ⟨veq_refl rfl, (look_own 3 rfl rfl rfl (hget _ _ rfl))⟩) ?_ | refine zs1 ?_), ?_⟩
  repeat (first | refine zdb ?_)
  try refine draw_nil ?_
  refine draw_w rfl rfl rfl rfl rfl rfl (step_call_fp [] _ rfl rfl rfl (List.Perm.refl _) (fun H hs hst => cloneF_ok ((hm.at hs).cs c hmem).fl hwc.fln) (fun v3 F3 h3 => ?_))
  obtain ⟨fa, fc, pF, rfl, rfl, ownF⟩ := h3
  refine ⟨by repeat (first | exact True.intro | refine And.intro (.inr ⟨veq_refl rfl, (look_own 0 rfl rfl rfl (hget _ _ rfl))⟩) ?_ | refine And.intro (.inr ⟨veq_refl rfl, (look_own 1 rfl rfl rfl (hget _ _ rfl))⟩) ?_ | refine And.intro (.inr ⟨veq_refl rfl, (look_own 2 rfl rfl rfl (hget _ _ rfl))⟩) ?_ | refine And.intro (.inr ⟨veq_refl rfl, (look_own 3 rfl rfl rfl (hget _ _ rfl))⟩) ?_ | refine zs1 ?_), ?_⟩
  repeat (first | refine zdb ?_)
  try refine draw_nil ?_
  refine draw_w rfl rfl rfl rfl rfl rfl (step_call_fp [] _ rfl rfl rfl (List.Perm.refl _) (fun H hs hst => cloneM_ok ((hm.at hs).cs c hmem).ml (by have := hwc.mln; simpa using this)) (fun v4 F4 h4 => ?_))
  obtain ⟨ma, mc, pM, rfl, rfl, ownM⟩ := h4
  refine ⟨by repeat (first | exact True.intro | refine And.intro (.inr ⟨veq_refl rfl, (look_own 0 rfl rfl rfl (hget _ _ rfl))⟩) ?_ | refine And.intro (.inr ⟨veq_refl rfl, (look_own 1 rfl rfl rfl (hget _ _ rfl))⟩) ?_ | refine And.intro (.inr ⟨veq_refl rfl, (look_own 2 rfl rfl rfl (hget _ _ rfl))⟩) ?_ | refine And.intro (.inr ⟨veq_refl rfl, (look_own 3 rfl rfl rfl (hget _ _ rfl))⟩) ?_ | refine zs1 ?_), ?_⟩
  repeat (first | refine zdb ?_)
  try refine draw_nil ?_
  refine draw_w rfl rfl rfl rfl rfl rfl (step_storeF 3 rfl rfl rfl rfl rfl rfl (flat_put (f := CV.cells) (l0 := all) (x := c) (y := c.mv ia ic c.fa c.fc c.ma c.mc c.ml) (fun _ => rfl) hset0 (by omega) rfl rfl rfl) rfl ⟨by repeat (first | exact True.intro | refine And.intro (.inr ⟨veq_refl rfl, (look_own 0 rfl rfl rfl (hget _ _ rfl))⟩) ?_ | refine And.intro (.inr ⟨veq_refl rfl, (look_own 1 rfl rfl rfl (hget _ _ rfl))⟩) ?_ | refine And.intro (.inr ⟨veq_refl rfl, (look_own 2 rfl rfl rfl (hget _ _ rfl))⟩) ?_ | refine And.intro (.inr ⟨veq_refl rfl, (look_own 3 rfl rfl rfl (hget _ _ rfl))⟩) ?_ | refine zs1 ?_), ?_⟩)
  repeat (first | refine zdb ?_)
  try refine draw_nil ?_
  refine draw_w rfl rfl rfl rfl rfl rfl (step_storeF 3 rfl rfl rfl rfl rfl rfl (flat_put (f := CV.cells) (l0 := all) (x := c.mv ia ic c.fa c.fc c.ma c.mc c.ml) (y := c.mv ia ic fa fc c.ma c.mc c.ml) (fun _ => rfl) rfl (by omega) rfl rfl rfl) rfl ⟨by repeat (first | exact True.intro | refine And.intro (.inr ⟨veq_refl rfl, (look_own 0 rfl rfl rfl (hget _ _ rfl))⟩) ?_ | refine And.intro (.inr ⟨veq_refl rfl, (look_own 1 rfl rfl rfl (hget _ _ rfl))⟩) ?_ | refine And.intro (.inr ⟨veq_refl rfl, (look_own 2 rfl rfl rfl (hget _ _ rfl))⟩) ?_ | refine And.intro (.inr ⟨veq_refl rfl, (look_own 3 rfl rfl rfl (hget _ _ rfl))⟩) ?_ | refine zs1 ?_), ?_⟩)
  repeat (first | refine zdb ?_)
  try refine draw_nil ?_
  refine draw_w rfl rfl rfl rfl rfl rfl (step_storeF 3 rfl rfl rfl rfl rfl rfl (flat_put (f := CV.cells) (l0 := all) (x := c.mv ia ic fa fc c.ma c.mc c.ml) (y := c.mv ia ic fa fc ma mc c.ml) (fun _ => rfl) rfl (by omega) rfl rfl rfl) rfl ⟨by repeat (first | exact True.intro | refine And.intro (.inr ⟨veq_refl rfl, (look_own 0 rfl rfl rfl (hget _ _ rfl))⟩) ?_ | refine And.intro (.inr ⟨veq_refl rfl, (look_own 1 rfl rfl rfl (hget _ _ rfl))⟩) ?_ | refine And.intro (.inr ⟨veq_refl rfl, (look_own 2 rfl rfl rfl (hget _ _ rfl))⟩) ?_ | refine And.intro (.inr ⟨veq_refl rfl, (look_own 3 rfl rfl rfl (hget _ _ rfl))⟩) ?_ | refine zs1 ?_), ?_⟩)
  refine draw_nil ?_
  clear hget hset0 ownC hlen
  obtain ⟨c1, hc1⟩ : ∃ c1, c1 = c.mv ia ic fa fc ma mc c.ml := ⟨_, rfl⟩
  have ha1 : (all.set i (c.mv ia ic fa fc ma mc c.ml))[i]? = some (c.mv ia ic fa fc ma mc c.ml) := by rw [List.getElem?_set]; simp [show i < all.length from by omega]
  have hget := flat_look (f := CV.cells) (z := 6) (fun _ => rfl) ha1
  repeat (first | refine zrb ?_ | (refine zn ?_; intro _))
  (first | apply ops_pl rfl rfl rfl ?_ rfl ?_ | apply draw_pl rfl rfl rfl rfl ?_ rfl rfl ?_); rotate_left; focus exact (.l rfl (look_own 3 rfl rfl rfl (hget 5 (.slice ma c.ml.length mc) rfl)))
  repeat (first | refine zrb ?_ | (refine zn ?_; intro _))
  have hmn : c.ml.length ≤ 1000000 := by have := hwc.mln; simpa using this
  refine ExecS.weak (E' := [(1, ptr bx), (2, ptr rx), (4, .pointer (some ⟨b, 0 + ((i : Nat) : Int).toNat * 6, some ver⟩)), (13, .int .i64 (cl.length : Int)), (14, .int .i64 (i : Int)), (49, .int .i64 (c.ml.length : Int)), (50, .int .i64 ((0 : Nat) : Int))]) ⟨rfl, rfl, rfl, rfl, rfl, rfl, rfl, trivial⟩ (.refl _) ?_
  refine exec_loop (fun q' E L => ∃ (j : Nat) (dn : List MV) (p : Option Nat × Cont) (Zm : Atoms), j + q' = c.ml.length ∧ dn.length = j ∧ dn.map MV.toPM = (c.ml.take j).map MV.toPM ∧ OwnC 9 59 ma c.ml.length mc ((dn ++ c.ml.drop j).flatMap MV.cells) p ∧ OwnL OwnM dn Zm ∧
    E = [(1, ptr bx), (2, ptr rx), (4, .pointer (some ⟨b, 0 + ((i : Nat) : Int).toNat * 6, some ver⟩)), (13, .int .i64 (cl.length : Int)), (14, .int .i64 (i : Int)), (49, .int .i64 (c.ml.length : Int)), (50, .int .i64 (j : Int))] ∧
    L = [p, pF, pI, (some b, .cells ver ((all.set i (c.mv ia ic fa fc ma mc c.ml)).flatMap CV.cells) 6 52), (some rx, .cells 0 [.slice none 0 0] 0 24), (some bx, .cells 0 [.slice (some ⟨b, 0, some ver⟩) cl.length k'] 0 24)] ++ (Zm ++ Zs)) ?_ c.ml.length _ _ ⟨0, [], pM, [], by omega, rfl, rfl, ownM, rfl, rfl, rfl⟩
  clear ownM pM
  rintro q' E L ⟨j, dn, pM, Zm, hjq, hjl, hjm, ownM, ownZm, rfl, rfl⟩
  repeat (first | refine zrb ?_ | (refine zn ?_; intro _))
  refine exec_cond rfl (fun hlt => ?_) (fun hge => ?_)
  · have hj : j < c.ml.length := by simp at hlt; omega
    obtain ⟨m, hmj⟩ : ∃ m, c.ml[j]? = some m := ⟨_, List.getElem?_eq_getElem hj⟩
    have hmm := List.mem_of_getElem? hmj
    have hwm := hwc.ml _ (List.mem_map_of_mem hmm)
    obtain ⟨alm, halm⟩ : ∃ alm, alm = dn ++ c.ml.drop j := ⟨_, rfl⟩
    have hamj : alm[j]? = some m := by rw [halm, List.getElem?_append_right (by omega), hjl, Nat.sub_self, List.getElem?_drop]; exact hmj
    have hamlen : alm.length = c.ml.length := by rw [halm, List.length_append, List.length_drop]; omega
    rw [← halm] at ownM
    obtain ⟨bm, verm, hma, rfl, hlenm, hputm⟩ := OwnC.put ownM (by omega)
    have hsetm : alm = alm.set j m := by
      obtain ⟨hi', e⟩ := List.getElem?_eq_some_iff.1 hamj
      rw [← e, List.set_getElem_self]
    have hgetm := flat_look (f := MV.cells) (z := 9) (fun _ => rfl) hamj
    repeat (first | refine zrb ?_ | (refine zn ?_; intro _))
    (first | apply ops_pl rfl rfl rfl ?_ rfl ?_ | apply draw_pl rfl rfl rfl rfl ?_ rfl rfl ?_); rotate_left; focus exact (.l rfl (look_own 3 rfl rfl rfl (hget 5 (.slice ma c.ml.length mc) rfl)))
    subst hma
    repeat (first | refine zrb ?_ | (refine zn ?_; intro _))
    (first | apply ops_pl rfl rfl rfl ?_ rfl ?_ | apply draw_pl rfl rfl rfl rfl ?_ rfl rfl ?_); rotate_left; focus exact (.p rfl (opP_idxo (z := 9) rfl rfl rfl rfl (by omega) (by omega)))
    repeat (first | refine zrb ?_ | (refine zn ?_; intro _))
    refine exec_draw (lst := [(0, 0), (1, 0), (2, 0), (3, 0), (4, 8), (5, 24), (6, 56), (8, 0), (9, 256), (10, 768), (11, 1792), (13, 0), (14, 8192), (15, 24576), (16, 57344), (7, 120), (12, 4088), (17, 131064), (18, 262137), (19, 524281), (20, 1048569), (21, 2097147), (22, 4194299), (23, 8388603), (24, 16777215), (25, 33554431), (26, 67108863)]) (full := 134217727) (by kernel_rfl) (by kernel_rfl) (by kernel_rfl) (by kernel_rfl) ?_
    skip
    repeat (first | refine zdb ?_)
    try refine draw_nil ?_
    (first | apply ops_pl rfl rfl rfl ?_ rfl ?_ | apply draw_pl rfl rfl rfl rfl ?_ rfl rfl ?_); rotate_left; focus exact (.l rfl (look_own 0 rfl rfl rfl (hgetm _ _ rfl)))
    repeat (first | refine zdb ?_)
    try refine draw_nil ?_
    (first | apply ops_pl rfl rfl rfl ?_ rfl ?_ | apply draw_pl rfl rfl rfl rfl ?_ rfl rfl ?_); rotate_left; focus exact (.l rfl (look_own 0 rfl rfl rfl (hgetm _ _ rfl)))
    repeat (first | refine zdb ?_)
    try refine draw_nil ?_
    (first | apply ops_pl rfl rfl rfl ?_ rfl ?_ | apply draw_pl rfl rfl rfl rfl ?_ rfl rfl ?_); rotate_left; focus exact (.l rfl (look_own 0 rfl rfl rfl (hgetm _ _ rfl)))
    repeat (first | refine zdb ?_)
    try refine draw_nil ?_
    refine draw_w rfl rfl rfl rfl rfl rfl (step_call_fp [] _ rfl rfl rfl (List.Perm.refl _) (fun H hs hst => cloneT_ok (((hm.at hs).cs c hmem).ms m hmm).ps hwm.psn) (fun v2 F2 h2 => ?_))
    obtain ⟨qa, qc, p1, rfl, rfl, own1⟩ := h2
    refine ⟨by repeat (first | exact True.intro | refine And.intro (.inr ⟨veq_refl rfl, (look_own 0 rfl rfl rfl (hgetm _ _ rfl))⟩) ?_ | refine And.intro (.inr ⟨veq_refl rfl, (look_own 1 rfl rfl rfl (hgetm _ _ rfl))⟩) ?_ | refine And.intro (.inr ⟨veq_refl rfl, (look_own 2 rfl rfl rfl (hgetm _ _ rfl))⟩) ?_ | refine And.intro (.inr ⟨veq_refl rfl, (look_own 3 rfl rfl rfl (hgetm _ _ rfl))⟩) ?_ | refine zs1 ?_), ?_⟩
    repeat (first | refine zdb ?_)
    try refine draw_nil ?_
    refine draw_w rfl rfl rfl rfl rfl rfl (step_call_fp [] _ rfl rfl rfl (List.Perm.refl _) (fun H hs hst => cloneI_ok (((hm.at hs).cs c hmem).ms m hmm).cl hwm.cln) (fun v3 F3 h3 => ?_))
    obtain ⟨ra, rc, p2, rfl, rfl, own2⟩ := h3
    refine ⟨by repeat (first | exact True.intro | refine And.intro (.inr ⟨veq_refl rfl, (look_own 0 rfl rfl rfl (hgetm _ _ rfl))⟩) ?_ | refine And.intro (.inr ⟨veq_refl rfl, (look_own 1 rfl rfl rfl (hgetm _ _ rfl))⟩) ?_ | refine And.intro (.inr ⟨veq_refl rfl, (look_own 2 rfl rfl rfl (hgetm _ _ rfl))⟩) ?_ | refine And.intro (.inr ⟨veq_refl rfl, (look_own 3 rfl rfl rfl (hgetm _ _ rfl))⟩) ?_ | refine zs1 ?_), ?_⟩
    repeat (first | refine zdb ?_)
    try refine draw_nil ?_
    refine draw_w rfl rfl rfl rfl rfl rfl (step_call_fp [] _ rfl rfl rfl (List.Perm.refl _) (fun H hs hst => cloneH_ok (((hm.at hs).cs c hmem).ms m hmm).hl hwm.hln) (fun v4 F4 h4 => ?_))
    obtain ⟨sa, sc, p3, rfl, rfl, own3⟩ := h4
    refine ⟨by repeat (first | exact True.intro | refine And.intro (.inr ⟨veq_refl rfl, (look_own 0 rfl rfl rfl (hgetm _ _ rfl))⟩) ?_ | refine And.intro (.inr ⟨veq_refl rfl, (look_own 1 rfl rfl rfl (hgetm _ _ rfl))⟩) ?_ | refine And.intro (.inr ⟨veq_refl rfl, (look_own 2 rfl rfl rfl (hgetm _ _ rfl))⟩) ?_ | refine And.intro (.inr ⟨veq_refl rfl, (look_own 3 rfl rfl rfl (hgetm _ _ rfl))⟩) ?_ | refine zs1 ?_), ?_⟩
    repeat (first | refine zdb ?_)
    try refine draw_nil ?_
    refine draw_w rfl rfl rfl rfl rfl rfl (step_storeF 3 rfl rfl rfl rfl rfl rfl (flat_put (f := MV.cells) (l0 := alm) (x := m) (y := m.mv qa qc m.ca m.cc m.ha m.hc) (fun _ => rfl) hsetm (by omega) rfl rfl rfl) rfl ⟨by repeat (first | exact True.intro | refine And.intro (.inr ⟨veq_refl rfl, (look_own 0 rfl rfl rfl (hgetm _ _ rfl))⟩) ?_ | refine And.intro (.inr ⟨veq_refl rfl, (look_own 1 rfl rfl rfl (hgetm _ _ rfl))⟩) ?_ | refine And.intro (.inr ⟨veq_refl rfl, (look_own 2 rfl rfl rfl (hgetm _ _ rfl))⟩) ?_ | refine And.intro (.inr ⟨veq_refl rfl, (look_own 3 rfl rfl rfl (hgetm _ _ rfl))⟩) ?_ | refine zs1 ?_), ?_⟩)
    repeat (first | refine zdb ?_)
    try refine draw_nil ?_
    refine draw_w rfl rfl rfl rfl rfl rfl (step_storeF 3 rfl rfl rfl rfl rfl rfl (flat_put (f := MV.cells) (l0 := alm) (x := m.mv qa qc m.ca m.cc m.ha m.hc) (y := m.mv qa qc ra rc m.ha m.hc) (fun _ => rfl) rfl (by omega) rfl rfl rfl) rfl ⟨by repeat (first | exact True.intro | refine And.intro (.inr ⟨veq_refl rfl, (look_own 0 rfl rfl rfl (hgetm _ _ rfl))⟩) ?_ | refine And.intro (.inr ⟨veq_refl rfl, (look_own 1 rfl rfl rfl (hgetm _ _ rfl))⟩) ?_ | refine And.intro (.inr ⟨veq_refl rfl, (look_own 2 rfl rfl rfl (hgetm _ _ rfl))⟩) ?_ | refine And.intro (.inr ⟨veq_refl rfl, (look_own 3 rfl rfl rfl (hgetm _ _ rfl))⟩) ?_ | refine zs1 ?_), ?_⟩)
    repeat (first | refine zdb ?_)
    try refine draw_nil ?_
    refine draw_w rfl rfl rfl rfl rfl rfl (step_storeF 3 rfl rfl rfl rfl rfl rfl (flat_put (f := MV.cells) (l0 := alm) (x := m.mv qa qc ra rc m.ha m.hc) (y := m.mv qa qc ra rc sa sc) (fun _ => rfl) rfl (by omega) rfl rfl rfl) rfl ⟨by repeat (first | exact True.intro | refine And.intro (.inr ⟨veq_refl rfl, (look_own 0 rfl rfl rfl (hgetm _ _ rfl))⟩) ?_ | refine And.intro (.inr ⟨veq_refl rfl, (look_own 1 rfl rfl rfl (hgetm _ _ rfl))⟩) ?_ | refine And.intro (.inr ⟨veq_refl rfl, (look_own 2 rfl rfl rfl (hgetm _ _ rfl))⟩) ?_ | refine And.intro (.inr ⟨veq_refl rfl, (look_own 3 rfl rfl rfl (hgetm _ _ rfl))⟩) ?_ | refine zs1 ?_), ?_⟩)
    refine draw_nil ?_
    refine ExecS.perm (perm_in' (nw := [p3, p2, p1]) (nw' := [p1, p2, p3]) (fx := [_, pF, pI, _, _, _]) (a := Zm) (b := Zs) (List.reverse_perm [p1, p2, p3])) ?_
    repeat (first | refine zrb ?_ | (refine zn ?_; intro _))
    have hset2 : alm.set j (m.mv qa qc ra rc sa sc) = dn ++ [m.mv qa qc ra rc sa sc] ++ c.ml.drop (j + 1) := by
      rw [halm, List.set_append_right _ _ (by omega), hjl, Nat.sub_self, List.drop_eq_getElem_cons hj, List.set_cons_zero, List.append_assoc]; rfl
    have hown := hputm ((alm.set j (m.mv qa qc ra rc sa sc)).flatMap MV.cells) (by rw [flat_len (f := MV.cells) (z := 9) (fun _ => rfl), List.length_set, hamlen])
    rw [hset2] at hown
    refine ⟨q' - 1, by omega, _, _, ?_, .refl _, j + 1, dn ++ [m.mv qa qc ra rc sa sc], _, Zm ++ [p1, p2, p3], by omega, by rw [List.length_append, hjl]; rfl, ?_, hown, ownZm.snoc ⟨p1, p2, p3, rfl, own1, own2, own3⟩, rfl, by rw [hset2]⟩
    · exact ⟨rfl, rfl, rfl, rfl, rfl, rfl, rfl, trivial⟩
    · rw [List.map_append, hjm, List.take_add_one, hmj, List.map_append]; rfl
  have hj : j = c.ml.length := by simp at hge; omega
  subst hj
  rw [List.drop_length, List.append_nil] at ownM
  rw [List.take_length] at hjm
  rw [← hjl] at ownM
  refine exec_exit ?_
  refine ExecS.perm (perm_out (nw := [pM, pF, pI]) (nw' := [pI, pF, pM]) (fx := [_, _, _]) (a := Zm) (b := Zs) (List.reverse_perm [pI, pF, pM])) ?_
  repeat (first | refine zrb ?_ | (refine zn ?_; intro _))
  have hset3 : (all.set i (c.mv ia ic fa fc ma mc c.ml)).flatMap CV.cells = (done ++ [c.mv ia ic fa fc ma mc dn] ++ cl.drop (i + 1)).flatMap CV.cells := by
    have e1 : all.set i (c.mv ia ic fa fc ma mc c.ml) = done ++ [c.mv ia ic fa fc ma mc c.ml] ++ cl.drop (i + 1) := by
      rw [hall, List.set_append_right _ _ (by omega), hdl, Nat.sub_self, List.drop_eq_getElem_cons hi, List.set_cons_zero, List.append_assoc]; rfl
    have e2 : (c.mv ia ic fa fc ma mc c.ml).cells = (c.mv ia ic fa fc ma mc dn).cells := by simp only [CV.cells, hjl]
    rw [e1]
    simp only [List.flatMap_append, List.flatMap_cons, List.flatMap_nil]
    rw [e2]
  have hown := hput ((all.set i (c.mv ia ic fa fc ma mc c.ml)).flatMap CV.cells) (by rw [flat_len (f := CV.cells) (z := 6) (fun _ => rfl), List.length_set, halen])
  rw [hset3] at hown ⊢
  refine ⟨q - 1, by omega, _, _, ?_, .refl _, i + 1, done ++ [c.mv ia ic fa fc ma mc dn], _, Zs ++ ([pI, pF, pM] ++ Zm), by omega, by rw [List.length_append, hdl]; rfl, ?_, hown, ownZ.snoc ⟨pI, pF, pM, Zm, rfl, ownI, ownF, ownM, ownZm⟩, rfl, rfl⟩
  · exact ⟨rfl, rfl, rfl, rfl, trivial⟩
  · rw [List.map_append, hdm, List.take_add_one, hc, List.map_append]
    simp [hjm]
end Go.Proofs.YtlhkndjloeoodaaGreat
namespace Go.Proofs.YtlhkndjloeoodaaGreat
open Go.Ev Go.Ev.Wk
variable {O : Old}
abbrev ShJ (i : Ins) : Prop := i.s.length ≤ 70 ∧ i.ds.length ≤ 70 ∧ i.cl.length ≤ 70 ∧ i.nm.length ≤ 70
structure ShC (c : PC) : Prop where
  ds : ∀ m ∈ c.ml, (ofL m.ps m.rk m.rc).length ≤ 70
  is : ∀ m ∈ c.ml, ∀ i ∈ m.cl, ShJ i
def TxP (w : WS) : Prop := ∀ t ∈ w.2, t.length ≤ 70
theorem txp_num (ns : List Int) {w : WS} (h : TxP w) : TxP (wNum ns w) := h
theorem txp_text1 {s : List UInt8} {w : WS} (h : TxP w) (hs : s.length ≤ 70) : TxP (wText1 w s) := fun t ht => (mem_putT ht).elim (h t) fun e => e ▸ hs
theorem txp_fold {α : Type} {f : WS → α → WS} : ∀ {l : List α} {w : WS}, (∀ x ∈ l, ∀ w, TxP w → TxP (f w x)) → TxP w → TxP (l.foldl f w)
  | [], _, _, h => h
  | x :: l, w, hf, h => txp_fold (l := l) (w := f w x) (fun y hy => hf y (by simp [hy])) (hf x (by simp) w h)
theorem txp_text {ss : List (List UInt8)} {w : WS} (hs : ∀ s ∈ ss, s.length ≤ 70) (h : TxP w) : TxP (wText ss w) := txp_fold (fun s hm w hw => txp_text1 hw (hs s hm)) h
theorem txp_ins {i : Ins} {w : WS} (hs : ShJ i) (h : TxP w) : TxP (wIns w i) := by
  obtain ⟨h1, h2, h3, h4⟩ := hs
  have h0 : TxP (wNum [i.op] w) := txp_num _ h
  unfold wIns wInsB
  split; · exact h0
  split; · exact txp_text (by simp; omega) h0
  split; · exact txp_num _ h0
  split; · exact txp_text (by simp; omega) h0
  split; · exact txp_text (by simp; omega) h0
  split; · exact txp_text (by simp; omega) h0
  exact h0
theorem txp_han {x : HV} {w : WS} (hr : rightH x = true) (h : TxP w) : TxP (wHan w x) := by
  simp only [rightH, Bool.and_eq_true] at hr
  have := nameL_len hr.2
  exact txp_text (by simp; omega) (txp_num _ h)
theorem txp_field {x : FV} {w : WS} (hr : rightF x = true) (h : TxP w) : TxP (wField w x) := by
  simp only [rightF, Bool.and_eq_true] at hr
  have h1 := nameL_len hr.1
  have h2 : x.tc.length ≤ 64 := typed_len hr.2
  have h3 := typeL_len x.tk x.tc
  exact txp_num _ (txp_text (by simp; omega) h)
theorem txp_meth {m : PM} {w : WS} (hr : RtM m) (h1 : (ofL m.ps m.rk m.rc).length ≤ 70) (h2 : ∀ i ∈ m.cl, ShJ i) (h : TxP w) : TxP (wMeth w m) := by
  have h3 := nameL_len hr.nm
  exact txp_fold (fun x hx w hw => txp_han (hr.hl x hx) hw) (txp_num _ (txp_fold (fun x hx w hw => txp_ins (h2 x hx) hw) (txp_num _ (txp_text (by simp; omega) h))))
theorem txp_cls {c : PC} {w : WS} (hr : RtC c) (hs : ShC c) (h : TxP w) : TxP (wCls w c) := by
  have h3 := nameL_len hr.nm
  have h4 := nameL_len hr.su
  exact txp_fold (fun x hx w hw => txp_meth (hr.ml x hx) (hs.ds x hx) (hs.is x hx) hw) (txp_num _ (txp_fold (fun x hx w hw => txp_field (hr.fl x hx) hw) (txp_num _ (txp_text (fun s hm => by have := nameL_len (hr.ifs s hm); omega) (txp_num _ (txp_text (by simp; omega) h))))))
theorem txp_arc {cl : List PC} (hr : ∀ c ∈ cl, RtC c) (hs : ∀ c ∈ cl, ShC c) : TxP (wArc cl) :=
  txp_fold (fun c hc w hw => txp_cls (hr c hc) (hs c hc) hw) (txp_num _ (fun t ht => by cases ht))
theorem textsB_le70 : ∀ {ts : List (List UInt8)}, (∀ s ∈ ts, s.length ≤ 70) → (textsB ts).length ≤ 79 * ts.length
  | [], _ => by simp [textsB]
  | s :: ts, h => by
    have h1 := h s (by simp)
    have h2 := textsB_le70 (ts := ts) fun x hx => h x (by simp [hx])
    have h3 := enc_len9 (n := s.length) (by omega)
    simp only [textsB, List.length_append, List.length_cons]
    omega
theorem rightA_of {cl : List PC} (hr : ∀ c ∈ cl, RtC c) (hw : ∀ c ∈ cl, WfC c) (hn : cl.length ≤ 400) (hc : cntA cl ≤ 3333) : rightA cl = true := by
  have h1 : rightCs cl = true := by rw [rightCs, allB_iff]; exact ⟨hn, fun c hc => rightC_iff.2 (hr c hc)⟩
  have h2 := (adds_arc h1 hw).2.1
  rw [rightA, h1, decide_eq_true (show (wArc cl).2.length ≤ 10000 by omega)]; rfl
theorem putA_le {cl : List PC} (hs : ∀ c ∈ cl, ShC c) (hw : ∀ c ∈ cl, WfC c) (hc : cntA cl ≤ 3333) : (putA cl).length ≤ 1000000 := by
  unfold putA
  split
  · rename_i hA
    have hA' := hA
    simp only [rightA, Bool.and_eq_true, decide_eq_true_eq, rightCs, allB_iff] at hA'
    have hr : ∀ c ∈ cl, RtC c := fun c hc => rightC_iff.1 (hA'.1.2 c hc)
    have h1 : rightCs cl = true := by rw [rightCs, allB_iff]; exact hA'.1
    obtain ⟨h2, h3, -⟩ := adds_arc h1 hw
    have h4 := textsB_le70 (txp_arc hr hs)
    have h5 := enc_len9 (n := (wArc cl).2.length) (by omega)
    have h6 : magicB.length = 4 := rfl
    simp only [List.length_append, poolB, h6]
    omega
  · simp
theorem encL_ge : ∀ ns : List Int, ns.length ≤ (encL ns).length
  | [] => by simp
  | n :: ns => by
    have h1 := encL_ge ns
    have h2 := enc_pos n.toNat
    simp only [encL, List.length_append, List.length_cons] at h1 ⊢
    omega
theorem wNum_add (ns : List Int) (w : WS) : w.1.length + ns.length ≤ (wNum ns w).1.length := by
  have := encL_ge ns
  simp only [wNum, List.length_append]; omega
theorem wText_add (ss : List (List UInt8)) (w : WS) : w.1.length + 2 * ss.length ≤ (wText ss w).1.length := by
  induction ss generalizing w with
  | nil => simp [wText]
  | cons s ss ih =>
    have := ih (wText1 w s)
    have h1 : (wText1 w s).1.length = w.1.length + 2 := by simp [wText1, twoB]
    simp only [List.length_cons] at *
    show _ ≤ (wText ss (wText1 w s)).1.length
    omega
theorem wCls_add (w : WS) (c : PC) : w.1.length + 8 ≤ (wCls w c).1.length := by
  have h1 := wText_add [c.nm, c.su] w
  generalize hw1 : wText [c.nm, c.su] w = w1 at h1
  have h2 := wNum_add [(c.ifs.length : Int)] w1
  generalize hw2 : wNum [(c.ifs.length : Int)] w1 = w2 at h2
  have h3 := (wText_ge c.ifs w2).1
  generalize hw3 : wText c.ifs w2 = w3 at h3
  have h4 := wNum_add [c.kd, (c.fl.length : Int)] w3
  generalize hw4 : wNum [c.kd, (c.fl.length : Int)] w3 = w4 at h4
  have h5 := (fold_ge wField_ge c.fl w4).1
  generalize hw5 : c.fl.foldl wField w4 = w5 at h5
  have h6 := wNum_add [(c.ml.length : Int)] w5
  generalize hw6 : wNum [(c.ml.length : Int)] w5 = w6 at h6
  have h7 := (fold_ge wMeth_ge c.ml w6).1
  have e : wCls w c = c.ml.foldl wMeth w6 := by rw [← hw6, ← hw5, ← hw4, ← hw3, ← hw2, ← hw1]; rfl
  rw [e]
  simp only [List.length_cons, List.length_nil] at *
  omega
theorem fold_add {α : Type} {f : WS → α → WS} {k : Nat} (hf : ∀ w x, w.1.length + k ≤ (f w x).1.length) : ∀ (l : List α) (w : WS), w.1.length + k * l.length ≤ (l.foldl f w).1.length
  | [], w => by simp
  | x :: l, w => by
    have h1 := fold_add hf l (f w x)
    have h2 := hf w x
    simp only [List.foldl_cons, List.length_cons, Nat.mul_add, Nat.mul_one]; omega
theorem putA_ge {cl : List PC} (h : rightA cl = true) : 8 * cl.length + 5 ≤ (putA cl).length := by
  rw [putA, if_pos h]
  have h1 := fold_add wCls_add cl (wNum [(cl.length : Int)] ([], []))
  have h2 := wNum_add [(cl.length : Int)] ([], [])
  have h6 : magicB.length = 4 := rfl
  simp only [List.length_append, h6, List.length_cons, List.length_nil] at *
  show _ ≤ _ + _ + (cl.foldl wCls _).1.length
  omega
theorem putA_take {cl : List PC} (h : rightA cl = true) : (putA cl).take 4 = magicB := by
  rw [putA, if_pos h]; rfl
structure ArcG (O : Old) (Z : Atoms) (a : Option Addr) (k : Nat) (cl : List CV) : Prop where
  rd : Rd Z fun H => ArcF O H a k cl
  wf : ∀ c ∈ cl, WfC c.pc
  n : cl.length ≤ 1000000
  cnt : cntA (cl.map CV.pc) ≤ 1400000
theorem ArcG.wfm {Z : Atoms} {a : Option Addr} {k : Nat} {cl : List CV} (h : ArcG O Z a k cl) : ∀ c ∈ cl.map CV.pc, WfC c := fun c hc => by
  obtain ⟨c', h1, rfl⟩ := List.mem_map.1 hc
  exact h.wf c' h1
theorem ArcG.room {Z : Atoms} {a : Option Addr} {k : Nat} {cl : List CV} (h : ArcG O Z a k cl) : rightCs (cl.map CV.pc) = true → Room (wArc (cl.map CV.pc)) := fun hr => room_arc hr h.wfm h.cnt
theorem ArcG.texts {Z : Atoms} {a : Option Addr} {k : Nat} {cl : List CV} (h : ArcG O Z a k cl) : rightA (cl.map CV.pc) = true → (textsB (wArc (cl.map CV.pc)).2).length ≤ 90000000 := fun hr => texts_arc hr h.wfm
theorem ArcG.mono {Z Z' : Atoms} {a : Option Addr} {k : Nat} {cl : List CV} (h : ArcG O Z a k cl) (s : Z.Sublist Z') : ArcG O Z' a k cl := ⟨h.rd.mono s, h.wf, h.n, h.cnt⟩
section
variable {X : List Nat} {H0 H : Heap} {L : Atoms} {a b : Option Addr} {j k : Nat} {cl cm : List CV}
theorem ArcG.keep (g : ArcG O L a k cl) (hs : St X H0 H L) : Keep [] H fun H' => ArcF O H' a k cl := Rd.keep (F := []) g.rd hs
theorem putG (g : ArcG O L a k cl) (hs : St X H0 H L) : FpC TT O 16 [arcV a cl.length k] H [] fun v F' => ∃ (a' : Option Addr) (n' c' : Nat), v = .slice a' n' c' ∧ n' = (putA (cl.map CV.pc)).length ∧ Rd F' fun H => Sl O H (.slice a' n' c') 1 n' ((putA (cl.map CV.pc)).map by8) :=
  put_ok (g.keep hs) g.wf g.n g.room g.texts
theorem rightG (g : ArcG O L a k cl) (hs : St X H0 H L) : CallC TT O 14 [arcV a cl.length k] H fun v H' => v = .bool (rightA (cl.map CV.pc)) ∧ Ext H H' :=
  right_A_ok (g.keep hs) g.wf g.n g.room
theorem sameG (g : ArcG O L a k cl) (g' : ArcG O L b j cm) (hs : St X H0 H L) : CallC TT O 18 [arcV a cl.length k, arcV b cm.length j] H fun v H' => v = .bool (decide (cl.map CV.pc = cm.map CV.pc)) ∧ Ext H H' :=
  same_A_ok (g.rd.at hs) (g'.rd.at hs) g.wf g.n
theorem copyG (g : ArcG O L a k cl) (hs : St X H0 H L) : FpC TT O 20 [arcV a cl.length k] H [] fun v F' => ∃ (a' : Option Addr) (k' : Nat) (cl' : List CV), v = arcV a' cl'.length k' ∧ cl'.map CV.pc = cl.map CV.pc ∧ OwnAr a' k' cl' F' :=
  copy_ok (g.keep hs) g.wf g.n
end
end Go.Proofs.YtlhkndjloeoodaaGreat
namespace Go.Proofs.YtlhkndjloeoodaaGreat
open Go.Ev Go.Ev.Wk
variable {O : Old}
section
variable {k2 : Int} {Z : Atoms} {a : Option Addr} {k : Nat} {cl : List CV}
theorem SeatAr.g (h : SeatAr O k2 Z a k cl) : ArcG O Z a k cl := ⟨h.rd, h.wf, by rw [h.len]; decide, by have := h.cnt; omega⟩
theorem SeatAr.rtm (h : SeatAr O k2 Z a k cl) : ∀ c ∈ cl.map CV.pc, RtC c := fun c hc => by
  obtain ⟨c', h1, rfl⟩ := List.mem_map.1 hc
  exact h.rt c' h1
theorem SeatAr.sh (h : SeatAr O k2 Z a k cl) : ∀ c ∈ cl.map CV.pc, ShC c := fun c hc => by
  obtain ⟨c', h1, rfl⟩ := List.mem_map.1 hc
  have h2 := h.cd c' h1
  refine ⟨fun m hm => ?_, h2.sh⟩
  have h3 := h2.ms m hm
  simp only [tyB, Bool.and_eq_true, decide_eq_true_eq] at h3
  exact h3.2
theorem SeatAr.right (h : SeatAr O k2 Z a k cl) : rightA (cl.map CV.pc) = true := rightA_of h.rtm h.g.wfm (by rw [List.length_map, h.len]; decide) h.cnt
theorem SeatAr.le (h : SeatAr O k2 Z a k cl) : (putA (cl.map CV.pc)).length ≤ 1000000 := putA_le h.sh h.g.wfm h.cnt
theorem SeatAr.ge (h : SeatAr O k2 Z a k cl) : 109 ≤ (putA (cl.map CV.pc)).length := by have := putA_ge h.right; rw [List.length_map, h.len] at this; exact this
theorem SeatAr.mono {Z' : Atoms} (h : SeatAr O k2 Z a k cl) (s : Z.Sublist Z') : SeatAr O k2 Z' a k cl := ⟨h.rd.mono s, h.rt, h.wf, h.cd, h.len, h.cnt, h.nms, h.one, h.fst⟩
end
section
variable {X : List Nat} {H0 H : Heap} {L : Atoms} {a b : Option Addr} {j k : Nat} {cl cm : List CV}
theorem sameT (g : ArcG O L a k cl) (g' : ArcG O L b j cm) (hs : St X H0 H L) (h : cl.map CV.pc = cm.map CV.pc) : CallC TT O 18 [arcV a cl.length k, arcV b cm.length j] H fun v H' => v = .bool true ∧ Ext H H' := by
  have := sameG g g' hs; rw [decide_eq_true h] at this; exact this
theorem sameN (g : ArcG O L a k cl) (g' : ArcG O L b j cm) (hs : St X H0 H L) (h : cl.map CV.pc ≠ cm.map CV.pc) : CallC TT O 18 [arcV a cl.length k, arcV b cm.length j] H fun v H' => v = .bool false ∧ Ext H H' := by
  have := sameG g g' hs; rw [decide_eq_false h] at this; exact this
theorem rightX {x : Bool} (g : ArcG O L a k cl) (hs : St X H0 H L) (h : rightA (cl.map CV.pc) = x) : CallC TT O 14 [arcV a cl.length k] H fun v H' => v = .bool x ∧ Ext H H' := by
  have := rightG g hs; rw [h] at this; exact this
theorem ArcG.copy (g : ArcG O L a k cl) {Z : Atoms} (r : Rd Z fun H => ArcF O H b j cm) (e : cm.map CV.pc = cl.map CV.pc) : ArcG O Z b j cm := by
  have hl : cm.length = cl.length := by have := congrArg List.length e; simpa using this
  refine ⟨r, fun c hc => ?_, by have := g.n; omega, by rw [e]; exact g.cnt⟩
  have h1 : c.pc ∈ cl.map CV.pc := e ▸ List.mem_map_of_mem hc
  exact g.wfm _ h1
theorem readG {n c : Nat} {bs : List UInt8} (r : Rd L fun H => Sl O H (.slice a n c) 1 n (bs.map by8)) (hs : St X H0 H L) (hn : n ≤ 1000000) :
    FpC TT O 22 [.slice a n c] H [] fun v F' => ∃ (cl : List CV) (a' : Option Addr) (k' : Nat), v = .tuple #[arcV a' cl.length k', .int .i64 (readA bs).2] ∧ cl.map CV.pc = (readA bs).1 ∧ ArcG O F' a' k' cl := by
  refine FpC.mono (read_A_ok (Rd.keep (F := []) r hs) hn) ?_
  rintro v F' ⟨cl, a', k', h1, h2, h3, h4, h5, h6⟩
  exact ⟨cl, a', k', h1, h2, h6, h3, by omega, by omega⟩
theorem ArcG.nil {Z : Atoms} : ArcG O Z none 0 [] := ⟨fun _ _ _ _ => ⟨Sl.nil, fun _ h => by cases h⟩, fun _ h => (by cases h), by simp, by simp [cntA]⟩
abbrev noneC : CV := ⟨[], [], [], 0, [], [], none, 0, none, 0, none, 0⟩
theorem ArcG.none1 {Z : Atoms} {aa : Option Addr} (h : Rd Z fun H => Sl O H (.slice aa 1 1) 6 1 noneC.cells) : ArcG O Z aa 1 [noneC] :=
  ⟨fun X H0 H hst => ⟨h X H0 H hst, fun c hc => by cases List.mem_singleton.1 hc; exact ⟨Sl.nil, Sl.nil, Sl.nil, fun _ h => by cases h⟩⟩,
   fun c hc => by cases List.mem_singleton.1 hc; exact ⟨by simp, by simp, (fun _ h => by cases h), (fun _ h => by cases h), (fun _ h => by cases h), by simp, by simp, by simp⟩, by simp, by simp [cntA, cntC]⟩
end
set_option maxHeartbeats 64000000 in
set_option maxRecDepth 100000 in
theorem known_walk {H : Heap} : CallC TT O 9 [] H fun v H' => v = .bool true ∧ Ext H H' := by
  refine call_pure rfl rfl rfl rfl rfl ?_
  repeat (first | refine zrb ?_ | (refine zn ?_; intro _))
  refine ops_step rfl rfl rfl (step_call_fp [] _ rfl rfl rfl (List.Perm.refl _) (fun H hs hst => seatArchive_ok (xs := [0, 1, 4, 2]) (ys := []) ⟨by omega, by omega⟩ ⟨by omega, by omega⟩ (Rd.keep (F := []) (Rd.sl (i := 0) (n := 4) rfl rfl 4) hs) (by omega) (fun _ _ => Sl.nil) (by omega)) (fun v1 F1 h1 => ?_))
  obtain ⟨aa, ac, cl, rfl, sA⟩ := h1
  refine OpsS.weakL (L' := F1) (List.sublist_append_left _ _) ?_
  repeat (first | refine zrb ?_ | (refine zn ?_; intro _))
  rename_i b1
  refine ops_step rfl rfl rfl (step_call_fp [] _ rfl rfl rfl (List.Perm.refl _) (fun H hs hst => putG (sA.g.mono (.cons _ (.refl _))) hs) (fun v2 F2 h2 => ?_))
  obtain ⟨pa, pn, pc, rfl, hpn, rP⟩ := h2
  have hle := sA.le
  have hge := sA.ge
  refine OpsS.perm List.perm_middle ?_
  replace sA := sA.mono (List.sublist_append_right F2 F1)
  replace rP := rP.mono (List.sublist_append_left F2 F1)
  generalize F2 ++ F1 = Z2 at sA rP ⊢
  repeat (first | refine zrb ?_ | (refine zn ?_; intro _))
  refine ops_step rfl rfl rfl (step_call_fp [] _ rfl rfl rfl (List.Perm.refl _) (fun H hs hst => readG (rP.mono (.cons _ (.refl _))) hs (by omega)) (fun v3 F3 h3 => ?_))
  obtain ⟨cl2, a2, k2, rfl, hp2, g2⟩ := h3
  rw [read_put sA.right sA.g.wfm] at hp2 ⊢
  refine OpsS.perm List.perm_middle ?_
  replace sA := sA.mono (List.sublist_append_right F3 Z2)
  replace rP := rP.mono (List.sublist_append_right F3 Z2)
  replace g2 := g2.mono (List.sublist_append_left F3 Z2)
  generalize F3 ++ Z2 = Z3 at sA rP g2 ⊢
  repeat (first | refine zrb ?_ | (refine zn ?_; intro _))
  rename_i b3 sb
  first | refine ops_pl rfl rfl rfl (.l rfl (look_cvB 0 rfl rfl rfl rfl)) rfl ?_ | refine draw_pl rfl rfl rfl rfl (.l rfl (look_cvB 0 rfl rfl rfl rfl)) rfl rfl ?_
  repeat (first | refine zrb ?_ | (refine zn ?_; intro _))
  refine ops_step rfl rfl rfl (step_call_fp [] _ rfl rfl rfl (List.Perm.refl _) (fun H hs hst => readG (bs := [66, 79, 78, 50]) (Rd.sl (i := 0) (n := 4) rfl rfl 4) hs (by omega)) (fun v4 F4 h4 => ?_))
  obtain ⟨cl5, a5, k5, rfl, -, -⟩ := h4
  rw [show (readA [66, 79, 78, 50]).2 = 21 from rfl]
  refine OpsS.weakL (L' := (some b3, .cells 0 [.slice a2 cl2.length k2] 0 24) :: (some b1, .cells 0 [.slice aa cl.length ac] 0 24) :: Z3) ((List.Sublist.cons _ (.refl _)).trans (List.sublist_append_right F4 _)) ?_
  repeat (first | refine zrb ?_ | (refine zn ?_; intro _))
  refine ExecS.weak (pickE_sub (ks := [1, 2, 3, 4, 6]) rfl) (.cons _ (.refl _)) ?_
  have ecp : cl2.map CV.pc = cl.map CV.pc := hp2
  have hne : cl.map CV.pc ≠ [] := by intro e; have := congrArg List.length e; rw [List.length_map, sA.len] at this; cases this
  have gA := sA.g.mono (Z' := (some b3, .cells 0 [.slice a2 cl2.length k2] 0 24) :: (some b1, .cells 0 [.slice aa cl.length ac] 0 24) :: Z3) (.cons _ (.cons _ (.refl _)))
  replace g2 := g2.mono (Z' := (some b3, .cells 0 [.slice a2 cl2.length k2] 0 24) :: (some b1, .cells 0 [.slice aa cl.length ac] 0 24) :: Z3) (.cons _ (.cons _ (.refl _)))
  replace rP := rP.mono (Z' := (some b3, .cells 0 [.slice a2 cl2.length k2] 0 24) :: (some b1, .cells 0 [.slice aa cl.length ac] 0 24) :: Z3) (.cons _ (.cons _ (.refl _)))
  have hrt := sA.right
  have htk := putA_take hrt
  refine exec_draw (lst := [(0, 0), (1, 1), (2, 3), (3, 7), (4, 15), (5, 31), (6, 63), (7, 127), (8, 255), (9, 511), (10, 1023), (11, 2047), (12, 4095), (13, 8191), (14, 16383), (15, 16383), (16, 65535), (17, 131071), (18, 262143), (19, 524287), (20, 1048575), (21, 2097151), (22, 4194303), (23, 8388607), (24, 16777215), (25, 33554431), (26, 67108863), (27, 134217727), (29, 134217727), (28, 268435455), (30, 1073741823), (31, 2147483647), (32, 4294967295), (33, 8589934591), (34, 8589934591), (35, 34359738367), (36, 68719476735), (37, 137438953471), (38, 274877906943), (39, 549755813887), (40, 1099511627775), (41, 2199023255551), (42, 4398046511103), (43, 8796093022207), (44, 17592186044415), (45, 35184372088831)]) (full := 70368744177663) (by kernel_rfl) (by kernel_rfl) (by kernel_rfl) (by kernel_rfl) ?_
  repeat (first | refine zdb ?_)
  try refine draw_nil ?_
  rw [show decide ((pn : Int) > 100) = true from decide_eq_true (by omega)]
  repeat (first | refine zdb ?_)
  try refine draw_nil ?_
  (first | apply ops_pl rfl rfl rfl ?_ rfl ?_ | apply draw_pl rfl rfl rfl rfl ?_ rfl rfl ?_); rotate_left; focus exact (.l rfl (look_cut0 (h := 4) rfl rfl rfl rfl (by omega) rfl (by omega) (fun H hs => rP.at hs) rfl rfl (by omega)))
  (first | apply ops_pl rfl rfl rfl ?_ rfl ?_ | apply draw_pl rfl rfl rfl rfl ?_ rfl rfl ?_); rotate_left; focus exact (.l rfl (look_strS rfl (fun H hs => ((rP.at hs).cutM0 (by omega))) rfl rfl rfl (bytesOf_by8 _)))
  rw [htk]
  (first | apply ops_pl rfl rfl rfl ?_ rfl ?_ | apply draw_pl rfl rfl rfl rfl ?_ rfl rfl ?_); rotate_left; focus exact (PL.eqStrs (a := magicB) (b := magicB) rfl rfl rfl)
  rw [show decide (magicB = magicB) = true from decide_eq_true rfl]
  repeat (first | refine zdb ?_)
  try refine draw_nil ?_
  refine draw_w rfl rfl rfl rfl rfl rfl (step_call_pure rfl rfl rfl (fun H hs => sameT g2 gA hs ecp) (zst ?_))
  repeat (first | refine zdb ?_)
  try refine draw_nil ?_
  refine draw_w rfl rfl rfl rfl rfl rfl (step_call_pure rfl rfl rfl (fun H hs => rightX gA hs hrt) (zst ?_))
  repeat (first | refine zdb ?_)
  try refine draw_nil ?_
  refine draw_w rfl rfl rfl rfl rfl rfl (step_call_fp [] _ rfl rfl rfl (List.Perm.refl _) (fun H hs hst => copyG gA hs) (fun v5 F5 h5 => ?_))
  obtain ⟨a6, k6, cl6, rfl, e6, own6⟩ := h5
  refine And.imp (StabS.perm List.perm_append_comm) (DrawS.perm List.perm_append_comm) ?_
  have gC := gA.copy (own6.rd.mono (List.sublist_append_right ((some b3, .cells 0 [.slice a2 cl2.length k2] 0 24) :: (some b1, .cells 0 [.slice aa cl.length ac] 0 24) :: Z3) F5)) e6
  replace gA := gA.mono (List.sublist_append_left _ F5)
  refine (zst ?_)
  repeat (first | refine zdb ?_)
  try refine draw_nil ?_
  refine draw_w rfl rfl rfl rfl rfl rfl (step_call_pure rfl rfl rfl (fun H hs => sameT gC gA hs e6) (zst ?_))
  repeat (first | refine zdb ?_)
  try refine draw_nil ?_
  refine draw_w rfl rfl rfl rfl rfl rfl (step_call_pure rfl rfl rfl (fun H hs => sameN gA ArcG.nil hs hne) (zst ?_))
  repeat (first | refine zdb ?_)
  try refine draw_nil ?_
  refine draw_a rfl rfl rfl rfl rfl (step_buildSliceF rfl rfl rfl rfl rfl rfl (fun sb => (zst ?_)))
  repeat (first | refine zdb ?_)
  try refine draw_nil ?_
  refine draw_w rfl rfl rfl rfl rfl rfl (step_call_pure rfl rfl rfl (fun H hs => rightX (ArcG.none1 (Rd.sl (i := 0) rfl rfl 1)) hs (by decide : rightA [noneC.pc] = false)) (zst ?_))
  repeat (first | refine zdb ?_)
  try refine draw_nil ?_
  repeat (first | refine zrb ?_ | (refine zn ?_; intro _))
  exact ⟨trivial, _, rfl, rfl⟩
end Go.Proofs.YtlhkndjloeoodaaGreat
namespace Go.Proofs.YtlhkndjloeoodaaGreat
open Go.Ev
theorem fs_eq : fs = Tr.fill Tryz.prog.funcs.toList 0 .lf := by kernel_rfl
theorem ts_eq : ts = Tr.fill Tryz.prog.types.toList 0 .lf := by kernel_rfl
theorem es_ok : (es.all fun t => !Tryz.prog.stoodInHeld t && !Tryz.prog.eqGuardType Tryz.prog.depth t) = true := by kernel_rfl
theorem mixed : Tryz.prog.follows .mixedOrders = true := by kernel_rfl
theorem own : ownKnob Tryz.prog.godebug = none := by kernel_rfl
theorem names_ok : (Tryz.prog.funcs.toList.all fun x => !(x.name == "runtime.NumGoroutine")) = true := by kernel_rfl
theorem name_of {ps : List (Nat × PrimT)} {K : Know} (hK : K.Ok) (f : Nat) (x : Func) (h : (tabOf fs ts es ps K).fn f = some x) : (x.name == "runtime.NumGoroutine") = false := by
  have h := (tabOf_ok hK fs_eq ts_eq es_ok).fn f x h
  have hx : x ∈ Tryz.prog.funcs.toList := by
    rw [Array.mem_toList_iff]
    exact Array.mem_of_getElem? h
  have := List.all_eq_true.1 names_ok x hx
  simpa using this
theorem tab_ok (ps : List (Nat × PrimT)) {K : Know} (hK : K.Ok) : (tabOf fs ts es ps K).Ok Tryz.prog := tabOf_ok hK fs_eq ts_eq es_ok
theorem base_ok (w0 : World) : ∀ x ∈ base, PrimSim Tryz.prog w0 x.1 x.2 := by
  intro x hx
  simp only [base, List.mem_cons, List.not_mem_nil, or_false] at hx
  rcases hx with rfl | rfl
  · exact passId_sim (fn := Tryz.f201) (by kernel_rfl) (by kernel_rfl) (by kernel_rfl) (by kernel_rfl) (by kernel_rfl)
  · exact passIbs_sim (fn := Tryz.f207) (by kernel_rfl) (by kernel_rfl) (by kernel_rfl) (by kernel_rfl) (by kernel_rfl)
theorem ps_ok (w0 : World) : ∀ x ∈ ps, PrimSim Tryz.prog w0 x.1 x.2 := base_ok w0
theorem law_walk {f : Nat} {fn : Func} {l : List Value} {w : World} (hf : fs.get f = some fn) (hb : fn.body.isNone = false) (hp : primAt ps f = none) (hl : l.all closedC = true) (h : Wk.CallC TT w.cell? f l .empty fun v _ => v = .bool true) : Holds Tryz.prog f l w :=
  Wk.holds_walk (T := TT) (tab_ok _ Know.nil_ok) mixed (name_of Know.nil_ok) (primOk_of (ps_ok w)) hf hb hp hl h
end Go.Proofs.YtlhkndjloeoodaaGreat
