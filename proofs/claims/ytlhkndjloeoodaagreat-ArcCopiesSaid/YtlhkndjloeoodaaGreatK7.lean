/-
  Lemmas for the laws of this seat.
-/
import Derived.Test.YtlhkndjloeoodaaGreatK6
import Derived.Test.YtlhkndjloeoodaaGreatK5
set_option linter.unusedVariables false
set_option linter.unusedSimpArgs false
namespace Go.Proofs.YtlhkndjloeoodaaGreat
open Go.Ev Go.Ev.Wk
variable {O : Old}
abbrev wrA (wb pb : Nat) (a : Option Addr) (n c : Nat) : Option Nat × Cont := (some wb, .cells 0 [.slice a n c, ptr pb] 0 97)
def WrF (wb pb : Nat) (w : WS) (F : Atoms) : Prop :=
  ∃ (a : Option Addr) (n c : Nat) (p : Option Nat × Cont) (Fp : Atoms), F = wrA wb pb a n c :: p :: Fp ∧ OwnA 1 5 a n c (w.1.map by8) p ∧ PoolF pb w.2 Fp
set_option maxHeartbeats 8000000 in
set_option maxRecDepth 100000 in
theorem wnum_ok {H : Heap} {wb pb : Nat} {w : WS} {F : Atoms} {al : Option Addr} {m cl : Nat} {ns : List Int} (hst : St (blksOf F) H H F) (hF : WrF wb pb w F) (hr : Room w) (hsl : Keep (blksOf F) H fun H' => Sl O H' (.slice al m cl) 1 m (ns.map (.int .i64)))
    (hw : ∀ x ∈ ns, -9223372036854775808 ≤ x ∧ x ≤ 9223372036854775807) (hm : m ≤ 1000) :
    FpC TT O 77 [ptr wb, .slice al m cl] H F fun v F' => WrF wb pb (wNum ns w) F' := by
  obtain ⟨a, n, c, p, Fp, rfl, own, hP⟩ := hF
  have hlen : w.1.length = n := by have := own.len; simpa using this
  have hr1 := hr.1
  refine call_fp rfl rfl rfl rfl rfl hst ?_
  repeat (first | refine zr ?_ | (refine zn ?_; intro _))
  refine ops_step rfl rfl rfl (step_call_app (z := 1) (ty := 5) (cs := (w.1 ++ encL ns).map by8) 1 rfl rfl rfl rfl (fun H hs hst => numW_ok hst own (hsl.app hs (i := 1) rfl) hw hm (by omega)) (fun a2 n2 c2 p2 own2 => ?_))
  repeat (first | refine zr ?_ | (refine zn ?_; intro _))
  exact ⟨trivial, _, rfl, _, [], List.Perm.of_eq (List.append_nil _).symm, _, _, _, _, _, rfl, own2, hP⟩
theorem putT_idx (ts : List (List UInt8)) (s : List UInt8) : (if s ∈ ts then ts else ts ++ [s]) = putT ts s := rfl
set_option maxHeartbeats 8000000 in
set_option maxRecDepth 100000 in
theorem wtext_ok {H : Heap} {wb pb : Nat} {w : WS} {F : Atoms} {al : Option Addr} {m cl : Nat} {ss : List (List UInt8)} (hst : St (blksOf F) H H F) (hF : WrF wb pb w F) (hr : Room (wText ss w)) (hsl : Keep (blksOf F) H fun H' => Sl O H' (.slice al m cl) 1 m (ss.map str)) (hm : m ≤ 1000000) :
    FpC TT O 121 [ptr wb, .slice al m cl] H F fun v F' => WrF wb pb (wText ss w) F' := by
  have hml : ss.length = m := by have := (hsl H (ExtBut.refl _ _)).1; simpa using this
  refine call_fp rfl rfl rfl rfl rfl hst ?_
  repeat (first | refine zr ?_ | (refine zn ?_; intro _))
  refine ExecS.weak (E' := [(0, ptr wb), (6, .slice al m cl), (7, .int .i64 (m : Int)), (8, .int .i64 ((0 : Nat) : Int))]) ⟨rfl, rfl, rfl, rfl, trivial⟩ (List.Sublist.refl _) ?_
  refine exec_loop (fun k E L => ∃ i : Nat, i + k = m ∧ WrF wb pb (wText (ss.take i) w) L ∧ E = [(0, ptr wb), (6, .slice al m cl), (7, .int .i64 (m : Int)), (8, .int .i64 (i : Int))]) ?_ m _ _ ⟨0, by omega, hF, rfl⟩
  rintro k E L ⟨i, hik, hW, rfl⟩
  have hri : Room (wText (ss.take i) w) := hr.le (fold_take wText1_ge ss i w)
  repeat (first | refine zr ?_ | (refine zn ?_; intro _))
  refine exec_cond rfl (fun hlt => ?_) (fun hge => ?_)
  · have hi : i < m := by simp at hlt; omega
    obtain ⟨x, hx⟩ : ∃ x, ss[i]? = some x := ⟨_, List.getElem?_eq_getElem (by omega)⟩
    have hw1 : wText (ss.take (i + 1)) w = wText1 (wText (ss.take i) w) x := fold_snoc hx
    generalize hwi : wText (ss.take i) w = wi at hW hw1 hri
    obtain ⟨a, n, c, p, Fp, rfl, own, hP⟩ := hW
    have hlen : wi.1.length = n := by have := own.len; simpa using this
    have hr1 := hri.1
    have hr2 := hri.2
    repeat (first | refine zr ?_ | (refine zn ?_; intro _))
    (first | apply ops_pl rfl rfl rfl ?_ rfl ?_ | apply draw_pl rfl rfl rfl rfl ?_ rfl rfl ?_); rotate_left; focus exact (.p rfl (opP_idx rfl rfl (hsl H (ExtBut.refl _ _)) rfl rfl (by omega) (by omega)))
    (first | apply ops_pl rfl rfl rfl ?_ rfl ?_ | apply draw_pl rfl rfl rfl rfl ?_ rfl rfl ?_); rotate_left; focus exact (.l rfl (fun H hs => opL_load rfl ((hsl.at hs).ld rfl (str_get hx))))
    repeat (first | refine zr ?_ | (refine zn ?_; intro _))
    refine exec_draw (lst := [(0, 0), (1, 0), (2, 2), (3, 6), (4, 14), (5, 0), (6, 32), (7, 96), (8, 224), (9, 0), (10, 992), (11, 2046), (12, 4095), (13, 8191), (14, 16383)]) (full := 32767) (by kernel_rfl) (by kernel_rfl) (by kernel_rfl) (by kernel_rfl) ?_
    repeat (first | refine zd ?_)
    try refine draw_nil ?_
    refine draw_w rfl rfl rfl rfl rfl rfl (step_call_fp2 rfl rfl rfl (fun H hs hst => poolPut_ok (s := x) hst hP (by omega)) (fun v2 F2 h2 => (zst ?_)))
    obtain ⟨hP2, rfl⟩ := h2
    rw [putT_idx] at *
    repeat (first | refine zd ?_)
    try refine draw_nil ?_
    refine draw_w rfl rfl rfl rfl rfl rfl (step_call_app (z := 1) (ty := 5) (cs := (wi.1 ++ twoB (((putT wi.2 x).idxOf x : Nat) : Int)).map by8) 1 rfl rfl rfl rfl (fun H hs hst => twoW_ok hst own (by omega)) (fun a2 n2 c2 p2 own2 => (zst ?_)))
    repeat (first | refine zd ?_)
    try refine draw_nil ?_
    refine draw_w rfl rfl rfl rfl rfl rfl (step_storeZ 0 rfl rfl rfl rfl rfl rfl rfl rfl rfl (zst ?_))
    repeat (first | refine zd ?_)
    try refine draw_nil ?_
    repeat (first | refine zr ?_ | (refine zn ?_; intro _))
    refine ⟨k - 1, by omega, _, _, ?_, List.Sublist.refl _, i + 1, by omega, ?_, rfl⟩
    · exact ⟨rfl, rfl, rfl, rfl, trivial⟩
    · rw [hw1]
      exact ⟨_, _, _, _, _, rfl, own2, hP2⟩
  · have hi : m ≤ i := by simp at hge; omega
    rw [List.take_of_length_le (by omega)] at hW
    repeat (first | refine zr ?_ | (refine zn ?_; intro _))
    exact ⟨trivial, _, rfl, _, [], List.Perm.of_eq (List.append_nil _).symm, hW⟩
theorem bit_ok {H : Heap} {b : Bool} : CallC TT O 123 [.bool b] H fun v H' => v = .int .i64 (bitZ b) ∧ Ext H H' := by
  refine call_pure rfl rfl rfl rfl rfl ?_
  cases b
  · repeat (first | refine zr ?_ | (refine zn ?_; intro _))
    exact ⟨trivial, _, rfl, rfl⟩
  · repeat (first | refine zr ?_ | (refine zn ?_; intro _))
    exact ⟨trivial, _, rfl, rfl⟩
set_option maxHeartbeats 8000000 in
set_option maxRecDepth 100000 in
theorem winstr_ok {H : Heap} {wb pb : Nat} {w : WS} {F : Atoms} {x : Ins} (hst : St (blksOf F) H H F) (hF : WrF wb pb w F) (hr : Room (wIns w x)) (hx : rightI x = true) (hw : WfI x) :
    FpC TT O 167 [ptr wb, insV x] H F fun v F' => WrF wb pb (wIns w x) F' := by
  have hop : 1 ≤ x.op ∧ x.op ≤ 43 ∧ 0 ≤ x.k ∧ x.k ≤ 2000 := by
    unfold rightI at hx
    simp only [Bool.and_eq_true, decide_eq_true_eq] at hx
    omega
  have hr1 : Room (wNum [x.op] w) := hr.le (wInsB_ge _ _)
  refine call_fp rfl rfl rfl rfl rfl hst ?_
  repeat (first | refine zr ?_ | (refine zn ?_; intro _))
  refine ops_step rfl rfl rfl (step_call_fp2 rfl rfl rfl (fun H hs hst => wnum_ok (ns := [x.op]) hst hF (hr1.le (wNum_ge _ _)) (Rd.keep (Rd.sl (i := 0) (n := 1) rfl rfl 1) hs) (fun y hy => by cases List.mem_singleton.1 hy; omega) (by omega)) (fun v2 F2 h2 => ?_))
  replace hF := h2
  clear h2
  generalize hw1 : wNum [x.op] w = w1 at hF hr1
  have hwx : wIns w x = wInsB x w1 := by rw [wIns, hw1]
  rw [hwx] at hr ⊢
  repeat (first | refine zr ?_ | (refine zn ?_; intro _))
  refine ops_step rfl rfl rfl (step_call_pure rfl rfl rfl (fun H hs => uses_ok) ?_)
  repeat (first | refine zr ?_ | (refine zn ?_; intro _))
  refine exec_cond rfl (fun h => ?_) (fun h => ?_)
  · have h1 : usesZ x.op = 1 := by simpa using h
    rw [wInsB, if_pos h1]
    obtain ⟨a, n, c, p, Fp, rfl, own, hP⟩ := hF
    have hlen : w1.1.length = n := by have := own.len; simpa using this
    have hr2 := hr1.1
    repeat (first | refine zr ?_ | (refine zn ?_; intro _))
    refine exec_draw (lst := [(0, 0), (1, 0), (2, 2), (3, 6), (4, 14), (5, 0), (6, 32), (7, 126), (8, 255), (9, 511), (10, 1023)]) (full := 2047) (by kernel_rfl) (by kernel_rfl) (by kernel_rfl) (by kernel_rfl) ?_
    repeat (first | refine zd ?_)
    try refine draw_nil ?_
    refine draw_w rfl rfl rfl rfl rfl rfl (step_call_app (z := 1) (ty := 5) (cs := (w1.1 ++ enc (zig x.n).toNat).map by8) 3 rfl rfl rfl rfl (fun H hs hst => intW_ok hst own hw.n (by omega)) (fun a2 n2 c2 p2 own2 => (zst ?_)))
    repeat (first | refine zd ?_)
    try refine draw_nil ?_
    refine draw_w rfl rfl rfl rfl rfl rfl (step_storeZ 2 rfl rfl rfl rfl rfl rfl rfl rfl rfl (zst ?_))
    repeat (first | refine zd ?_)
    try refine draw_nil ?_
    repeat (first | refine zr ?_ | (refine zn ?_; intro _))
    exact ⟨trivial, _, rfl, _, [_, _], (List.perm_append_comm (l₁ := [_, _])), ⟨_, _, _, _, _, rfl, own2, hP⟩⟩
  have n1 : usesZ x.op ≠ 1 := by simpa using h
  rw [wInsB, if_neg n1] at hr ⊢
  repeat (first | refine zr ?_ | (refine zn ?_; intro _))
  refine exec_cond rfl (fun h => ?_) (fun h => ?_)
  · have h1 : usesZ x.op = 2 := by simpa using h
    rw [if_pos h1] at hr ⊢
    repeat (first | refine zr ?_ | (refine zn ?_; intro _))
    refine ops_step rfl rfl rfl (step_call_fp3 rfl rfl rfl (fun H hs hst => wtext_ok (ss := [x.s]) hst hF hr (Rd.keep (Rd.sl (i := 0) (n := 1) rfl rfl 1) hs) (by omega)) (fun v2 F2 h2 => ?_))
    repeat (first | refine zr ?_ | (refine zn ?_; intro _))
    exact ⟨trivial, _, rfl, _, [_, _, _], (List.perm_append_comm (l₁ := [_, _, _])), h2⟩
  have n2 : usesZ x.op ≠ 2 := by simpa using h
  rw [if_neg n2] at hr ⊢
  repeat (first | refine zr ?_ | (refine zn ?_; intro _))
  refine exec_cond rfl (fun h => ?_) (fun h => ?_)
  · have h1 : usesZ x.op = 3 := by simpa using h
    rw [if_pos h1] at hr ⊢
    repeat (first | refine zr ?_ | (refine zn ?_; intro _))
    refine ops_step rfl rfl rfl (step_call_fp3 rfl rfl rfl (fun H hs hst => wnum_ok (ns := [x.k]) hst hF hr1 (Rd.keep (Rd.sl (i := 0) (n := 1) rfl rfl 1) hs) (fun y hy => by cases List.mem_singleton.1 hy; omega) (by omega)) (fun v2 F2 h2 => ?_))
    repeat (first | refine zr ?_ | (refine zn ?_; intro _))
    exact ⟨trivial, _, rfl, _, [_, _, _], (List.perm_append_comm (l₁ := [_, _, _])), h2⟩
  have n3 : usesZ x.op ≠ 3 := by simpa using h
  rw [if_neg n3] at hr ⊢
  repeat (first | refine zr ?_ | (refine zn ?_; intro _))
  refine exec_cond rfl (fun h => ?_) (fun h => ?_)
  · have h1 : usesZ x.op = 4 := by simpa using h
    rw [if_pos h1] at hr ⊢
    repeat (first | refine zr ?_ | (refine zn ?_; intro _))
    refine ops_step rfl rfl rfl (step_call_fp3 rfl rfl rfl (fun H hs hst => wtext_ok (ss := [x.cl, x.nm]) hst hF hr (Rd.keep (Rd.sl (i := 0) (n := 2) rfl rfl 2) hs) (by omega)) (fun v2 F2 h2 => ?_))
    repeat (first | refine zr ?_ | (refine zn ?_; intro _))
    exact ⟨trivial, _, rfl, _, [_, _, _], (List.perm_append_comm (l₁ := [_, _, _])), h2⟩
  have n4 : usesZ x.op ≠ 4 := by simpa using h
  rw [if_neg n4] at hr ⊢
  repeat (first | refine zr ?_ | (refine zn ?_; intro _))
  refine exec_cond rfl (fun h => ?_) (fun h => ?_)
  · have h1 : usesZ x.op = 5 := by simpa using h
    rw [if_pos h1] at hr ⊢
    repeat (first | refine zr ?_ | (refine zn ?_; intro _))
    refine ops_step rfl rfl rfl (step_call_fp3 rfl rfl rfl (fun H hs hst => wtext_ok (ss := [x.cl, x.nm, x.ds]) hst hF hr (Rd.keep (Rd.sl (i := 0) (n := 3) rfl rfl 3) hs) (by omega)) (fun v2 F2 h2 => ?_))
    repeat (first | refine zr ?_ | (refine zn ?_; intro _))
    exact ⟨trivial, _, rfl, _, [_, _, _], (List.perm_append_comm (l₁ := [_, _, _])), h2⟩
  have n5 : usesZ x.op ≠ 5 := by simpa using h
  rw [if_neg n5] at hr ⊢
  repeat (first | refine zr ?_ | (refine zn ?_; intro _))
  refine exec_cond rfl (fun h => ?_) (fun h => ?_)
  · have h1 : usesZ x.op = 6 := by simpa using h
    rw [if_pos h1] at hr ⊢
    repeat (first | refine zr ?_ | (refine zn ?_; intro _))
    refine ops_step rfl rfl rfl (step_call_fp3 rfl rfl rfl (fun H hs hst => wtext_ok (ss := [x.cl]) hst hF hr (Rd.keep (Rd.sl (i := 0) (n := 1) rfl rfl 1) hs) (by omega)) (fun v2 F2 h2 => ?_))
    repeat (first | refine zr ?_ | (refine zn ?_; intro _))
    exact ⟨trivial, _, rfl, _, [_, _, _], (List.perm_append_comm (l₁ := [_, _, _])), h2⟩
  have n6 : usesZ x.op ≠ 6 := by simpa using h
  rw [if_neg n6]
  repeat (first | refine zr ?_ | (refine zn ?_; intro _))
  exact ⟨trivial, _, rfl, _, [_, _], (List.perm_append_comm (l₁ := [_, _])), hF⟩
end Go.Proofs.YtlhkndjloeoodaaGreat
namespace Go.Proofs.YtlhkndjloeoodaaGreat
open Go.Ev Go.Ev.Wk
variable {O : Old}
theorem nameL_len {s : List UInt8} (h : nameL s = true) : s.length ≤ 64 := by
  cases s with
  | nil => simp
  | cons c r =>
    simp only [nameL_cons, Bool.and_eq_true, decide_eq_true_eq] at h
    simp only [List.length_cons]; omega
theorem rightL_len {k : Int} {cl : List UInt8} (h : rightL k cl = true) : cl.length ≤ 64 := by
  unfold rightL at h
  split at h
  · have : cl = [] := by simpa using h
    subst this; simp
  · split at h
    · exact nameL_len h
    · cases h
structure RtM (m : PM) : Prop where
  nm : nameL m.nm = true
  psn : m.ps.length ≤ 8
  ps : ∀ p ∈ m.ps, typedB p = true
  rt : rightL m.rk m.rc = true
  lo : 0 ≤ m.lo ∧ m.lo ≤ 200
  cln : m.cl.length ≤ 2000
  cl : ∀ i ∈ m.cl, rightI i = true
  hln : m.hl.length ≤ 50
  hl : ∀ h ∈ m.hl, rightH h = true
theorem allB_iff {α : Type} {l : List α} {k : Nat} {p : α → Bool} : allB l k p = true ↔ l.length ≤ k ∧ ∀ x ∈ l, p x = true := by
  simp [allB, List.all_eq_true]
theorem withinB_iff {n m : Int} : withinB n m = true ↔ 0 ≤ n ∧ n ≤ m := by simp [withinB]
theorem rightM_iff {m : PM} : rightM m = true ↔ RtM m := by
  simp only [rightM, Bool.and_eq_true, allB_iff, withinB_iff]
  constructor
  · rintro ⟨⟨⟨⟨⟨h1, h2, h3⟩, h4⟩, h5⟩, h6, h7⟩, h8, h9⟩
    exact ⟨h1, h2, h3, h4, h5, h6, h7, h8, h9⟩
  · rintro ⟨h1, h2, h3, h4, h5, h6, h7, h8, h9⟩
    exact ⟨⟨⟨⟨⟨h1, h2, h3⟩, h4⟩, h5⟩, h6, h7⟩, h8, h9⟩
theorem typed_len {p : Int × List UInt8} (h : typedB p = true) : p.2.length ≤ 64 := by
  simp only [typedB, Bool.and_eq_true] at h
  exact rightL_len h.1
set_option maxHeartbeats 8000000 in
set_option maxRecDepth 100000 in
theorem wmethod_ok {H : Heap} {wb pb : Nat} {w : WS} {F : Atoms} {m : MV} (hst : St (blksOf F) H H F) (hF : WrF wb pb w F) (hr : Room (wMeth w m.toPM)) (hx : RtM m.toPM) (hw : WfM m.toPM) (hm : Keep (blksOf F) H fun H' => MethF O H' m) :
    FpC TT O 124 [ptr wb, m.val] H F fun v F' => WrF wb pb (wMeth w m.toPM) F' := by
  obtain ⟨w1, e1⟩ : ∃ w1, w1 = wText [m.nm, ofL m.ps m.rk m.rc] w := ⟨_, rfl⟩
  obtain ⟨w2, e2⟩ : ∃ w2, w2 = wNum [bitZ m.st + 2 * bitZ m.ab, m.lo, (m.cl.length : Int)] w1 := ⟨_, rfl⟩
  obtain ⟨w3, e3⟩ : ∃ w3, w3 = m.cl.foldl wIns w2 := ⟨_, rfl⟩
  obtain ⟨w4, e4⟩ : ∃ w4, w4 = wNum [(m.hl.length : Int)] w3 := ⟨_, rfl⟩
  have e5 : wMeth w m.toPM = m.hl.foldl wHan w4 := by rw [e4, e3, e2, e1]; rfl
  rw [e5] at hr ⊢
  have r4 : Room w4 := hr.le (fold_ge wHan_ge _ _)
  have r3 : Room w3 := by rw [e4] at r4; exact r4.le (wNum_ge _ _)
  have r2 : Room w2 := by rw [e3] at r3; exact r3.le (fold_ge wIns_ge _ _)
  have r1 : Room w1 := by rw [e2] at r2; exact r2.le (wNum_ge _ _)
  have hcl : Keep (blksOf F) H fun H' => Sl O H' (.slice m.ca m.cl.length m.cc) 7 m.cl.length (m.cl.flatMap insL) := hm.mono fun _ h => h.cl
  have hhl : Keep (blksOf F) H fun H' => Sl O H' (.slice m.ha m.hl.length m.hc) 4 m.hl.length (m.hl.flatMap HV.cells) := hm.mono fun _ h => h.hl
  have hbit : ∀ b : Bool, 0 ≤ bitZ b ∧ bitZ b ≤ 1 := fun b => by cases b <;> decide
  have hlo := hx.lo
  have hcn := hx.cln
  have hhn := hx.hln
  refine call_fp rfl rfl rfl rfl rfl hst ?_
  repeat (first | refine zr ?_ | (refine zn ?_; intro _))
  rename_i bx
  refine exec_draw (lst := [(0, 0), (1, 0), (2, 2), (3, 0), (4, 8), (5, 0), (6, 32), (7, 120), (8, 254), (9, 511)]) (full := 1023) (by kernel_rfl) (by kernel_rfl) (by kernel_rfl) (by kernel_rfl) ?_
  repeat (first | refine zd ?_)
  try refine draw_nil ?_
  refine draw_w rfl rfl rfl rfl rfl rfl (step_call_pure rfl rfl rfl (fun H hs => ofS_ok (hm.at hs).ps (by have := hx.psn; omega) (fun p hp => by have := typed_len (hx.ps p hp); omega) (Nat.le_trans (rightL_len hx.rt) (by decide))) (zst ?_))
  repeat (first | refine zd ?_)
  try refine draw_nil ?_
  refine draw_a rfl rfl rfl rfl rfl (step_buildSliceF rfl rfl rfl rfl rfl rfl (fun sb => (zst ?_)))
  refine draw_w rfl rfl rfl rfl rfl rfl (step_call_fp2 rfl rfl rfl (fun H hs hst => wtext_ok (ss := [m.nm, ofL m.ps m.rk m.rc]) hst hF (e1 ▸ r1) (Rd.keep (Rd.sl (i := 0) (n := 2) rfl rfl 2) hs) (by omega)) (fun v2 F2 h2 => (zst ?_)))
  rw [← e1] at h2
  refine draw_nil ?_
  replace hF := h2
  clear h2
  repeat (first | refine zr ?_ | (refine zn ?_; intro _))
  refine exec_draw (lst := [(0, 0), (1, 0), (2, 2), (4, 0), (5, 16), (9, 0), (10, 512), (11, 0), (12, 2048), (13, 6144), (3, 6), (6, 62), (7, 126), (8, 254), (14, 16382), (15, 32767)]) (full := 65535) (by kernel_rfl) (by kernel_rfl) (by kernel_rfl) (by kernel_rfl) ?_
  repeat (first | refine zd ?_)
  try refine draw_nil ?_
  refine draw_w rfl rfl rfl rfl rfl rfl (step_call_pure rfl rfl rfl (fun H hs => bit_ok) (zst ?_))
  repeat (first | refine zd ?_)
  try refine draw_nil ?_
  refine draw_w rfl rfl rfl rfl rfl rfl (step_call_pure rfl rfl rfl (fun H hs => bit_ok) (zst ?_))
  have hb1 := hbit m.st
  have hb2 := hbit m.ab
  repeat (first | refine zd ?_)
  try refine draw_nil ?_
  refine draw_a rfl rfl rfl rfl rfl (step_buildSliceF rfl rfl rfl rfl rfl rfl (fun sb => (zst ?_)))
  refine draw_w rfl rfl rfl rfl rfl rfl (step_call_fp3 rfl rfl rfl (fun H hs hst => wnum_ok (ns := [bitZ m.st + 2 * bitZ m.ab, m.lo, (m.cl.length : Int)]) hst hF r1 (Rd.keep (Rd.sl (i := 0) (n := 3) rfl rfl 3) hs) (fun y hy => by simp at hy; omega) (by omega)) (fun v2 F2 h2 => (zst ?_)))
  rw [← e2] at h2
  refine draw_nil ?_
  replace hF := h2
  clear h2 hb1 hb2 hbit
  repeat (first | refine zr ?_ | (refine zn ?_; intro _))
  refine ExecS.weak (E' := [(0, ptr wb), (3, ptr bx), (35, .slice m.ca m.cl.length m.cc), (36, .int .i64 (m.cl.length : Int)), (37, .int .i64 ((0 : Nat) : Int))]) ⟨rfl, rfl, rfl, rfl, rfl, trivial⟩ (.cons _ (.cons _ (.refl _))) ?_
  refine exec_loop (fun k E L => ∃ (i : Nat) (F' : Atoms), i + k = m.cl.length ∧ WrF wb pb ((m.cl.take i).foldl wIns w2) F' ∧ E = [(0, ptr wb), (3, ptr bx), (35, .slice m.ca m.cl.length m.cc), (36, .int .i64 (m.cl.length : Int)), (37, .int .i64 (i : Int))] ∧ L = (some bx, .cells 0 m.cells 0 59) :: F') ?_ m.cl.length _ _ ⟨0, _, by omega, hF, rfl, rfl⟩
  clear hF
  rintro k E L ⟨i, F1, hik, hF, rfl, rfl⟩
  have hri : Room ((m.cl.take i).foldl wIns w2) := by rw [e3] at r3; exact r3.le (fold_take wIns_ge _ _ _)
  repeat (first | refine zr ?_ | (refine zn ?_; intro _))
  refine exec_cond rfl (fun hlt => ?_) (fun hge => ?_)
  · have hi : i < m.cl.length := by simp at hlt; omega
    obtain ⟨x, hxi⟩ : ∃ x, m.cl[i]? = some x := ⟨_, List.getElem?_eq_getElem hi⟩
    have hmem := List.mem_of_getElem? hxi
    have hs1 : (m.cl.take (i + 1)).foldl wIns w2 = wIns ((m.cl.take i).foldl wIns w2) x := fold_snoc hxi
    have hrn : Room (wIns ((m.cl.take i).foldl wIns w2) x) := by rw [← hs1]; rw [e3] at r3; exact r3.le (fold_take wIns_ge _ _ _)
    repeat (first | refine zr ?_ | (refine zn ?_; intro _))
    (first | apply ops_pl rfl rfl rfl ?_ rfl ?_ | apply draw_pl rfl rfl rfl rfl ?_ rfl rfl ?_); rotate_left; focus exact (.p rfl (opP_idx rfl rfl (hcl _ (ExtBut.refl _ _)) rfl rfl (by omega) (by omega)))
    (first | apply ops_pl rfl rfl rfl ?_ rfl ?_ | apply draw_pl rfl rfl rfl rfl ?_ rfl rfl ?_); rotate_left; focus exact (.l rfl (fun H hs => opL_load rfl ((hcl.at hs).ldF (fun _ => rfl) rfl rfl hxi)))
    repeat (first | refine zr ?_ | (refine zn ?_; intro _))
    refine ops_step rfl rfl rfl (step_call_fp2 rfl rfl rfl (fun H hs hst => winstr_ok hst hF hrn (hx.cl x hmem) (hw.cl x hmem)) (fun v2 F2 h2 => ?_))
    repeat (first | refine zr ?_ | (refine zn ?_; intro _))
    refine ⟨k - 1, by omega, _, _, ?_, .cons _ (.refl _), i + 1, _, by omega, hs1 ▸ h2, rfl, rfl⟩
    exact ⟨rfl, rfl, rfl, rfl, rfl, trivial⟩
  have hi : m.cl.length ≤ i := by simp at hge; omega
  rw [List.take_of_length_le hi, ← e3] at hF
  clear hri hge hi hik
  repeat (first | refine zr ?_ | (refine zn ?_; intro _))
  refine ops_step rfl rfl rfl (step_call_fp2 rfl rfl rfl (fun H hs hst => wnum_ok (ns := [(m.hl.length : Int)]) hst hF r3 (Rd.keep (Rd.sl (i := 0) (n := 1) rfl rfl 1) hs) (fun y hy => by simp at hy; omega) (by omega)) (fun v2 F2 h2 => ?_))
  rw [← e4] at h2
  replace hF := h2
  clear h2
  repeat (first | refine zr ?_ | (refine zn ?_; intro _))
  refine ExecS.weak (E' := [(0, ptr wb), (52, .slice m.ha m.hl.length m.hc), (53, .int .i64 (m.hl.length : Int)), (54, .int .i64 ((0 : Nat) : Int))]) ⟨rfl, rfl, rfl, rfl, trivial⟩ (.cons _ (.cons _ (.refl _))) ?_
  refine exec_loop (fun k E L => ∃ i : Nat, i + k = m.hl.length ∧ WrF wb pb ((m.hl.take i).foldl wHan w4) L ∧ E = [(0, ptr wb), (52, .slice m.ha m.hl.length m.hc), (53, .int .i64 (m.hl.length : Int)), (54, .int .i64 (i : Int))]) ?_ m.hl.length _ _ ⟨0, by omega, hF, rfl⟩
  clear hF
  rintro k E L ⟨i, hik, hF, rfl⟩
  repeat (first | refine zr ?_ | (refine zn ?_; intro _))
  refine exec_cond rfl (fun hlt => ?_) (fun hge => ?_)
  · have hi : i < m.hl.length := by simp at hlt; omega
    obtain ⟨x, hxi⟩ : ∃ x, m.hl[i]? = some x := ⟨_, List.getElem?_eq_getElem hi⟩
    have hmem := List.mem_of_getElem? hxi
    have hs1 : (m.hl.take (i + 1)).foldl wHan w4 = wHan ((m.hl.take i).foldl wHan w4) x := fold_snoc hxi
    have hrn : Room (wHan ((m.hl.take i).foldl wHan w4) x) := by rw [← hs1]; exact hr.le (fold_take wHan_ge _ _ _)
    have hrx := hx.hl x hmem
    simp only [rightH, Bool.and_eq_true, withinB_iff] at hrx
    repeat (first | refine zr ?_ | (refine zn ?_; intro _))
    (first | apply ops_pl rfl rfl rfl ?_ rfl ?_ | apply draw_pl rfl rfl rfl rfl ?_ rfl rfl ?_); rotate_left; focus exact (.p rfl (opP_idx rfl rfl (hhl _ (ExtBut.refl _ _)) rfl rfl (by omega) (by omega)))
    (first | apply ops_pl rfl rfl rfl ?_ rfl ?_ | apply draw_pl rfl rfl rfl rfl ?_ rfl rfl ?_); rotate_left; focus exact (.l rfl (fun H hs => opL_load rfl ((hhl.at hs).ldF (fun _ => rfl) rfl rfl hxi)))
    repeat (first | refine zr ?_ | (refine zn ?_; intro _))
    refine ops_step rfl rfl rfl (step_call_fp2 rfl rfl rfl (fun H hs hst => wnum_ok (ns := [x.fr, x.to, x.at_]) hst hF (hrn.le (wHan_ge _ _)) (Rd.keep (Rd.sl (i := 0) (n := 3) rfl rfl 3) hs) (fun y hy => by simp at hy; omega) (by omega)) (fun v2 F2 h2 => ?_))
    repeat (first | refine zr ?_ | (refine zn ?_; intro _))
    refine ops_step rfl rfl rfl (step_call_fp3 rfl rfl rfl (fun H hs hst => wtext_ok (ss := [x.ct]) hst h2 hrn (Rd.keep (Rd.sl (i := 0) (n := 1) rfl rfl 1) hs) (by omega)) (fun v3 F3 h3 => ?_))
    repeat (first | refine zr ?_ | (refine zn ?_; intro _))
    refine ⟨k - 1, by omega, _, _, ?_, .cons _ (.cons _ (.cons _ (.refl _))), i + 1, by omega, hs1 ▸ h3, rfl⟩
    exact ⟨rfl, rfl, rfl, rfl, trivial⟩
  have hi : m.hl.length ≤ i := by simp at hge; omega
  rw [List.take_of_length_le hi] at hF
  repeat (first | refine zr ?_ | (refine zn ?_; intro _))
  exact ⟨trivial, _, rfl, _, [], List.Perm.of_eq (List.append_nil _).symm, hF⟩
structure RtC (c : PC) : Prop where
  nm : nameL c.nm = true
  su : nameL c.su = true
  ifn : c.ifs.length ≤ 20
  ifs : ∀ s ∈ c.ifs, nameL s = true
  kd : 1 ≤ c.kd ∧ c.kd ≤ 4
  fln : c.fl.length ≤ 100
  fl : ∀ f ∈ c.fl, rightF f = true
  mln : c.ml.length ≤ 100
  ml : ∀ m ∈ c.ml, RtM m
theorem rightC_iff {c : PC} : rightC c = true ↔ RtC c := by
  simp only [rightC, Bool.and_eq_true, allB_iff, decide_eq_true_eq, rightM_iff]
  constructor
  · rintro ⟨⟨⟨⟨⟨⟨h1, h2⟩, h3, h4⟩, h5⟩, h6⟩, h7, h8⟩, h9, h10⟩
    exact ⟨h1, h2, h3, h4, ⟨h5, h6⟩, h7, h8, h9, h10⟩
  · rintro ⟨h1, h2, h3, h4, ⟨h5, h6⟩, h7, h8, h9, h10⟩
    exact ⟨⟨⟨⟨⟨⟨h1, h2⟩, h3, h4⟩, h5⟩, h6⟩, h7, h8⟩, h9, h10⟩
theorem foldMV (l : List MV) (w : WS) : (l.map MV.toPM).foldl wMeth w = l.foldl (fun w m => wMeth w m.toPM) w := by rw [List.foldl_map]
set_option maxHeartbeats 8000000 in
set_option maxRecDepth 100000 in
theorem wclass_ok {H : Heap} {wb pb : Nat} {w : WS} {F : Atoms} {x : CV} (hst : St (blksOf F) H H F) (hF : WrF wb pb w F) (hr : Room (wCls w x.pc)) (hx : RtC x.pc) (hw : WfC x.pc) (hm : Keep (blksOf F) H fun H' => ClsF O H' x) :
    FpC TT O 78 [ptr wb, x.val] H F fun v F' => WrF wb pb (wCls w x.pc) F' := by
  obtain ⟨w1, e1⟩ : ∃ w1, w1 = wText [x.nm, x.su] w := ⟨_, rfl⟩
  obtain ⟨w2, e2⟩ : ∃ w2, w2 = wNum [(x.ifs.length : Int)] w1 := ⟨_, rfl⟩
  obtain ⟨w3, e3⟩ : ∃ w3, w3 = wText x.ifs w2 := ⟨_, rfl⟩
  obtain ⟨w4, e4⟩ : ∃ w4, w4 = wNum [x.kd, (x.fl.length : Int)] w3 := ⟨_, rfl⟩
  obtain ⟨w5, e5⟩ : ∃ w5, w5 = x.fl.foldl wField w4 := ⟨_, rfl⟩
  obtain ⟨w6, e6⟩ : ∃ w6, w6 = wNum [(x.ml.length : Int)] w5 := ⟨_, rfl⟩
  have e7 : wCls w x.pc = x.ml.foldl (fun w m => wMeth w m.toPM) w6 := by
    rw [← foldMV, e6, e5, e4, e3, e2, e1]
    simp [wCls]
  rw [e7] at hr ⊢
  have gM : ∀ (w : WS) (m : MV), WLe w (wMeth w m.toPM) := fun w m => wMeth_ge w m.toPM
  have r6 : Room w6 := hr.le (fold_ge gM _ _)
  have r5 : Room w5 := by rw [e6] at r6; exact r6.le (wNum_ge _ _)
  have r4 : Room w4 := by rw [e5] at r5; exact r5.le (fold_ge wField_ge _ _)
  have r3 : Room w3 := by rw [e4] at r4; exact r4.le (wNum_ge _ _)
  have r2 : Room w2 := by rw [e3] at r3; exact r3.le (wText_ge _ _)
  have r1 : Room w1 := by rw [e2] at r2; exact r2.le (wNum_ge _ _)
  have hif : Keep (blksOf F) H fun H' => Sl O H' (.slice x.ia x.ifs.length x.ic) 1 x.ifs.length (x.ifs.map str) := hm.mono fun _ h => h.ifs
  have hfl : Keep (blksOf F) H fun H' => Sl O H' (.slice x.fa x.fl.length x.fc) 4 x.fl.length (x.fl.flatMap FV.cells) := hm.mono fun _ h => h.fl
  have hml : Keep (blksOf F) H fun H' => Sl O H' (.slice x.ma x.ml.length x.mc) 9 x.ml.length (x.ml.flatMap MV.cells) := hm.mono fun _ h => h.ml
  have hmn : x.ml.length ≤ 100 := by have := hx.mln; simpa using this
  have hfn : x.fl.length ≤ 100 := hx.fln
  have hin : x.ifs.length ≤ 20 := hx.ifn
  have hkd : 1 ≤ x.kd ∧ x.kd ≤ 4 := hx.kd
  refine call_fp rfl rfl rfl rfl rfl hst ?_
  repeat (first | refine zr ?_ | (refine zn ?_; intro _))
  rename_i bx sb
  refine ops_step rfl rfl rfl (step_call_fp2 rfl rfl rfl (fun H hs hst => wtext_ok (ss := [x.nm, x.su]) hst hF (e1 ▸ r1) (Rd.keep (Rd.sl (i := 0) (n := 2) rfl rfl 2) hs) (by omega)) (fun v2 F2 h2 => ?_))
  rw [← e1] at h2
  repeat (first | refine zr ?_ | (refine zn ?_; intro _))
  refine ops_step rfl rfl rfl (step_call_fp3 rfl rfl rfl (fun H hs hst => wnum_ok (ns := [(x.ifs.length : Int)]) hst h2 r1 (Rd.keep (Rd.sl (i := 0) (n := 1) rfl rfl 1) hs) (fun y hy => by simp at hy; omega) (by omega)) (fun v3 F3 h3 => ?_))
  rw [← e2] at h3
  repeat (first | refine zr ?_ | (refine zn ?_; intro _))
  refine ops_step rfl rfl rfl (step_call_fp3 rfl rfl rfl (fun H hs hst => wtext_ok (ss := x.ifs) hst h3 (e3 ▸ r3) (hif.base hs) (by omega)) (fun v4 F4 h4 => ?_))
  rw [← e3] at h4
  repeat (first | refine zr ?_ | (refine zn ?_; intro _))
  refine ops_step rfl rfl rfl (step_call_fp4 rfl rfl rfl (fun H hs hst => wnum_ok (ns := [x.kd, (x.fl.length : Int)]) hst h4 r3 (Rd.keep (Rd.sl (i := 0) (n := 2) rfl rfl 2) hs) (fun y hy => by simp at hy; omega) (by omega)) (fun v5 F5 h5 => ?_))
  rw [← e4] at h5
  have hF := h5
  clear h2 h3 h4 h5
  repeat (first | refine zr ?_ | (refine zn ?_; intro _))
  refine ExecS.weak (E' := [(0, ptr wb), (3, ptr bx), (34, .slice x.fa x.fl.length x.fc), (35, .int .i64 (x.fl.length : Int)), (36, .int .i64 ((0 : Nat) : Int))]) ⟨rfl, rfl, rfl, rfl, rfl, trivial⟩ (.cons _ (.cons _ (.cons _ (.refl _)))) ?_
  refine exec_loop (fun k E L => ∃ (i : Nat) (F' : Atoms), i + k = x.fl.length ∧ WrF wb pb ((x.fl.take i).foldl wField w4) F' ∧ E = [(0, ptr wb), (3, ptr bx), (34, .slice x.fa x.fl.length x.fc), (35, .int .i64 (x.fl.length : Int)), (36, .int .i64 (i : Int))] ∧ L = (some bx, .cells 0 x.cells 0 52) :: F') ?_ x.fl.length _ _ ⟨0, _, by omega, hF, rfl, rfl⟩
  clear hF
  rintro k E L ⟨i, F1, hik, hF, rfl, rfl⟩
  repeat (first | refine zr ?_ | (refine zn ?_; intro _))
  refine exec_cond rfl (fun hlt => ?_) (fun hge => ?_)
  · have hi : i < x.fl.length := by simp at hlt; omega
    obtain ⟨f, hxi⟩ : ∃ f, x.fl[i]? = some f := ⟨_, List.getElem?_eq_getElem hi⟩
    have hmem := List.mem_of_getElem? hxi
    have hs1 : (x.fl.take (i + 1)).foldl wField w4 = wField ((x.fl.take i).foldl wField w4) f := fold_snoc hxi
    have hrn : Room (wField ((x.fl.take i).foldl wField w4) f) := by rw [← hs1]; rw [e5] at r5; exact r5.le (fold_take wField_ge _ _ _)
    have hrf : rightF f = true := hx.fl f hmem
    simp only [rightF, Bool.and_eq_true] at hrf
    have htl := typed_len hrf.2
    repeat (first | refine zr ?_ | (refine zn ?_; intro _))
    (first | apply ops_pl rfl rfl rfl ?_ rfl ?_ | apply draw_pl rfl rfl rfl rfl ?_ rfl rfl ?_); rotate_left; focus exact (.p rfl (opP_idx rfl rfl (hfl _ (ExtBut.refl _ _)) rfl rfl (by omega) (by omega)))
    (first | apply ops_pl rfl rfl rfl ?_ rfl ?_ | apply draw_pl rfl rfl rfl rfl ?_ rfl rfl ?_); rotate_left; focus exact (.l rfl (fun H hs => opL_load rfl ((hfl.at hs).ldF (fun _ => rfl) rfl rfl hxi)))
    repeat (first | refine zr ?_ | (refine zn ?_; intro _))
    rename_i fb
    refine exec_draw (lst := [(0, 0), (1, 0), (2, 2), (3, 0), (4, 8), (5, 24), (6, 62), (7, 127)]) (full := 255) (by kernel_rfl) (by kernel_rfl) (by kernel_rfl) (by kernel_rfl) ?_
    repeat (first | refine zd ?_)
    try refine draw_nil ?_
    refine draw_w rfl rfl rfl rfl rfl rfl (step_call_pure rfl rfl rfl (fun H hs => type_ok (by simp only at htl; omega)) (zst ?_))
    repeat (first | refine zd ?_)
    try refine draw_nil ?_
    refine draw_a rfl rfl rfl rfl rfl (step_buildSliceF rfl rfl rfl rfl rfl rfl (fun sb => (zst ?_)))
    refine draw_w rfl rfl rfl rfl rfl rfl (step_call_fp3 rfl rfl rfl (fun H hs hst => wtext_ok (ss := [f.nm, typeL f.tk f.tc]) hst hF (hrn.le (wNum_ge _ _)) (Rd.keep (Rd.sl (i := 0) (n := 2) rfl rfl 2) hs) (by omega)) (fun v2 F2 h2 => (zst ?_)))
    refine draw_nil ?_
    repeat (first | refine zr ?_ | (refine zn ?_; intro _))
    refine ops_step rfl rfl rfl (step_call_pure rfl rfl rfl (fun H hs => bit_ok) ?_)
    have hbit : 0 ≤ bitZ f.st ∧ bitZ f.st ≤ 1 := by cases f.st <;> decide
    repeat (first | refine zr ?_ | (refine zn ?_; intro _))
    refine ops_step rfl rfl rfl (step_call_fp4 rfl rfl rfl (fun H hs hst => wnum_ok (ns := [bitZ f.st]) hst h2 (hrn.le (wNum_ge _ _)) (Rd.keep (Rd.sl (i := 0) (n := 1) rfl rfl 1) hs) (fun y hy => by simp at hy; omega) (by omega)) (fun v3 F3 h3 => ?_))
    repeat (first | refine zr ?_ | (refine zn ?_; intro _))
    refine ⟨k - 1, by omega, _, _, ?_, .cons _ (.cons _ (.cons _ (.refl _))), i + 1, _, by omega, hs1 ▸ h3, rfl, rfl⟩
    exact ⟨rfl, rfl, rfl, rfl, rfl, trivial⟩
  have hi : x.fl.length ≤ i := by simp at hge; omega
  rw [List.take_of_length_le hi, ← e5] at hF
  clear hge hi hik
  repeat (first | refine zr ?_ | (refine zn ?_; intro _))
  refine ops_step rfl rfl rfl (step_call_fp2 rfl rfl rfl (fun H hs hst => wnum_ok (ns := [(x.ml.length : Int)]) hst hF r5 (Rd.keep (Rd.sl (i := 0) (n := 1) rfl rfl 1) hs) (fun y hy => by simp at hy; omega) (by omega)) (fun v2 F2 h2 => ?_))
  rw [← e6] at h2
  replace hF := h2
  clear h2
  repeat (first | refine zr ?_ | (refine zn ?_; intro _))
  refine ExecS.weak (E' := [(0, ptr wb), (62, .slice x.ma x.ml.length x.mc), (63, .int .i64 (x.ml.length : Int)), (64, .int .i64 ((0 : Nat) : Int))]) ⟨rfl, rfl, rfl, rfl, trivial⟩ (.cons _ (.cons _ (.refl _))) ?_
  refine exec_loop (fun k E L => ∃ i : Nat, i + k = x.ml.length ∧ WrF wb pb ((x.ml.take i).foldl (fun w m => wMeth w m.toPM) w6) L ∧ E = [(0, ptr wb), (62, .slice x.ma x.ml.length x.mc), (63, .int .i64 (x.ml.length : Int)), (64, .int .i64 (i : Int))]) ?_ x.ml.length _ _ ⟨0, by omega, hF, rfl⟩
  clear hF
  rintro k E L ⟨i, hik, hF, rfl⟩
  repeat (first | refine zr ?_ | (refine zn ?_; intro _))
  refine exec_cond rfl (fun hlt => ?_) (fun hge => ?_)
  · have hi : i < x.ml.length := by simp at hlt; omega
    obtain ⟨m, hxi⟩ : ∃ m, x.ml[i]? = some m := ⟨_, List.getElem?_eq_getElem hi⟩
    have hmem := List.mem_of_getElem? hxi
    have hs1 : (x.ml.take (i + 1)).foldl (fun w m => wMeth w m.toPM) w6 = wMeth ((x.ml.take i).foldl (fun w m => wMeth w m.toPM) w6) m.toPM := fold_snoc hxi
    have hrn : Room (wMeth ((x.ml.take i).foldl (fun w m => wMeth w m.toPM) w6) m.toPM) := by rw [← hs1]; exact hr.le (fold_take gM _ _ _)
    repeat (first | refine zr ?_ | (refine zn ?_; intro _))
    (first | apply ops_pl rfl rfl rfl ?_ rfl ?_ | apply draw_pl rfl rfl rfl rfl ?_ rfl rfl ?_); rotate_left; focus exact (.p rfl (opP_idx rfl rfl (hml _ (ExtBut.refl _ _)) rfl rfl (by omega) (by omega)))
    (first | apply ops_pl rfl rfl rfl ?_ rfl ?_ | apply draw_pl rfl rfl rfl rfl ?_ rfl rfl ?_); rotate_left; focus exact (.l rfl (fun H hs => opL_load rfl ((hml.at hs).ldF (fun _ => rfl) rfl rfl hxi)))
    repeat (first | refine zr ?_ | (refine zn ?_; intro _))
    refine ops_step rfl rfl rfl (step_call_fp1 rfl rfl rfl (fun H hs hst => wmethod_ok hst hF hrn (hx.ml _ (List.mem_map_of_mem hmem)) (hw.ml _ (List.mem_map_of_mem hmem)) ((hm.mono fun _ h => h.ms m hmem).base hs)) (fun v2 F2 h2 => ?_))
    repeat (first | refine zr ?_ | (refine zn ?_; intro _))
    refine ⟨k - 1, by omega, _, _, ?_, .cons _ (.refl _), i + 1, by omega, hs1 ▸ h2, rfl⟩
    exact ⟨rfl, rfl, rfl, rfl, trivial⟩
  have hi : x.ml.length ≤ i := by simp at hge; omega
  rw [List.take_of_length_le hi] at hF
  repeat (first | refine zr ?_ | (refine zn ?_; intro _))
  exact ⟨trivial, _, rfl, _, [], List.Perm.of_eq (List.append_nil _).symm, hF⟩
end Go.Proofs.YtlhkndjloeoodaaGreat
namespace Go.Proofs.YtlhkndjloeoodaaGreat
open Go.Ev Go.Ev.Wk
variable {O : Old}
theorem foldCV (l : List CV) (w : WS) : (l.map CV.pc).foldl wCls w = l.foldl (fun w c => wCls w c.pc) w := by rw [List.foldl_map]
abbrev arcV (a : Option Addr) (n k : Nat) : Value := .agg #[.slice a n k]
set_option maxHeartbeats 8000000 in
set_option maxRecDepth 100000 in
theorem written_ok {H : Heap} {a : Option Addr} {k : Nat} {cl : List CV} (hm : Keep [] H fun H' => ArcF O H' a k cl) (hw : ∀ c ∈ cl, WfC c.pc) (hn : cl.length ≤ 1000000) (hr : rightCs (cl.map CV.pc) = true → Room (wArc (cl.map CV.pc))) :
    FpC TT O 37 [arcV a cl.length k] H [] fun v F' => ∃ (wb pb : Nat) (w : WS), v = .tuple #[ptr wb, .bool (rightA (cl.map CV.pc))] ∧ WrF wb pb w F' ∧ (rightA (cl.map CV.pc) = true → w = wArc (cl.map CV.pc)) := by
  refine call_fp rfl rfl rfl rfl rfl (St.start H) ?_
  refine ExecS.ghost ?_
  repeat (first | refine zr ?_ | (refine zn ?_; intro _))
  rename_i bx
  refine ops_step rfl rfl rfl (step_call_fp2 rfl rfl rfl (fun H hs hst => poolNew_ok hst) (fun v2 F2 h2 => ?_))
  obtain ⟨pb, rfl, hP⟩ := h2
  repeat (first | refine zr ?_ | (refine zn ?_; intro _))
  rename_i wb
  refine OpsS.reord [1] rfl ?_
  have hF : WrF wb pb ([], []) ((some wb, Cont.cells 0 [.slice none 0 0, ptr pb] 0 97) :: (none, .map []) :: F2) := ⟨none, 0, 0, _, F2, rfl, .nil _, hP⟩
  revert hF
  generalize ((some wb, Cont.cells 0 [.slice none 0 0, ptr pb] 0 97) :: (none, Cont.map []) :: F2) = F3
  intro hF
  repeat (first | refine zr ?_ | (refine zn ?_; intro _))
  refine ops_step rfl rfl rfl (step_call_bool rfl rfl rfl (fun H hs => rclasses_ok (hm.at hs) hw hn) (fun h => ?_) (fun h => ?_))
  rotate_left
  · repeat (first | refine zr ?_ | (refine zn ?_; intro _))
    refine ⟨trivial, _, rfl, _, [_], (List.perm_append_comm (l₁ := [_])), wb, pb, _, ?_, hF, ?_⟩
    · rw [rightA, h]; rfl
    · rw [rightA, h]; intro e; cases e
  have hrt := h
  simp only [rightCs, allB_iff] at hrt
  have hcn : cl.length ≤ 400 := by have := hrt.1; simpa using this
  have hroom := hr h
  obtain ⟨w1, e1⟩ : ∃ w1, w1 = wNum [(cl.length : Int)] ([], []) := ⟨_, rfl⟩
  have e2 : wArc (cl.map CV.pc) = cl.foldl (fun w c => wCls w c.pc) w1 := by rw [← foldCV, wArc, e1, List.length_map]
  have gC : ∀ (w : WS) (c : CV), WLe w (wCls w c.pc) := fun w c => wCls_ge w c.pc
  rw [e2] at hroom
  have hr0 : Room ([], []) := (hroom.le (fold_ge gC _ _)).le (by rw [e1]; exact wNum_ge _ _)
  have hcs : Keep [] H fun H' => Sl O H' (.slice a cl.length k) 6 cl.length (cl.flatMap CV.cells) := hm.mono fun _ h => h.sl
  repeat (first | refine zr ?_ | (refine zn ?_; intro _))
  refine ops_step rfl rfl rfl (step_call_fp2 rfl rfl rfl (fun H hs hst => wnum_ok (ns := [(cl.length : Int)]) hst hF hr0 (Rd.keep (Rd.sl (i := 0) (n := 1) rfl rfl 1) hs) (fun y hy => by simp at hy; omega) (by omega)) (fun v4 F4 h4 => ?_))
  rw [← e1] at h4
  replace hF := h4
  clear h4
  repeat (first | refine zr ?_ | (refine zn ?_; intro _))
  refine ExecS.weak (E' := [(4, ptr wb), (22, .slice a cl.length k), (23, .int .i64 (cl.length : Int)), (24, .int .i64 ((0 : Nat) : Int))]) ⟨rfl, rfl, rfl, rfl, trivial⟩ (.cons _ (.cons _ (.refl _))) ?_
  refine exec_loop (fun q E L => ∃ i : Nat, i + q = cl.length ∧ WrF wb pb ((cl.take i).foldl (fun w c => wCls w c.pc) w1) L ∧ E = [(4, ptr wb), (22, .slice a cl.length k), (23, .int .i64 (cl.length : Int)), (24, .int .i64 (i : Int))]) ?_ cl.length _ _ ⟨0, by omega, hF, rfl⟩
  clear hF
  rintro q E L ⟨i, hiq, hF, rfl⟩
  repeat (first | refine zr ?_ | (refine zn ?_; intro _))
  refine exec_cond rfl (fun hlt => ?_) (fun hge => ?_)
  · have hi : i < cl.length := by simp at hlt; omega
    obtain ⟨c, hxi⟩ : ∃ c, cl[i]? = some c := ⟨_, List.getElem?_eq_getElem hi⟩
    have hmem := List.mem_of_getElem? hxi
    have hs1 : (cl.take (i + 1)).foldl (fun w c => wCls w c.pc) w1 = wCls ((cl.take i).foldl (fun w c => wCls w c.pc) w1) c.pc := fold_snoc hxi
    have hrn : Room (wCls ((cl.take i).foldl (fun w c => wCls w c.pc) w1) c.pc) := by rw [← hs1]; exact hroom.le (fold_take gC _ _ _)
    repeat (first | refine zr ?_ | (refine zn ?_; intro _))
    (first | apply ops_pl rfl rfl rfl ?_ rfl ?_ | apply draw_pl rfl rfl rfl rfl ?_ rfl rfl ?_); rotate_left; focus exact (.p rfl (opP_idx rfl rfl (hcs _ (ExtBut.refl _ _)) rfl rfl (by omega) (by omega)))
    (first | apply ops_pl rfl rfl rfl ?_ rfl ?_ | apply draw_pl rfl rfl rfl rfl ?_ rfl rfl ?_); rotate_left; focus exact (.l rfl (fun H hs => opL_load rfl ((hcs.at hs).ldF (fun _ => rfl) rfl rfl hxi)))
    repeat (first | refine zr ?_ | (refine zn ?_; intro _))
    refine ops_step rfl rfl rfl (step_call_fp1 rfl rfl rfl (fun H hs hst => wclass_ok hst hF hrn (rightC_iff.1 (hrt.2 _ (List.mem_map_of_mem hmem))) (hw c hmem) ((hm.mono fun _ h => h.cs c hmem).base hs)) (fun v2 F2 h2 => ?_))
    repeat (first | refine zr ?_ | (refine zn ?_; intro _))
    refine ⟨q - 1, by omega, _, _, ?_, .cons _ (.refl _), i + 1, by omega, hs1 ▸ h2, rfl⟩
    exact ⟨rfl, rfl, rfl, rfl, trivial⟩
  have hi : cl.length ≤ i := by simp at hge; omega
  rw [List.take_of_length_le hi, ← e2] at hF
  obtain ⟨a1, n1, c1, p1, Fp, rfl, own1, hP1⟩ := hF
  repeat (first | refine zr ?_ | (refine zn ?_; intro _))
  refine ops_step rfl rfl rfl (step_call_fp2 rfl rfl rfl (fun H hs hst => poolLen_ok hst hP1) (fun v2 F2 h2 => ?_))
  obtain ⟨hP2, rfl⟩ := h2
  repeat (first | refine zr ?_ | (refine zn ?_; intro _))
  refine ⟨trivial, _, rfl, _, [], List.Perm.of_eq (List.append_nil _).symm, wb, pb, wArc (cl.map CV.pc), ?_, ⟨_, _, _, _, _, rfl, own1, hP2⟩, fun _ => rfl⟩
  have e3 : decide (((wArc (cl.map CV.pc)).2.length : Int) ≤ 10000) = decide ((wArc (cl.map CV.pc)).2.length ≤ 10000) := by rw [decide_eq_decide]; omega
  rw [rightA, h, Bool.true_and, ← e3]
  rfl
set_option maxHeartbeats 8000000 in
set_option maxRecDepth 100000 in
theorem right_A_ok {H : Heap} {a : Option Addr} {k : Nat} {cl : List CV} (hm : Keep [] H fun H' => ArcF O H' a k cl) (hw : ∀ c ∈ cl, WfC c.pc) (hn : cl.length ≤ 1000000) (hr : rightCs (cl.map CV.pc) = true → Room (wArc (cl.map CV.pc))) :
    CallC TT O 14 [arcV a cl.length k] H fun v H' => v = .bool (rightA (cl.map CV.pc)) ∧ Ext H H' := by
  refine call_pure rfl rfl rfl rfl rfl ?_
  repeat (first | refine zr ?_ | (refine zn ?_; intro _))
  refine ops_step rfl rfl rfl (step_call_fp1 rfl rfl rfl (fun H hs hst => written_ok (hm.base hs) hw hn hr) (fun v2 F2 h2 => ?_))
  obtain ⟨wb, pb, w, rfl, -, -⟩ := h2
  repeat (first | refine zr ?_ | (refine zn ?_; intro _))
  exact ⟨trivial, _, rfl, rfl⟩
theorem enc_pos (n : Nat) : 1 ≤ (enc n).length := by
  by_cases h : n < 128
  · rw [enc_lt h]; simp
  · rw [enc_ge h]; simp
set_option maxHeartbeats 8000000 in
set_option maxRecDepth 100000 in
theorem put_ok {H : Heap} {a : Option Addr} {k : Nat} {cl : List CV} (hm : Keep [] H fun H' => ArcF O H' a k cl) (hw : ∀ c ∈ cl, WfC c.pc) (hn : cl.length ≤ 1000000) (hr : rightCs (cl.map CV.pc) = true → Room (wArc (cl.map CV.pc))) (hb : rightA (cl.map CV.pc) = true → (textsB (wArc (cl.map CV.pc)).2).length ≤ 90000000) :
    FpC TT O 16 [arcV a cl.length k] H [] fun v F' => ∃ (a' : Option Addr) (n' c' : Nat), v = .slice a' n' c' ∧ n' = (putA (cl.map CV.pc)).length ∧ Rd F' fun H => Sl O H (.slice a' n' c') 1 n' ((putA (cl.map CV.pc)).map by8) := by
  refine call_fp rfl rfl rfl rfl rfl (St.start H) ?_
  repeat (first | refine zr ?_ | (refine zn ?_; intro _))
  rename_i bx
  refine ops_step rfl rfl rfl (step_call_fp1 rfl rfl rfl (fun H hs hst => written_ok (hm.base hs) hw hn hr) (fun v2 F2 h2 => ?_))
  obtain ⟨wb, pb, w, rfl, hF, hwa⟩ := h2
  repeat (first | refine zr ?_ | (refine zn ?_; intro _))
  cases hd : rightA (cl.map CV.pc)
  · repeat (first | refine zr ?_ | (refine zn ?_; intro _))
    refine ⟨trivial, _, rfl, _, [], List.Perm.of_eq (List.append_nil _).symm, none, 0, 0, rfl, ?_, ?_⟩
    · rw [putA, hd]; rfl
    · rw [putA, hd]; exact fun _ _ _ _ => Sl.nil
  obtain rfl := hwa hd
  have hbb := hb hd
  have hrc : rightCs (cl.map CV.pc) = true ∧ (wArc (cl.map CV.pc)).2.length ≤ 10000 := by
    have := hd
    simpa only [rightA, Bool.and_eq_true, decide_eq_true_eq] using this
  have hroom := hr hrc.1
  obtain ⟨a1, n1, c1, p1, Fp, rfl, own1, hP1⟩ := hF
  have hlen : (wArc (cl.map CV.pc)).1.length = n1 := by have := own1.len; simpa using this
  have hr1 := hroom.1
  repeat (first | refine zr ?_ | (refine zn ?_; intro _))
  refine exec_draw (lst := [(0, 0), (1, 1), (2, 0), (3, 4), (4, 12), (5, 28), (8, 0), (9, 256), (10, 768), (11, 1792), (6, 60), (7, 127), (12, 4095), (13, 8191)]) (full := 16383) (by kernel_rfl) (by kernel_rfl) (by kernel_rfl) (by kernel_rfl) ?_
  repeat (first | refine zd ?_)
  try refine draw_nil ?_
  refine draw_a rfl rfl rfl rfl rfl (step_buildSliceF rfl rfl rfl rfl rfl rfl (fun sb => (zst ?_)))
  first | refine ops_pl rfl rfl rfl (.l rfl (look_cvB 0 rfl rfl rfl rfl)) rfl ?_ | refine draw_pl rfl rfl rfl rfl (.l rfl (look_cvB 0 rfl rfl rfl rfl)) rfl rfl ?_
  skip
  repeat (first | refine zd ?_)
  try refine draw_nil ?_
  refine draw_w rfl rfl rfl rfl rfl rfl (step_call_fp4 rfl rfl rfl (fun H hs hst => poolBytes_ok hst hP1 (by omega) hbb) (fun v2 F2 h2 => ⟨by repeat (first | exact True.intro | refine And.intro (.inr ⟨veq_refl rfl, (look_cvB 0 rfl rfl rfl rfl)⟩) ?_ | refine zs1 ?_), ?_⟩))
  obtain ⟨a2, n2, c2, p2, F3, rfl, hP2, rfl, own2⟩ := h2
  have hpl : (poolB (wArc (cl.map CV.pc)).2).length = n2 := by have := own2.len; simpa using this
  have hpb : 1 ≤ n2 ∧ n2 ≤ 90000009 := by
    have h9 := enc_len9 (n := (wArc (cl.map CV.pc)).2.length) (by omega)
    have h1 := enc_pos (wArc (cl.map CV.pc)).2.length
    rw [poolB, List.length_append] at hpl
    omega
  repeat (first | refine zd ?_)
  try refine draw_nil ?_
  refine draw_w rfl rfl rfl rfl rfl rfl (step_appendC (z := 1) 0 rfl rfl rfl rfl rfl rfl rfl rfl (OwnC.full rfl) (fun H hs => (own2.slM hs (List.mem_of_getElem? (i := 4) rfl)).src) rfl (by first | rfl | exact allCell_map (fun _ => rfl) _) (by first | rfl | (simp; done) | (simp; omega)) (by omega) (by omega) (fun a4 c4 p4 own4 => ⟨by repeat (first | exact True.intro | refine And.intro (.inr ⟨veq_refl rfl, (look_cvB 0 rfl rfl rfl rfl)⟩) ?_ | refine zs1 ?_), ?_⟩))
  repeat (first | refine zd ?_)
  try refine draw_nil ?_
  refine draw_w rfl rfl rfl rfl rfl rfl (step_append 0 1 rfl rfl rfl rfl rfl rfl rfl rfl own4 (fun H hs => (own1.slM hs (List.mem_of_getElem? (i := 3) rfl)).src) rfl (by first | rfl | exact allCell_map (fun _ => rfl) _) (by first | rfl | (simp; done) | (simp; omega)) (by omega) (fun a5 c5 p5 own5 => ⟨by repeat (first | exact True.intro | refine And.intro (.inr ⟨veq_refl rfl, (look_cvB 0 rfl rfl rfl rfl)⟩) ?_ | refine zs1 ?_), ?_⟩))
  repeat (first | refine zd ?_)
  try refine draw_nil ?_
  repeat (first | refine zr ?_ | (refine zn ?_; intro _))
  have hcells : [Value.int .u8 66, .int .u8 79, .int .u8 78, .int .u8 49] ++ (poolB (wArc (cl.map CV.pc)).2).map by8 ++ (wArc (cl.map CV.pc)).1.map by8 = (putA (cl.map CV.pc)).map by8 := by
    rw [putA, if_pos hd, List.map_append, List.map_append]; rfl
  rw [hcells] at own5
  have hn5 : 4 + n2 + n1 = (putA (cl.map CV.pc)).length := by have := own5.len; rw [List.length_map] at this; omega
  refine ⟨trivial, _, rfl, _, [], List.Perm.of_eq (List.append_nil _).symm, _, _, _, rfl, hn5, Rd.own own5 ?_⟩
  exact List.mem_of_getElem? (i := 0) rfl
end Go.Proofs.YtlhkndjloeoodaaGreat
namespace Go.Proofs.YtlhkndjloeoodaaGreat
open Go.Ev Go.Ev.Wk
variable {O : Old}
theorem typC_all : ∀ l, (typC l).all isCell = true
  | [] => rfl
  | p :: l => by simp only [typC, List.all_cons, typC_all l]; rfl
set_option maxHeartbeats 8000000 in
set_option maxRecDepth 100000 in
theorem cloneS_ok {H : Heap} {a : Option Addr} {c : Nat} {l : List (List UInt8)} (hs0 : Sl O H (.slice a l.length c) 1 l.length (l.map str)) (hn : l.length ≤ 1000000) :
    FpC TT O 46 [.slice a l.length c] H [] fun v F' => ∃ a' c' p, F' = [p] ∧ v = .slice a' l.length c' ∧ OwnC 1 9 a' l.length c' (l.map str) p := by
  refine call_fp rfl rfl rfl rfl rfl (St.start H) ?_
  have hall : (l.map str).all isCell = true := allCell_map (fun _ => rfl) _
  have hlen : (l.map str).length = l.length * 1 := by rw [List.length_map]; omega
  have hx := hs0.toX
  rcases hs0.2 with ⟨hv, hn0⟩ | ⟨b, off, s, cap, hv, -⟩
  · have : l = [] := List.length_eq_zero_iff.1 hn0
    subst this
    cases hv
    refine ExecS.ghost ?_
    repeat (first | refine zr ?_ | (refine zn ?_; intro _))
    exact ⟨trivial, _, rfl, [_], [], List.Perm.refl _, none, 0, _, rfl, rfl, .nil _⟩
  · cases hv
    repeat (first | refine zr ?_ | (refine zn ?_; intro _))
    by_cases h0 : l.length = 0
    · have : l = [] := List.length_eq_zero_iff.1 h0
      subst this
      refine ops_step rfl rfl rfl (step_append_none rfl rfl rfl rfl rfl rfl (fun H hs => (hx.at hs).src) (appOk.of rfl hall hlen) (.inr ⟨_, _, _, rfl, rfl⟩) ?_)
      repeat (first | refine zr ?_ | (refine zn ?_; intro _))
      exact ⟨trivial, _, rfl, [_], [], List.Perm.refl _, _, _, _, rfl, rfl, .full rfl⟩
    · refine ops_step rfl rfl rfl (step_appendC (z := 1) 0 rfl rfl rfl rfl rfl rfl rfl rfl (OwnC.full (n := 0) rfl) (fun H hs => (hx.at hs).src) rfl hall hlen (by omega) (by omega) (fun a2 c2 p2 own2 => ?_))
      rw [Nat.zero_add, List.nil_append] at own2
      rw [Nat.zero_add]
      repeat (first | refine zr ?_ | (refine zn ?_; intro _))
      exact ⟨trivial, _, rfl, [_], [], List.Perm.refl _, _, _, _, rfl, rfl, .inl own2⟩
set_option maxHeartbeats 8000000 in
set_option maxRecDepth 100000 in
theorem cloneT_ok {H : Heap} {a : Option Addr} {c : Nat} {l : List (Int × List UInt8)} (hs0 : Sl O H (.slice a l.length c) 2 l.length (typC l)) (hn : l.length ≤ 1000000) :
    FpC TT O 49 [.slice a l.length c] H [] fun v F' => ∃ a' c' p, F' = [p] ∧ v = .slice a' l.length c' ∧ OwnC 2 55 a' l.length c' (typC l) p := by
  refine call_fp rfl rfl rfl rfl rfl (St.start H) ?_
  have hall : (typC l).all isCell = true := typC_all _
  have hlen : (typC l).length = l.length * 2 := typC_length _
  have hx := hs0.toX
  rcases hs0.2 with ⟨hv, hn0⟩ | ⟨b, off, s, cap, hv, -⟩
  · have : l = [] := List.length_eq_zero_iff.1 hn0
    subst this
    cases hv
    refine ExecS.ghost ?_
    repeat (first | refine zr ?_ | (refine zn ?_; intro _))
    exact ⟨trivial, _, rfl, [_], [], List.Perm.refl _, none, 0, _, rfl, rfl, .nil _⟩
  · cases hv
    repeat (first | refine zr ?_ | (refine zn ?_; intro _))
    by_cases h0 : l.length = 0
    · have : l = [] := List.length_eq_zero_iff.1 h0
      subst this
      refine ops_step rfl rfl rfl (step_append_none rfl rfl rfl rfl rfl rfl (fun H hs => (hx.at hs).src) (appOk.of rfl hall hlen) (.inr ⟨_, _, _, rfl, rfl⟩) ?_)
      repeat (first | refine zr ?_ | (refine zn ?_; intro _))
      exact ⟨trivial, _, rfl, [_], [], List.Perm.refl _, _, _, _, rfl, rfl, .full rfl⟩
    · refine ops_step rfl rfl rfl (step_appendC (z := 2) 0 rfl rfl rfl rfl rfl rfl rfl rfl (OwnC.full (n := 0) rfl) (fun H hs => (hx.at hs).src) rfl hall hlen (by omega) (by omega) (fun a2 c2 p2 own2 => ?_))
      rw [Nat.zero_add, List.nil_append] at own2
      rw [Nat.zero_add]
      repeat (first | refine zr ?_ | (refine zn ?_; intro _))
      exact ⟨trivial, _, rfl, [_], [], List.Perm.refl _, _, _, _, rfl, rfl, .inl own2⟩
set_option maxHeartbeats 8000000 in
set_option maxRecDepth 100000 in
theorem cloneF_ok {H : Heap} {a : Option Addr} {c : Nat} {l : List (FV)} (hs0 : Sl O H (.slice a l.length c) 4 l.length (l.flatMap FV.cells)) (hn : l.length ≤ 1000000) :
    FpC TT O 47 [.slice a l.length c] H [] fun v F' => ∃ a' c' p, F' = [p] ∧ v = .slice a' l.length c' ∧ OwnC 4 63 a' l.length c' (l.flatMap FV.cells) p := by
  refine call_fp rfl rfl rfl rfl rfl (St.start H) ?_
  have hall : (l.flatMap FV.cells).all isCell = true := flat_all (fun _ => rfl) _
  have hlen : (l.flatMap FV.cells).length = l.length * 4 := flat_len (f := FV.cells) (fun _ => rfl) _
  have hx := hs0.toX
  rcases hs0.2 with ⟨hv, hn0⟩ | ⟨b, off, s, cap, hv, -⟩
  · have : l = [] := List.length_eq_zero_iff.1 hn0
    subst this
    cases hv
    refine ExecS.ghost ?_
    repeat (first | refine zr ?_ | (refine zn ?_; intro _))
    exact ⟨trivial, _, rfl, [_], [], List.Perm.refl _, none, 0, _, rfl, rfl, .nil _⟩
  · cases hv
    repeat (first | refine zr ?_ | (refine zn ?_; intro _))
    by_cases h0 : l.length = 0
    · have : l = [] := List.length_eq_zero_iff.1 h0
      subst this
      refine ops_step rfl rfl rfl (step_append_none rfl rfl rfl rfl rfl rfl (fun H hs => (hx.at hs).src) (appOk.of rfl hall hlen) (.inr ⟨_, _, _, rfl, rfl⟩) ?_)
      repeat (first | refine zr ?_ | (refine zn ?_; intro _))
      exact ⟨trivial, _, rfl, [_], [], List.Perm.refl _, _, _, _, rfl, rfl, .full rfl⟩
    · refine ops_step rfl rfl rfl (step_appendC (z := 4) 0 rfl rfl rfl rfl rfl rfl rfl rfl (OwnC.full (n := 0) rfl) (fun H hs => (hx.at hs).src) rfl hall hlen (by omega) (by omega) (fun a2 c2 p2 own2 => ?_))
      rw [Nat.zero_add, List.nil_append] at own2
      rw [Nat.zero_add]
      repeat (first | refine zr ?_ | (refine zn ?_; intro _))
      exact ⟨trivial, _, rfl, [_], [], List.Perm.refl _, _, _, _, rfl, rfl, .inl own2⟩
set_option maxHeartbeats 8000000 in
set_option maxRecDepth 100000 in
theorem cloneI_ok {H : Heap} {a : Option Addr} {c : Nat} {l : List (Ins)} (hs0 : Sl O H (.slice a l.length c) 7 l.length (l.flatMap insL)) (hn : l.length ≤ 1000000) :
    FpC TT O 50 [.slice a l.length c] H [] fun v F' => ∃ a' c' p, F' = [p] ∧ v = .slice a' l.length c' ∧ OwnC 7 61 a' l.length c' (l.flatMap insL) p := by
  refine call_fp rfl rfl rfl rfl rfl (St.start H) ?_
  have hall : (l.flatMap insL).all isCell = true := flat_all (fun _ => rfl) _
  have hlen : (l.flatMap insL).length = l.length * 7 := flat_len (f := insL) (fun _ => rfl) _
  have hx := hs0.toX
  rcases hs0.2 with ⟨hv, hn0⟩ | ⟨b, off, s, cap, hv, -⟩
  · have : l = [] := List.length_eq_zero_iff.1 hn0
    subst this
    cases hv
    refine ExecS.ghost ?_
    repeat (first | refine zr ?_ | (refine zn ?_; intro _))
    exact ⟨trivial, _, rfl, [_], [], List.Perm.refl _, none, 0, _, rfl, rfl, .nil _⟩
  · cases hv
    repeat (first | refine zr ?_ | (refine zn ?_; intro _))
    by_cases h0 : l.length = 0
    · have : l = [] := List.length_eq_zero_iff.1 h0
      subst this
      refine ops_step rfl rfl rfl (step_append_none rfl rfl rfl rfl rfl rfl (fun H hs => (hx.at hs).src) (appOk.of rfl hall hlen) (.inr ⟨_, _, _, rfl, rfl⟩) ?_)
      repeat (first | refine zr ?_ | (refine zn ?_; intro _))
      exact ⟨trivial, _, rfl, [_], [], List.Perm.refl _, _, _, _, rfl, rfl, .full rfl⟩
    · refine ops_step rfl rfl rfl (step_appendC (z := 7) 0 rfl rfl rfl rfl rfl rfl rfl rfl (OwnC.full (n := 0) rfl) (fun H hs => (hx.at hs).src) rfl hall hlen (by omega) (by omega) (fun a2 c2 p2 own2 => ?_))
      rw [Nat.zero_add, List.nil_append] at own2
      rw [Nat.zero_add]
      repeat (first | refine zr ?_ | (refine zn ?_; intro _))
      exact ⟨trivial, _, rfl, [_], [], List.Perm.refl _, _, _, _, rfl, rfl, .inl own2⟩
set_option maxHeartbeats 8000000 in
set_option maxRecDepth 100000 in
theorem cloneH_ok {H : Heap} {a : Option Addr} {c : Nat} {l : List (HV)} (hs0 : Sl O H (.slice a l.length c) 4 l.length (l.flatMap HV.cells)) (hn : l.length ≤ 1000000) :
    FpC TT O 51 [.slice a l.length c] H [] fun v F' => ∃ a' c' p, F' = [p] ∧ v = .slice a' l.length c' ∧ OwnC 4 66 a' l.length c' (l.flatMap HV.cells) p := by
  refine call_fp rfl rfl rfl rfl rfl (St.start H) ?_
  have hall : (l.flatMap HV.cells).all isCell = true := flat_all (fun _ => rfl) _
  have hlen : (l.flatMap HV.cells).length = l.length * 4 := flat_len (f := HV.cells) (fun _ => rfl) _
  have hx := hs0.toX
  rcases hs0.2 with ⟨hv, hn0⟩ | ⟨b, off, s, cap, hv, -⟩
  · have : l = [] := List.length_eq_zero_iff.1 hn0
    subst this
    cases hv
    refine ExecS.ghost ?_
    repeat (first | refine zr ?_ | (refine zn ?_; intro _))
    exact ⟨trivial, _, rfl, [_], [], List.Perm.refl _, none, 0, _, rfl, rfl, .nil _⟩
  · cases hv
    repeat (first | refine zr ?_ | (refine zn ?_; intro _))
    by_cases h0 : l.length = 0
    · have : l = [] := List.length_eq_zero_iff.1 h0
      subst this
      refine ops_step rfl rfl rfl (step_append_none rfl rfl rfl rfl rfl rfl (fun H hs => (hx.at hs).src) (appOk.of rfl hall hlen) (.inr ⟨_, _, _, rfl, rfl⟩) ?_)
      repeat (first | refine zr ?_ | (refine zn ?_; intro _))
      exact ⟨trivial, _, rfl, [_], [], List.Perm.refl _, _, _, _, rfl, rfl, .full rfl⟩
    · refine ops_step rfl rfl rfl (step_appendC (z := 4) 0 rfl rfl rfl rfl rfl rfl rfl rfl (OwnC.full (n := 0) rfl) (fun H hs => (hx.at hs).src) rfl hall hlen (by omega) (by omega) (fun a2 c2 p2 own2 => ?_))
      rw [Nat.zero_add, List.nil_append] at own2
      rw [Nat.zero_add]
      repeat (first | refine zr ?_ | (refine zn ?_; intro _))
      exact ⟨trivial, _, rfl, [_], [], List.Perm.refl _, _, _, _, rfl, rfl, .inl own2⟩
set_option maxHeartbeats 8000000 in
set_option maxRecDepth 100000 in
theorem cloneM_ok {H : Heap} {a : Option Addr} {c : Nat} {l : List (MV)} (hs0 : Sl O H (.slice a l.length c) 9 l.length (l.flatMap MV.cells)) (hn : l.length ≤ 1000000) :
    FpC TT O 48 [.slice a l.length c] H [] fun v F' => ∃ a' c' p, F' = [p] ∧ v = .slice a' l.length c' ∧ OwnC 9 59 a' l.length c' (l.flatMap MV.cells) p := by
  refine call_fp rfl rfl rfl rfl rfl (St.start H) ?_
  have hall : (l.flatMap MV.cells).all isCell = true := flat_all (fun _ => rfl) _
  have hlen : (l.flatMap MV.cells).length = l.length * 9 := flat_len (f := MV.cells) (fun _ => rfl) _
  have hx := hs0.toX
  rcases hs0.2 with ⟨hv, hn0⟩ | ⟨b, off, s, cap, hv, -⟩
  · have : l = [] := List.length_eq_zero_iff.1 hn0
    subst this
    cases hv
    refine ExecS.ghost ?_
    repeat (first | refine zr ?_ | (refine zn ?_; intro _))
    exact ⟨trivial, _, rfl, [_], [], List.Perm.refl _, none, 0, _, rfl, rfl, .nil _⟩
  · cases hv
    repeat (first | refine zr ?_ | (refine zn ?_; intro _))
    by_cases h0 : l.length = 0
    · have : l = [] := List.length_eq_zero_iff.1 h0
      subst this
      refine ops_step rfl rfl rfl (step_append_none rfl rfl rfl rfl rfl rfl (fun H hs => (hx.at hs).src) (appOk.of rfl hall hlen) (.inr ⟨_, _, _, rfl, rfl⟩) ?_)
      repeat (first | refine zr ?_ | (refine zn ?_; intro _))
      exact ⟨trivial, _, rfl, [_], [], List.Perm.refl _, _, _, _, rfl, rfl, .full rfl⟩
    · refine ops_step rfl rfl rfl (step_appendC (z := 9) 0 rfl rfl rfl rfl rfl rfl rfl rfl (OwnC.full (n := 0) rfl) (fun H hs => (hx.at hs).src) rfl hall hlen (by omega) (by omega) (fun a2 c2 p2 own2 => ?_))
      rw [Nat.zero_add, List.nil_append] at own2
      rw [Nat.zero_add]
      repeat (first | refine zr ?_ | (refine zn ?_; intro _))
      exact ⟨trivial, _, rfl, [_], [], List.Perm.refl _, _, _, _, rfl, rfl, .inl own2⟩
set_option maxHeartbeats 8000000 in
set_option maxRecDepth 100000 in
theorem cloneC_ok {H : Heap} {a : Option Addr} {c : Nat} {l : List (CV)} (hs0 : Sl O H (.slice a l.length c) 6 l.length (l.flatMap CV.cells)) (hn : l.length ≤ 1000000) :
    FpC TT O 45 [.slice a l.length c] H [] fun v F' => ∃ a' c' p, F' = [p] ∧ v = .slice a' l.length c' ∧ OwnC 6 52 a' l.length c' (l.flatMap CV.cells) p := by
  refine call_fp rfl rfl rfl rfl rfl (St.start H) ?_
  have hall : (l.flatMap CV.cells).all isCell = true := flat_all (fun _ => rfl) _
  have hlen : (l.flatMap CV.cells).length = l.length * 6 := flat_len (f := CV.cells) (fun _ => rfl) _
  have hx := hs0.toX
  rcases hs0.2 with ⟨hv, hn0⟩ | ⟨b, off, s, cap, hv, -⟩
  · have : l = [] := List.length_eq_zero_iff.1 hn0
    subst this
    cases hv
    refine ExecS.ghost ?_
    repeat (first | refine zr ?_ | (refine zn ?_; intro _))
    exact ⟨trivial, _, rfl, [_], [], List.Perm.refl _, none, 0, _, rfl, rfl, .nil _⟩
  · cases hv
    repeat (first | refine zr ?_ | (refine zn ?_; intro _))
    by_cases h0 : l.length = 0
    · have : l = [] := List.length_eq_zero_iff.1 h0
      subst this
      refine ops_step rfl rfl rfl (step_append_none rfl rfl rfl rfl rfl rfl (fun H hs => (hx.at hs).src) (appOk.of rfl hall hlen) (.inr ⟨_, _, _, rfl, rfl⟩) ?_)
      repeat (first | refine zr ?_ | (refine zn ?_; intro _))
      exact ⟨trivial, _, rfl, [_], [], List.Perm.refl _, _, _, _, rfl, rfl, .full rfl⟩
    · refine ops_step rfl rfl rfl (step_appendC (z := 6) 0 rfl rfl rfl rfl rfl rfl rfl rfl (OwnC.full (n := 0) rfl) (fun H hs => (hx.at hs).src) rfl hall hlen (by omega) (by omega) (fun a2 c2 p2 own2 => ?_))
      rw [Nat.zero_add, List.nil_append] at own2
      rw [Nat.zero_add]
      repeat (first | refine zr ?_ | (refine zn ?_; intro _))
      exact ⟨trivial, _, rfl, [_], [], List.Perm.refl _, _, _, _, rfl, rfl, .inl own2⟩
end Go.Proofs.YtlhkndjloeoodaaGreat
namespace Go.Proofs.YtlhkndjloeoodaaGreat
open Go.Ev Go.Ev.Wk
variable {O : Old}
def OwnL {α : Type} (R : α → Atoms → Prop) : List α → Atoms → Prop
  | [], Z => Z = []
  | x :: l, Z => ∃ Z1 Z2, Z = Z1 ++ Z2 ∧ R x Z1 ∧ OwnL R l Z2
theorem OwnL.snoc {α : Type} {R : α → Atoms → Prop} {x : α} {Zx : Atoms} : ∀ {l : List α} {Z : Atoms}, OwnL R l Z → R x Zx → OwnL R (l ++ [x]) (Z ++ Zx)
  | [], _, rfl, hx => ⟨Zx, [], by simp, hx, rfl⟩
  | y :: l, _, ⟨Z1, Z2, rfl, h1, h2⟩, hx => ⟨Z1, Z2 ++ Zx, by rw [List.append_assoc], h1, h2.snoc hx⟩
theorem OwnL.mem {α : Type} {R : α → Atoms → Prop} {x : α} : ∀ {l : List α} {Z : Atoms}, OwnL R l Z → x ∈ l → ∃ Z1, Z1.Sublist Z ∧ R x Z1
  | y :: l, _, ⟨Z1, Z2, rfl, h1, h2⟩, hx => by
    rcases List.mem_cons.1 hx with rfl | hx
    · exact ⟨Z1, List.sublist_append_left _ _, h1⟩
    · obtain ⟨Z3, h3, h4⟩ := h2.mem hx
      exact ⟨Z3, h3.trans (List.sublist_append_right _ _), h4⟩
def OwnM (m : MV) (Z : Atoms) : Prop := ∃ p q r, Z = [p, q, r] ∧ OwnC 2 55 m.pa m.ps.length m.pc (typC m.ps) p ∧ OwnC 7 61 m.ca m.cl.length m.cc (m.cl.flatMap insL) q ∧ OwnC 4 66 m.ha m.hl.length m.hc (m.hl.flatMap HV.cells) r
def OwnK (c : CV) (Z : Atoms) : Prop := ∃ p q r Zm, Z = p :: q :: r :: Zm ∧ OwnC 1 9 c.ia c.ifs.length c.ic (c.ifs.map str) p ∧ OwnC 4 63 c.fa c.fl.length c.fc (c.fl.flatMap FV.cells) q ∧ OwnC 9 59 c.ma c.ml.length c.mc (c.ml.flatMap MV.cells) r ∧ OwnL OwnM c.ml Zm
def OwnAr (a : Option Addr) (k : Nat) (cl : List CV) (Z : Atoms) : Prop := ∃ p Zs, Z = p :: Zs ∧ OwnC 6 52 a cl.length k (cl.flatMap CV.cells) p ∧ OwnL OwnK cl Zs
theorem OwnM.rd {m : MV} {Z : Atoms} (h : OwnM m Z) : Rd Z fun H => MethF O H m := by
  obtain ⟨p, q, r, rfl, h1, h2, h3⟩ := h
  exact fun X H0 H hst => ⟨h1.rd (by simp) X H0 H hst, h2.rd (by simp) X H0 H hst, h3.rd (by simp) X H0 H hst⟩
theorem OwnK.rd {c : CV} {Z : Atoms} (h : OwnK c Z) : Rd Z fun H => ClsF O H c := by
  obtain ⟨p, q, r, Zm, rfl, h1, h2, h3, h4⟩ := h
  refine fun X H0 H hst => ⟨h1.rd (by simp) X H0 H hst, h2.rd (by simp) X H0 H hst, h3.rd (by simp) X H0 H hst, fun m hm => ?_⟩
  obtain ⟨Z1, hs, h5⟩ := h4.mem hm
  exact (h5.rd.mono (hs.trans (.cons _ (.cons _ (.cons _ (.refl _)))))) X H0 H hst
theorem OwnAr.rd {a : Option Addr} {k : Nat} {cl : List CV} {Z : Atoms} (h : OwnAr a k cl Z) : Rd Z fun H => ArcF O H a k cl := by
  obtain ⟨p, Zs, rfl, h1, h2⟩ := h
  refine fun X H0 H hst => ⟨h1.rd (by simp) X H0 H hst, fun c hc => ?_⟩
  obtain ⟨Z1, hs, h5⟩ := h2.mem hc
  exact (h5.rd.mono (hs.trans (.cons _ (.refl _)))) X H0 H hst
theorem OwnC.put {z ty n c : Nat} {a : Option Addr} {l : List Value} {p : Option Nat × Cont} (h : OwnC z ty a n c l p) (hn : 0 < n) : ∃ b ver, a = some ⟨b, 0, some ver⟩ ∧ p = (some b, .cells ver l z ty) ∧ l.length = n * z ∧ ∀ l', l'.length = n * z → OwnC z ty a n c l' (some b, .cells ver l' z ty) := by
  rcases h with h | ⟨b, ver, rfl, rfl, rfl, hl⟩
  · obtain ⟨b, ver, rfl, rfl, rfl, hl⟩ := h.inv hn
    exact ⟨b, ver, rfl, rfl, hl, fun l' h' => .inl (.own h')⟩
  · exact ⟨b, ver, rfl, rfl, hl, fun l' h' => .full h'⟩
theorem flat_set {α : Type} {f : α → List Value} {z : Nat} (hz : ∀ x, (f x).length = z) {l : List α} {i j : Nat} {x y : α} {v : Value} (h : l[i]? = some x) (hv : isCell v = true) (hj : j < z) (hy : f y = (f x).set j v) : wrL [v] (i * z + j) (l.flatMap f) = some ((l.set i y).flatMap f) := by
  obtain ⟨hi, rfl⟩ := List.getElem?_eq_some_iff.1 h
  have hlen : i * z + j < (l.flatMap f).length := by
    rw [flat_len hz]
    have := Nat.mul_le_mul_right z (show i + 1 ≤ l.length from hi)
    rw [Nat.add_mul, Nat.one_mul] at this
    omega
  rw [wrL_one hv hlen]
  congr 1
  apply List.ext_getElem?
  intro q
  have e1 : l.flatMap f = (l.take i).flatMap f ++ (f l[i] ++ (l.drop (i + 1)).flatMap f) := by
    conv => lhs; rw [← List.take_append_drop i l, List.drop_eq_getElem_cons hi]
    simp only [List.flatMap_append, List.flatMap_cons]
  have e2 : (l.set i y).flatMap f = (l.take i).flatMap f ++ (f y ++ (l.drop (i + 1)).flatMap f) := by
    rw [List.set_eq_take_append_cons_drop, if_pos hi]
    simp only [List.flatMap_append, List.flatMap_cons]
  have hA : ((l.take i).flatMap f).length = i * z := by rw [flat_len hz, List.length_take, Nat.min_eq_left (by omega)]
  rw [e2, hy, e1, List.set_append_right _ _ (by omega), hA, Nat.add_sub_cancel_left, List.set_append_left _ _ (by rw [hz]; exact hj)]
section
variable {T : Tab} {X : List Nat} {H0 : Heap} {E : Env} {L : Atoms}
theorem step_storeF {o : Oper} {t n b off ver esz ty : Nat} {a x : Operand} {v : Value} {l l' : List Value} {L' : Atoms} {k : Value → Atoms → Prop} (i : Nat) (ho : o.op = .store t a x) (ha : lk E a = some (.pointer (some ⟨b, off, some ver⟩))) (hx : lk E x = some v)
    (hi : L[i]? = some (some b, .cells ver l esz ty)) (hn : T.size t = some n) (hv : Nat.beq v.cells.size n = true) (hw : wrL v.cells.toList off l = some l') (hL : setT L i (some b, .cells ver l' esz ty) = some L')
    (h : k skipped L') : StepS T O X H0 E L o k := by
  obtain rfl := setT_eq hL
  exact step_store' i ho ha hx hi hn hv hw h
end
theorem perm_in {new fx a b : Atoms} : (new ++ (fx ++ (a ++ b))).Perm (fx ++ ((a ++ new) ++ b)) := by
  refine (List.perm_append_comm_assoc _ _ _).trans (List.Perm.append_left fx ?_)
  rw [← List.append_assoc]
  exact List.perm_append_comm.append_right b
theorem perm_in' {nw nw' fx a b : Atoms} (h : nw.Perm nw') : (nw ++ (fx ++ (a ++ b))).Perm (fx ++ ((a ++ nw') ++ b)) := (h.append_right _).trans perm_in
theorem perm_out {nw nw' fx a b : Atoms} (h : nw.Perm nw') : (nw ++ (fx ++ (a ++ b))).Perm (fx ++ (b ++ (nw' ++ a))) := by
  refine (List.perm_append_comm_assoc _ _ _).trans (List.Perm.append_left fx ?_)
  rw [← List.append_assoc]
  exact List.perm_append_comm.trans (List.Perm.append_left b (h.append_right a))
theorem flat_put {α : Type} {f : α → List Value} {z : Nat} (hz : ∀ x, (f x).length = z) {l l0 : List α} {i j : Nat} {x y : α} {v : Value} (hl : l = l0.set i x) (hi : i < l0.length) (hv : isCell v = true) (hj : Nat.blt j z = true) (hy : f y = (f x).set j v) : wrL [v] (0 + ((i : Nat) : Int).toNat * z + j) (l.flatMap f) = some ((l0.set i y).flatMap f) := by
  subst hl
  have h : (l0.set i x)[i]? = some x := by rw [List.getElem?_set]; simp [hi]
  have := flat_set hz h hv (Nat.le_of_ble_eq_true hj) hy
  rw [Nat.zero_add, Int.toNat_natCast, this, List.set_set]
theorem flat_look {α : Type} {f : α → List Value} {z : Nat} (hz : ∀ x, (f x).length = z) {l : List α} {i : Nat} {x : α} (h : l[i]? = some x) (j : Nat) (v : Value) (hv : (f x)[j]? = some v) : (l.flatMap f)[0 + ((i : Nat) : Int).toNat * z + j]? = some v := by
  rw [Nat.zero_add, Int.toNat_natCast]; exact flat_get hz h hv
end Go.Proofs.YtlhkndjloeoodaaGreat
namespace Go.Proofs.YtlhkndjloeoodaaGreat
open Go.Ev Go.Ev.Wk
variable {O : Old}
def twoR (l : List UInt8) (most : Int) : Int × Nat × Int :=
  match l with
  | b0 :: b1 :: _ => if ((b0.toNat + b1.toNat * 256 : Nat) : Int) > max most 0 then (0, 0, 22) else (((b0.toNat + b1.toNat * 256 : Nat) : Int), 2, 0)
  | _ => (0, 0, 20)
abbrev Pr (α : Type) := List UInt8 → Except Int (α × List UInt8)
def pRet {α : Type} (x : α) : Pr α := fun l => .ok (x, l)
def pBind {α β : Type} (p : Pr α) (f : α → Pr β) : Pr β := fun l => match p l with
  | .ok (x, l') => f x l'
  | .error e => .error e
def pNum (most : Int) : Pr Int := fun l => if (numR l most).2.2 ≠ 0 then .error (numR l most).2.2 else .ok ((numR l most).1, l.drop (numR l most).2.1.toNat)
def pInt : Pr Int := fun l => if (numR l 4294967295).2.2 ≠ 0 then .error (numR l 4294967295).2.2 else .ok (intOf (numR l 4294967295).1.toNat, l.drop (numR l 4294967295).2.1.toNat)
def pText (ts : List (List UInt8)) : Pr (List UInt8) := fun l => if (twoR l 65535).2.2 ≠ 0 then .error (twoR l 65535).2.2 else match ts[(twoR l 65535).1.toNat]? with
  | some s => .ok (s, l.drop 2)
  | none => .error 22
def pRep {α : Type} (p : Pr α) : Nat → Pr (List α)
  | 0 => pRet []
  | n + 1 => pBind p fun x => pBind (pRep p n) fun xs => pRet (x :: xs)
def pList {α : Type} (most : Int) (p : Pr α) : Pr (List α) := pBind (pNum most) fun n => pRep p n.toNat
def pIns (ts : List (List UInt8)) : Pr Ins := pBind (pNum 43) fun o =>
  if usesZ o = 1 then pBind pInt fun n => pRet ⟨o, n, 0, [], [], [], []⟩
  else if usesZ o = 2 then pBind (pText ts) fun s => pRet ⟨o, 0, 0, s, [], [], []⟩
  else if usesZ o = 3 then pBind (pNum 2000) fun k => pRet ⟨o, 0, k, [], [], [], []⟩
  else if usesZ o = 4 then pBind (pText ts) fun c => pBind (pText ts) fun n => pRet ⟨o, 0, 0, [], c, n, []⟩
  else if usesZ o = 5 then pBind (pText ts) fun c => pBind (pText ts) fun n => pBind (pText ts) fun d => pRet ⟨o, 0, 0, [], c, n, d⟩
  else if usesZ o = 6 then pBind (pText ts) fun c => pRet ⟨o, 0, 0, [], c, [], []⟩
  else pRet ⟨o, 0, 0, [], [], [], []⟩
def pHan (ts : List (List UInt8)) : Pr HV := pBind (pNum 2000) fun a => pBind (pNum 2000) fun b => pBind (pNum 2000) fun c => pBind (pText ts) fun s => pRet ⟨a, b, c, s⟩
def pField (ts : List (List UInt8)) : Pr FV := pBind (pText ts) fun n => pBind (pText ts) fun t => pBind (pNum 1) fun s => pRet ⟨n, (oneC t).1.1, (oneC t).1.2, s == 1⟩
def pMeth (ts : List (List UInt8)) : Pr PM := pBind (pText ts) fun n => pBind (pText ts) fun d => pBind (pNum 3) fun f => pBind (pNum 200) fun k => pBind (pList 2000 (pIns ts)) fun cl => pBind (pList 50 (pHan ts)) fun hl =>
  pRet ⟨n, (parseC d).1, (parseC d).2.1.1, (parseC d).2.1.2, decide (f.toNat % 2 = 1), decide (f.toNat / 2 % 2 = 1), k, cl, hl⟩
def pCls (ts : List (List UInt8)) : Pr PC := pBind (pText ts) fun n => pBind (pText ts) fun s => pBind (pList 20 (pText ts)) fun ifs => pBind (pNum 4) fun k => pBind (pList 100 (pField ts)) fun fl => pBind (pList 100 (pMeth ts)) fun ml => pRet ⟨n, s, ifs, k, fl, ml⟩
def pArc (ts : List (List UInt8)) : Pr (List PC) := pList 400 (pCls ts)
def readA (b : List UInt8) : List PC × Int :=
  if b.take 4 ≠ magicB then ([], 21)
  else if (poolR (b.drop 4)).1 ≠ 0 then ([], (poolR (b.drop 4)).1)
  else match pArc (poolR (b.drop 4)).2.1 (poolR (b.drop 4)).2.2 with
    | .error e => ([], e)
    | .ok (cl, r) => if r = [] ∧ rightA cl = true then (cl, 0) else ([], 21)
abbrev RSt := Except Int (List UInt8)
def Goes {α : Type} (p : Pr α) (s : RSt) (x : α) (s' : RSt) : Prop :=
  match s with
  | .error e => s' = .error e
  | .ok l => match p l with
    | .ok (y, l') => x = y ∧ s' = .ok l'
    | .error e => s' = .error e
theorem Goes.ret {α : Type} (x : α) (s : RSt) : Goes (pRet x) s x s := by
  cases s <;> simp [Goes, pRet]
theorem Goes.bind {α β : Type} {p : Pr α} {f : α → Pr β} {s s1 s2 : RSt} {x : α} {y : β} (h1 : Goes p s x s1) (h2 : Goes (f x) s1 y s2) : Goes (pBind p f) s y s2 := by
  cases s with
  | error e =>
    have h1 : s1 = .error e := h1
    subst h1
    exact h2
  | ok l =>
    simp only [Goes, pBind] at h1 ⊢
    cases hp : p l with
    | error e =>
      rw [hp] at h1
      subst h1
      exact h2
    | ok q =>
      obtain ⟨y', l'⟩ := q
      rw [hp] at h1
      obtain ⟨rfl, rfl⟩ := h1
      exact h2
theorem Goes.bindR {α β : Type} {p : Pr α} {f : α → β} {s s1 : RSt} {x : α} (h1 : Goes p s x s1) : Goes (pBind p fun x => pRet (f x)) s (f x) s1 := h1.bind (Goes.ret _ _)
theorem Goes.ok {α : Type} {p : Pr α} {l : List UInt8} {x : α} {s' : RSt} (h : Goes p (.ok l) x s') : (∃ l', p l = .ok (x, l') ∧ s' = .ok l') ∨ ∃ e, p l = .error e ∧ s' = .error e := by
  simp only [Goes] at h
  cases hp : p l with
  | error e => rw [hp] at h; exact .inr ⟨e, rfl, h⟩
  | ok q =>
    obtain ⟨y, l'⟩ := q
    rw [hp] at h
    obtain ⟨rfl, rfl⟩ := h
    exact .inl ⟨l', rfl, rfl⟩
def NoZ (s : RSt) : Prop := ∀ e, s = .error e → e ≠ 0
end Go.Proofs.YtlhkndjloeoodaaGreat
namespace Go.Proofs.YtlhkndjloeoodaaGreat
open Go.Ev Go.Ev.Wk
variable {O : Old}
set_option maxHeartbeats 8000000 in
set_option maxRecDepth 100000 in
theorem twoM_ok {H : Heap} {rb : Nat} {a : Option Addr} {n c : Nat} {l : List UInt8} {b0 b1 : UInt8} {most : Int} (hh : Has H rb (rdr a n c 0)) (hlt : rb < H.next) (hs0 : SlX [rb] O H (.slice a n c) 1 n ((b0 :: b1 :: l).map by8)) (hn : n ≤ 1073741824) :
    CallC TT O 136 [.pointer (some ⟨rb, 0, some 0⟩), .int .i64 most] H fun v H' => ∃ ct', ExtBut [rb] H H' ∧ Has H' rb ct' ∧
      (if ((b0.toNat + b1.toNat * 256 : Nat) : Int) > max most 0 then ct' = rdr a n c 22 ∧ v = .int .i64 0 else ct' = rdr (cutAddr a 1 c 2) (n - 2) (cutCap' a c 2) 0 ∧ v = .int .i64 ((b0.toNat + b1.toNat * 256 : Nat) : Int)) := by
  have hln : l.length + 2 = n := by have := (hs0 H (ExtBut.refl _ _)).1; simpa using this
  have hb0 : b0.toNat ≤ 255 := by have := b0.toNat_lt; omega
  have hb1 : b1.toNat ≤ 255 := by have := b1.toNat_lt; omega
  refine call_mut rfl rfl rfl rfl rfl hh hlt ?_
  repeat (first | refine zrm ?_ | (refine zn ?_; intro _))
  rw [show decide ((n : Int) < 2) = false from by simp; omega]
  repeat (first | refine zrm ?_ | (refine zn ?_; intro _))
  refine exec_draw (lst := [(0, 0), (1, 1), (2, 3), (3, 7), (4, 15), (5, 31), (6, 63), (7, 0), (8, 128), (9, 384), (10, 896), (11, 1920), (12, 3968), (13, 8064), (14, 16256), (15, 32767), (16, 65535)]) (full := 131071) (by kernel_rfl) (by kernel_rfl) (by kernel_rfl) (by kernel_rfl) ?_
  repeat (first | refine zdm ?_)
  try refine draw_nil ?_
  (first | apply ops_pl rfl rfl rfl ?_ rfl ?_ | apply draw_pl rfl rfl rfl rfl ?_ rfl rfl ?_); rotate_left; focus exact (.p rfl (opP_idx rfl rfl (hs0 H (ExtBut.refl _ _)) rfl rfl (by omega) (by omega)))
  repeat (first | refine zdm ?_)
  try refine draw_nil ?_
  (first | apply ops_pl rfl rfl rfl ?_ rfl ?_ | apply draw_pl rfl rfl rfl rfl ?_ rfl rfl ?_); rotate_left; focus exact (.l rfl (fun H hs => opL_load rfl ((hs0.at hs).ld rfl (by simp; rfl))))
  repeat (first | refine zdm ?_)
  try refine draw_nil ?_
  (first | apply ops_pl rfl rfl rfl ?_ rfl ?_ | apply draw_pl rfl rfl rfl rfl ?_ rfl rfl ?_); rotate_left; focus exact (.p rfl (opP_idx rfl rfl (hs0 H (ExtBut.refl _ _)) rfl rfl (by omega) (by omega)))
  repeat (first | refine zdm ?_)
  try refine draw_nil ?_
  (first | apply ops_pl rfl rfl rfl ?_ rfl ?_ | apply draw_pl rfl rfl rfl rfl ?_ rfl rfl ?_); rotate_left; focus exact (.l rfl (fun H hs => opL_load rfl ((hs0.at hs).ld rfl (by simp; rfl))))
  repeat (first | refine zdm ?_)
  try refine draw_nil ?_
  rw [shl_raw (a := b1.toNat) (s := 8) (b := 8) rfl (by omega) (by omega), or_i64 (s := 8) (by omega) (by omega), show b1.toNat * 2 ^ 8 = b1.toNat * 256 from by omega]
  generalize hx : b0.toNat + b1.toNat * 256 = x
  repeat (first | refine zrm ?_ | (refine zn ?_; intro _))
  refine exec_cond rfl (fun hgt => ?_) (fun hle => ?_)
  · repeat (first | refine zrm ?_ | (refine zn ?_; intro _))
    refine ⟨trivial, _, rfl, _, .head _, ?_⟩
    rw [if_pos (by simpa using hgt)]
    exact ⟨rfl, rfl⟩
  · repeat (first | refine zrm ?_ | (refine zn ?_; intro _))
    (first | apply ops_pl rfl rfl rfl ?_ rfl ?_ | apply draw_pl rfl rfl rfl rfl ?_ rfl rfl ?_); rotate_left; focus exact (.l rfl (look_cut (l := 2) (h := n) rfl rfl rfl rfl (by omega) rfl (by omega) (fun H hs => hs0.at hs) rfl rfl (by omega) (by omega)))
    repeat (first | refine zrm ?_ | (refine zn ?_; intro _))
    refine ⟨trivial, _, rfl, _, .head _, ?_⟩
    rw [if_neg (by simpa using hle)]
    exact ⟨rfl, rfl⟩
end Go.Proofs.YtlhkndjloeoodaaGreat
namespace Go.Proofs.YtlhkndjloeoodaaGreat
open Go.Ev Go.Ev.Wk
variable {O : Old}
set_option maxHeartbeats 8000000 in
set_option maxRecDepth 100000 in
theorem textErr_ok {H : Heap} {rb : Nat} {a : Option Addr} {n c : Nat} {e most : Int} (hh : Has H rb (rdr a n c e)) (hlt : rb < H.next) (he : e ≠ 0) :
    CallC TT O 99 [.pointer (some ⟨rb, 0, some 0⟩), .int .i64 most] H fun v H' => ∃ ct', ExtBut [rb] H H' ∧ Has H' rb ct' ∧ (ct' = rdr a n c e ∧ v = str []) := by
  refine call_mut rfl rfl rfl rfl rfl hh hlt ?_
  repeat (first | refine zrm ?_ | (refine zn ?_; intro _))
  have hne : (e != 0) = true := by simpa using he
  rw [hne]
  repeat (first | refine zrm ?_ | (refine zn ?_; intro _))
  exact ⟨trivial, _, rfl, _, .head _, rfl, rfl⟩
set_option maxHeartbeats 8000000 in
set_option maxRecDepth 100000 in
theorem twoErr_ok {H : Heap} {rb : Nat} {a : Option Addr} {n c : Nat} {e most : Int} (hh : Has H rb (rdr a n c e)) (hlt : rb < H.next) (he : e ≠ 0) :
    CallC TT O 136 [.pointer (some ⟨rb, 0, some 0⟩), .int .i64 most] H fun v H' => ∃ ct', ExtBut [rb] H H' ∧ Has H' rb ct' ∧ (ct' = rdr a n c e ∧ v = .int .i64 0) := by
  refine call_mut rfl rfl rfl rfl rfl hh hlt ?_
  repeat (first | refine zrm ?_ | (refine zn ?_; intro _))
  have hne : (e != 0) = true := by simpa using he
  rw [hne]
  repeat (first | refine zrm ?_ | (refine zn ?_; intro _))
  exact ⟨trivial, _, rfl, _, .head _, rfl, rfl⟩
end Go.Proofs.YtlhkndjloeoodaaGreat
namespace Go.Proofs.YtlhkndjloeoodaaGreat
open Go.Ev Go.Ev.Wk
variable {O : Old}
set_option maxHeartbeats 8000000 in
set_option maxRecDepth 100000 in
theorem twoShort_ok {H : Heap} {rb : Nat} {a : Option Addr} {n c : Nat} {most : Int} (hh : Has H rb (rdr a n c 0)) (hlt : rb < H.next) (hn : n < 2) :
    CallC TT O 136 [.pointer (some ⟨rb, 0, some 0⟩), .int .i64 most] H fun v H' => ∃ ct', ExtBut [rb] H H' ∧ Has H' rb ct' ∧ (ct' = rdr a n c 20 ∧ v = .int .i64 0) := by
  refine call_mut rfl rfl rfl rfl rfl hh hlt ?_
  repeat (first | refine zr ?_ | (refine zn ?_; intro _))
  rw [show decide ((n : Int) < 2) = true from by simp; omega]
  repeat (first | refine zr ?_ | (refine zn ?_; intro _))
  exact ⟨trivial, _, rfl, _, .head _, rfl, rfl⟩
theorem twoG_ok {H : Heap} {rb : Nat} {a : Option Addr} {n c : Nat} {l : List UInt8} {most : Int} (hh : Has H rb (rdr a n c 0)) (hlt : rb < H.next) (hs0 : SlX [rb] O H (.slice a n c) 1 n (l.map by8)) (hn : n ≤ 1073741824) :
    CallC TT O 136 [.pointer (some ⟨rb, 0, some 0⟩), .int .i64 most] H fun v H' => ∃ ct', ExtBut [rb] H H' ∧ Has H' rb ct' ∧ ∃ a' n' c', (ct' = rdr a' n' c' (twoR l most).2.2 ∧ v = .int .i64 (twoR l most).1 ∧ ((twoR l most).2.2 = 0 → a' = cutAddr a 1 c (twoR l most).2.1 ∧ n' = n - (twoR l most).2.1 ∧ c' = cutCap' a c (twoR l most).2.1)) := by
  have hln : l.length = n := by have := (hs0 H (ExtBut.refl _ _)).1; simpa using this
  match l, hs0, hln with
  | [], hs0, hln =>
    refine (twoShort_ok hh hlt (by simp at hln; omega)).mono ?_
    rintro v H' ⟨ct', g1, g2, g3, g4⟩
    exact ⟨ct', g1, g2, a, n, c, g3, g4, fun (h : (20 : Int) = 0) => absurd h (by decide)⟩
  | [b0], hs0, hln =>
    refine (twoShort_ok hh hlt (by simp at hln; omega)).mono ?_
    rintro v H' ⟨ct', g1, g2, g3, g4⟩
    exact ⟨ct', g1, g2, a, n, c, g3, g4, fun (h : (20 : Int) = 0) => absurd h (by decide)⟩
  | b0 :: b1 :: l, hs0, hln =>
    refine (twoM_ok (most := most) hh hlt hs0 hn).mono ?_
    rintro v H' ⟨ct', g1, g2, g3⟩
    by_cases h : ((b0.toNat + b1.toNat * 256 : Nat) : Int) > max most 0
    · rw [if_pos h] at g3
      refine ⟨ct', g1, g2, a, n, c, ?_⟩
      rw [twoR, if_pos h]
      exact ⟨g3.1, g3.2, fun h => absurd h (by decide)⟩
    · rw [if_neg h] at g3
      refine ⟨ct', g1, g2, cutAddr a 1 c 2, n - 2, cutCap' a c 2, ?_⟩
      rw [twoR, if_neg h]
      exact ⟨g3.1, g3.2, fun _ => ⟨rfl, rfl, rfl⟩⟩
def Part (O : Old) (Bv : Value) (N : Nat) (bs : List UInt8) (a : Option Addr) (n c : Nat) (l : List UInt8) : Prop := n ≤ N ∧ ∀ H', Sl O H' Bv 1 N (bs.map by8) → Sl O H' (.slice a n c) 1 n (l.map by8)
theorem Part.cut {Bv : Value} {N : Nat} {bs : List UInt8} {a : Option Addr} {n c k : Nat} {l : List UInt8} (h : Part O Bv N bs a n c l) (hl : l.length = n) (hk : k ≤ n) : Part O Bv N bs (cutAddr a 1 c k) (n - k) (cutCap' a c k) (l.drop k) :=
  ⟨by have := h.1; omega, fun H' hH => by
    have := (h.2 H' hH).cutM hk (Nat.le_refl n)
    rwa [List.take_of_length_le (by rw [List.length_drop]; omega)] at this⟩
abbrev US := List UInt8 × Int
def uNum (most : Int) (s : US) : Int × US := if s.2 ≠ 0 then (0, s) else ((numR s.1 most).1, (s.1.drop (numR s.1 most).2.1.toNat, (numR s.1 most).2.2))
def uInt (s : US) : Int × US := if s.2 ≠ 0 then (0, s) else (intOf (numR s.1 4294967295).1.toNat, (s.1.drop (numR s.1 4294967295).2.1.toNat, (numR s.1 4294967295).2.2))
def uTwo (most : Int) (s : US) : Int × US := if s.2 ≠ 0 then (0, s) else ((twoR s.1 most).1, (s.1.drop (twoR s.1 most).2.1, (twoR s.1 most).2.2))
def RbC (O : Old) (Bv : Value) (N : Nat) (bs : List UInt8) (s : US) (ct : Cont) : Prop := ∃ a n c, ct = rdr a n c s.2 ∧ (s.2 = 0 → Part O Bv N bs a n c s.1)
section
variable {H : Heap} {rb N : Nat} {Bv : Value} {bs : List UInt8} {s : US} {ct : Cont} {most : Int}
abbrev RbK (O : Old) (H : Heap) (rb : Nat) (Bv : Value) (N : Nat) (bs : List UInt8) : Prop := N ≤ 1073741824 ∧ Keep [rb] H fun H' => Sl O H' Bv 1 N (bs.map by8)
theorem uNum_ok (hh : Has H rb ct) (hlt : rb < H.next) (hct : RbC O Bv N bs s ct) (hB : RbK O H rb Bv N bs) :
    CallC TT O 97 [ptr rb, .int .i64 most] H fun v H' => ∃ ct', ExtBut [rb] H H' ∧ Has H' rb ct' ∧ (RbC O Bv N bs (uNum most s).2 ct' ∧ v = .int .i64 (uNum most s).1) := by
  obtain ⟨l, e⟩ := s
  obtain ⟨a, n, c, rfl, hp⟩ := hct
  by_cases he : e = 0
  · subst he
    have hp := hp rfl
    have hs0 : SlX [rb] O H (.slice a n c) 1 n (l.map by8) := fun H' e => hp.2 H' (hB.2 H' e)
    have hln : l.length = n := by have := (hs0 H (ExtBut.refl _ _)).1; simpa using this
    obtain ⟨x, k, e', hr, hk, h0, he0⟩ := numR_len l most
    refine (numM_ok hh hlt hs0 (Nat.le_trans hp.1 hB.1) hr).mono ?_
    rintro v H' ⟨ct', g1, g2, g3, g4⟩
    refine ⟨ct', g1, g2, ⟨cutAddr a 1 c k, n - k, cutCap' a c k, ?_, fun _ => ?_⟩, ?_⟩
    · rw [g3]; simp only [uNum, hr, ne_eq, not_true_eq_false, if_false]
    · simp only [uNum, hr, ne_eq, not_true_eq_false, if_false, Int.toNat_natCast]; exact hp.cut hln (by omega)
    · rw [g4]; simp only [uNum, hr, ne_eq, not_true_eq_false, if_false]
  · refine (numErr_ok hh hlt he).mono ?_
    rintro v H' ⟨ct', g1, g2, g3, g4⟩
    refine ⟨ct', g1, g2, ⟨a, n, c, ?_, fun h => ?_⟩, ?_⟩
    · rw [g3]; simp only [uNum, ne_eq, he, not_false_eq_true, if_true]
    · simp only [uNum, ne_eq, he, not_false_eq_true, if_true] at h
    · rw [g4]; simp only [uNum, ne_eq, he, not_false_eq_true, if_true]
theorem uInt_ok (hh : Has H rb ct) (hlt : rb < H.next) (hct : RbC O Bv N bs s ct) (hB : RbK O H rb Bv N bs) :
    CallC TT O 176 [ptr rb] H fun v H' => ∃ ct', ExtBut [rb] H H' ∧ Has H' rb ct' ∧ (RbC O Bv N bs (uInt s).2 ct' ∧ v = .int .i32 (uInt s).1) := by
  obtain ⟨l, e⟩ := s
  obtain ⟨a, n, c, rfl, hp⟩ := hct
  by_cases he : e = 0
  · subst he
    have hp := hp rfl
    have hs0 : SlX [rb] O H (.slice a n c) 1 n (l.map by8) := fun H' e => hp.2 H' (hB.2 H' e)
    have hln : l.length = n := by have := (hs0 H (ExtBut.refl _ _)).1; simpa using this
    obtain ⟨x, k, e', hr, hk, hx⟩ : ∃ (x k : Nat) (e' : Int), numR l 4294967295 = ((x : Int), (k : Int), e') ∧ k ≤ l.length ∧ x ≤ 4294967295 := by
      rcases numR_cases l 4294967295 with ⟨x, k, h1, h2, h3, h4⟩ | ⟨e, h1, h2, h3⟩
      · exact ⟨x, k, 0, h1, h3, by omega⟩
      · exact ⟨0, 0, e, h3, by omega, by omega⟩
    refine (intM_ok hh hlt hs0 (Nat.le_trans hp.1 hB.1) hr hx).mono ?_
    rintro v H' ⟨ct', g1, g2, g3, g4⟩
    refine ⟨ct', g1, g2, ⟨cutAddr a 1 c k, n - k, cutCap' a c k, ?_, fun _ => ?_⟩, ?_⟩
    · rw [g3]; simp only [uInt, hr, ne_eq, not_true_eq_false, if_false]
    · simp only [uInt, hr, ne_eq, not_true_eq_false, if_false, Int.toNat_natCast]; exact hp.cut hln (by omega)
    · rw [g4]; simp only [uInt, hr, ne_eq, not_true_eq_false, if_false, Int.toNat_natCast]
  · refine (intErr_ok hh hlt he).mono ?_
    rintro v H' ⟨ct', g1, g2, g3, g4⟩
    refine ⟨ct', g1, g2, ⟨a, n, c, ?_, fun h => ?_⟩, ?_⟩
    · rw [g3]; simp only [uInt, ne_eq, he, not_false_eq_true, if_true]
    · simp only [uInt, ne_eq, he, not_false_eq_true, if_true] at h
    · rw [g4]; simp only [uInt, ne_eq, he, not_false_eq_true, if_true]
theorem twoR_len (l : List UInt8) (most : Int) : (twoR l most).2.1 ≤ l.length := by
  match l with
  | [] => simp [twoR]
  | [_] => simp [twoR]
  | b0 :: b1 :: l => simp only [twoR]; split <;> simp
theorem uTwo_ok (hh : Has H rb ct) (hlt : rb < H.next) (hct : RbC O Bv N bs s ct) (hB : RbK O H rb Bv N bs) :
    CallC TT O 136 [ptr rb, .int .i64 most] H fun v H' => ∃ ct', ExtBut [rb] H H' ∧ Has H' rb ct' ∧ (RbC O Bv N bs (uTwo most s).2 ct' ∧ v = .int .i64 (uTwo most s).1) := by
  obtain ⟨l, e⟩ := s
  obtain ⟨a, n, c, rfl, hp⟩ := hct
  by_cases he : e = 0
  · subst he
    have hp := hp rfl
    have hs0 : SlX [rb] O H (.slice a n c) 1 n (l.map by8) := fun H' e => hp.2 H' (hB.2 H' e)
    have hln : l.length = n := by have := (hs0 H (ExtBut.refl _ _)).1; simpa using this
    have h2 := twoR_len l most
    refine (twoG_ok (most := most) hh hlt hs0 (Nat.le_trans hp.1 hB.1)).mono ?_
    rintro v H' ⟨ct', g1, g2, a', n', c', g3, g4, g5⟩
    refine ⟨ct', g1, g2, ⟨a', n', c', ?_, fun h => ?_⟩, ?_⟩
    · rw [g3]; simp only [uTwo, ne_eq, not_true_eq_false, if_false]
    · simp only [uTwo, ne_eq, not_true_eq_false, if_false] at h ⊢
      obtain ⟨rfl, rfl, rfl⟩ := g5 h
      exact hp.cut hln (by omega)
    · rw [g4]; simp only [uTwo, ne_eq, not_true_eq_false, if_false]
  · refine (twoErr_ok hh hlt he).mono ?_
    rintro v H' ⟨ct', g1, g2, g3, g4⟩
    refine ⟨ct', g1, g2, ⟨a, n, c, ?_, fun h => ?_⟩, ?_⟩
    · rw [g3]; simp only [uTwo, ne_eq, he, not_false_eq_true, if_true]
    · simp only [uTwo, ne_eq, he, not_false_eq_true, if_true] at h
    · rw [g4]; simp only [uTwo, ne_eq, he, not_false_eq_true, if_true]
end
def sig (nn : Bool) (s : US) : RSt := if nn = true then .error 22 else if s.2 ≠ 0 then .error s.2 else .ok s.1
theorem goes_num {most : Int} (nn : Bool) (s : US) : Goes (pNum most) (sig nn s) (uNum most s).1 (sig nn (uNum most s).2) := by
  cases nn
  · by_cases h : s.2 = 0
    · by_cases h2 : (numR s.1 most).2.2 = 0 <;> simp [sig, h, Goes, pNum, uNum, h2]
    · simp [sig, h, Goes, uNum]
  · simp [sig, Goes]
theorem goes_int (nn : Bool) (s : US) : Goes pInt (sig nn s) (uInt s).1 (sig nn (uInt s).2) := by
  cases nn
  · by_cases h : s.2 = 0
    · by_cases h2 : (numR s.1 4294967295).2.2 = 0 <;> simp [sig, h, Goes, pInt, uInt, h2]
    · simp [sig, h, Goes, uInt]
  · simp [sig, Goes]
abbrev xrA (xb rb pb : Nat) (ok nn : Bool) : Option Nat × Cont := (some xb, .cells 0 [ptr rb, ptr pb, .bool ok, .bool nn] 0 123)
def RdF (O : Old) (Bv : Value) (N : Nat) (bs : List UInt8) (xb rb pb : Nat) (ts : List (List UInt8)) (σ : RSt) (ok : Bool) (F : Atoms) : Prop :=
  ∃ (s : US) (nn : Bool) (ct : Cont) (Fp : Atoms), F = xrA xb rb pb ok nn :: (some rb, ct) :: Fp ∧ RbC O Bv N bs s ct ∧ PoolF pb ts Fp ∧ σ = sig nn s
abbrev RdK (O : Old) (H : Heap) (F : Atoms) (Bv : Value) (N : Nat) (bs : List UInt8) : Prop := N ≤ 1073741824 ∧ Keep (blksOf F) H fun H' => Sl O H' Bv 1 N (bs.map by8)
theorem RdK.rb {H0 H : Heap} {L F : Atoms} {Bv : Value} {N rb : Nat} {bs : List UInt8} {ct : Cont} (h : RdK O H0 F Bv N bs) (hs : St (blksOf F) H0 H L) {i : Nat} (hi : L[i]? = some (some rb, ct)) : RbK O H rb Bv N bs :=
  ⟨h.1, h.2.app hs hi⟩
def errZ (σ : RSt) : Int := match σ with | .ok _ => 0 | .error e => e
theorem errZ_sig (nn : Bool) (s : US) : errZ (sig nn s) = if nn = true then 22 else s.2 := by
  cases nn
  · by_cases h : s.2 = 0 <;> simp [sig, errZ, h]
  · simp [sig, errZ]
set_option maxHeartbeats 8000000 in
set_option maxRecDepth 100000 in
theorem rerr_ok {H : Heap} {xb rb pb N : Nat} {Bv : Value} {bs : List UInt8} {ts : List (List UInt8)} {σ : RSt} {ok : Bool} {F : Atoms} (hst : St (blksOf F) H H F) (hF : RdF O Bv N bs xb rb pb ts σ ok F) :
    FpC TT O 60 [ptr xb] H F fun v F' => F' = F ∧ v = .int .i64 (errZ σ) := by
  obtain ⟨s, nn, ct, Fp, rfl, hct, hP, rfl⟩ := hF
  rw [errZ_sig]
  refine call_fp rfl rfl rfl rfl rfl hst ?_
  cases nn
  · repeat (first | refine zr ?_ | (refine zn ?_; intro _))
    obtain ⟨a, n, c, rfl, hp⟩ := hct
    refine ops_step rfl rfl rfl (step_call_mut 1 rfl rfl rfl rfl (fun H hs hh hlt => err_ok hh hlt) (fun v ct h => ?_))
    obtain ⟨rfl, rfl⟩ := h
    repeat (first | refine zr ?_ | (refine zn ?_; intro _))
    exact ⟨trivial, _, rfl, _, [], List.Perm.of_eq (List.append_nil _).symm, rfl, rfl⟩
  · repeat (first | refine zr ?_ | (refine zn ?_; intro _))
    exact ⟨trivial, _, rfl, _, [], List.Perm.of_eq (List.append_nil _).symm, rfl, rfl⟩
theorem twoR_cases (l : List UInt8) (k : Nat) : (twoR l 65535 = (0, 0, 20) ∧ ∀ m, twoR l m = (0, 0, 20)) ∨ ∃ v : Nat, v ≤ 65535 ∧ twoR l 65535 = ((v : Int), 2, 0) ∧ twoR l (k : Int) = if k < v then (0, 0, 22) else ((v : Int), 2, 0) := by
  match l with
  | [] => exact .inl ⟨rfl, fun _ => rfl⟩
  | [_] => exact .inl ⟨rfl, fun _ => rfl⟩
  | b0 :: b1 :: l =>
    have h0 := b0.toNat_lt
    have h1 := b1.toNat_lt
    refine .inr ⟨b0.toNat + b1.toNat * 256, by omega, ?_, ?_⟩
    · simp only [twoR]
      rw [if_neg (by omega)]
    · simp only [twoR]
      by_cases h : k < b0.toNat + b1.toNat * 256
      · rw [if_pos h, if_pos (by omega)]
      · rw [if_neg h, if_neg (by omega)]
theorem goes_none (nn : Bool) (s : US) : Goes (pText []) (sig nn s) [] (sig (nn || (uTwo 65535 s).2.2 == 0) (uTwo 65535 s).2) := by
  cases nn
  · obtain ⟨l, e⟩ := s
    by_cases h : e = 0
    · subst h
      rcases twoR_cases l 0 with ⟨h1, -⟩ | ⟨v, -, h1, -⟩
      · simp [sig, Goes, pText, uTwo, h1]
      · simp [sig, Goes, pText, uTwo, h1]
    · simp [sig, h, Goes, uTwo]
  · simp [sig, Goes]
theorem goes_text {ts : List (List UInt8)} (nn : Bool) (s : US) {k : Nat} {x : List UInt8} (hk : ts.length = k + 1) (hx : ts[(uTwo (k : Int) s).1.toNat]? = some x) : Goes (pText ts) (sig nn s) x (sig nn (uTwo (k : Int) s).2) := by
  cases nn
  · obtain ⟨l, e⟩ := s
    by_cases h : e = 0
    · subst h
      rcases twoR_cases l k with ⟨h1, h2⟩ | ⟨v, hv, h1, h2⟩
      · simp [sig, Goes, pText, uTwo, h1, h2]
      · by_cases hkv : k < v
        · rw [if_pos hkv] at h2
          have : ts[v]? = none := List.getElem?_eq_none (by omega)
          simp [sig, Goes, pText, uTwo, h1, h2, this]
        · rw [if_neg hkv] at h2
          simp only [uTwo, ne_eq, not_true_eq_false, if_false, h2, Int.toNat_natCast] at hx
          simp [sig, Goes, pText, uTwo, h1, h2, hx]
    · simp [sig, h, Goes, uTwo]
  · simp [sig, Goes]
theorem uTwo_range (k : Nat) (s : US) : 0 ≤ (uTwo (k : Int) s).1 ∧ (uTwo (k : Int) s).1 ≤ k := by
  obtain ⟨l, e⟩ := s
  by_cases h : e = 0
  · subst h
    rcases twoR_cases l k with ⟨h1, h2⟩ | ⟨v, hv, h1, h2⟩
    · simp [uTwo, h2]
    · by_cases hkv : k < v
      · rw [if_pos hkv] at h2; simp [uTwo, h2]
      · rw [if_neg hkv] at h2; simp [uTwo, h2]; omega
  · simp [uTwo, h]
set_option maxHeartbeats 8000000 in
set_option maxRecDepth 100000 in
theorem rtext_ok {H : Heap} {xb rb pb N : Nat} {Bv : Value} {bs : List UInt8} {ts : List (List UInt8)} {σ : RSt} {ok : Bool} {F : Atoms} (hst : St (blksOf F) H H F) (hF : RdF O Bv N bs xb rb pb ts σ ok F) (hB : RdK O H F Bv N bs) (hts : ∀ t ∈ ts, t.length ≤ 1000) (htn : ts.length ≤ 10000) :
    FpC TT O 100 [ptr xb] H F fun v F' => ∃ x σ', v = str x ∧ x.length ≤ 1000 ∧ RdF O Bv N bs xb rb pb ts σ' ok F' ∧ Goes (pText ts) σ x σ' := by
  obtain ⟨s, nn, ct, Fp, rfl, hct, hP, rfl⟩ := hF
  refine call_fp rfl rfl rfl rfl rfl hst ?_
  repeat (first | refine zr ?_ | (refine zn ?_; intro _))
  refine ops_step rfl rfl rfl (step_call_fp2 rfl rfl rfl (fun H hs hst => poolLen_ok hst hP) (fun v2 F2 h2 => ?_))
  obtain ⟨hP2, rfl⟩ := h2
  repeat (first | refine zr ?_ | (refine zn ?_; intro _))
  by_cases h0 : ts.length = 0
  · have hts0 : ts = [] := List.length_eq_zero_iff.1 h0
    subst hts0
    repeat (first | refine zr ?_ | (refine zn ?_; intro _))
    refine ops_step rfl rfl rfl (step_call_mut 1 rfl rfl rfl rfl (fun H hs hh hlt => uTwo_ok (most := 65535) hh hlt hct (hB.rb hs (i := 1) rfl)) (fun v ct h => ?_))
    obtain ⟨hct2, rfl⟩ := h
    have hg := goes_none nn s
    revert hct2 hg
    generalize uTwo 65535 s = u
    obtain ⟨z, l', e'⟩ := u
    intro hct2 hg
    repeat (first | refine zr ?_ | (refine zn ?_; intro _))
    cases nn
    · obtain ⟨a, n, c, rfl, hp⟩ := hct2
      repeat (first | refine zr ?_ | (refine zn ?_; intro _))
      refine ops_step rfl rfl rfl (step_call_mut 1 rfl rfl rfl rfl (fun H hs hh hlt => err_ok hh hlt) (fun v ct h => ?_))
      obtain ⟨rfl, rfl⟩ := h
      repeat (first | refine zr ?_ | (refine zn ?_; intro _))
      exact ⟨trivial, _, rfl, _, [], List.Perm.of_eq (List.append_nil _).symm, [], _, rfl, by simp, ⟨(l', e'), _, _, _, rfl, ⟨a, n, c, rfl, hp⟩, hP2, rfl⟩, hg⟩
    · repeat (first | refine zr ?_ | (refine zn ?_; intro _))
      exact ⟨trivial, _, rfl, _, [], List.Perm.of_eq (List.append_nil _).symm, [], _, rfl, by simp, ⟨(l', e'), _, _, _, rfl, hct2, hP2, rfl⟩, hg⟩
  · obtain ⟨k, hk⟩ : ∃ k, ts.length = k + 1 := ⟨ts.length - 1, by omega⟩
    rw [show decide ((ts.length : Int) - 1 < 0) = false from decide_eq_false (by omega)]
    rw [show ((ts.length : Int) - 1) = (k : Int) from by omega]
    obtain ⟨hr0, hr1⟩ := uTwo_range k s
    obtain ⟨x, hx⟩ : ∃ x, ts[(uTwo (k : Int) s).1.toNat]? = some x := ⟨_, List.getElem?_eq_getElem (by omega)⟩
    repeat (first | refine zr ?_ | (refine zn ?_; intro _))
    refine exec_draw (lst := [(0, 0), (1, 1), (2, 3), (3, 7), (4, 0), (5, 16), (6, 48), (7, 112), (8, 0), (9, 496), (10, 1023), (11, 2047), (12, 4095), (13, 4095), (14, 8191), (15, 32767)]) (full := 65535) (by kernel_rfl) (by kernel_rfl) (by kernel_rfl) (by kernel_rfl) ?_
    repeat (first | refine zd ?_)
    try refine draw_nil ?_
    refine draw_w rfl rfl rfl rfl rfl rfl (step_call_mut 1 rfl rfl rfl rfl (fun H hs hh hlt => uTwo_ok (most := (k : Int)) hh hlt hct (hB.rb hs (i := 1) rfl)) (fun v ct h => ?_))
    obtain ⟨hct2, rfl⟩ := h
    refine (zst ?_)
    repeat (first | refine zd ?_)
    try refine draw_nil ?_
    refine draw_w rfl rfl rfl rfl rfl rfl (step_call_fp2 rfl rfl rfl (fun H hs hst => poolAt_ok (i := (uTwo (k : Int) s).1) hst hP2) (fun v3 F3 h3 => (zst ?_)))
    obtain ⟨hP3, hv⟩ := h3
    obtain rfl : v3 = .tuple #[str x, .bool true] := by
      rcases hv with ⟨h1, -⟩ | ⟨y, h1, h2, h3⟩
      · omega
      · rw [hx] at h2; cases h2; exact h3
    repeat (first | refine zd ?_)
    try refine draw_nil ?_
    repeat (first | refine zr ?_ | (refine zn ?_; intro _))
    exact ⟨trivial, _, rfl, _, [], List.Perm.of_eq (List.append_nil _).symm, x, _, rfl, hts x (List.mem_of_getElem? hx), ⟨(uTwo (k : Int) s).2, _, _, _, rfl, hct2, hP3, rfl⟩, goes_text nn s hk hx⟩
end Go.Proofs.YtlhkndjloeoodaaGreat
namespace Go.Proofs.YtlhkndjloeoodaaGreat
open Go.Ev Go.Ev.Wk
variable {O : Old}
theorem IntKind_wrap32_lo (n : Int) : -2147483648 ≤ IntKind.i32.wrap n := by
  simp only [IntKind.wrap, IntKind.bits, IntKind.signed]
  simp
  omega
theorem IntKind_wrap32_hi (n : Int) : IntKind.i32.wrap n ≤ 2147483647 := by
  simp only [IntKind.wrap, IntKind.bits, IntKind.signed]
  simp
  omega
section
variable {H : Heap} {xb rb pb N : Nat} {Bv : Value} {bs : List UInt8} {ts : List (List UInt8)} {σ : RSt} {ok : Bool} {F : Atoms}
set_option maxHeartbeats 8000000 in
set_option maxRecDepth 100000 in
theorem rhan_ok (hst : St (blksOf F) H H F) (hF : RdF O Bv N bs xb rb pb ts σ ok F) (hB : RdK O H F Bv N bs) (hts : ∀ t ∈ ts, t.length ≤ 1000) (htn : ts.length ≤ 10000) :
    FpC TT O 143 [ptr xb] H F fun v F' => ∃ (x : HV) (σ' : RSt), v = x.val ∧ x.ct.length ≤ 1000 ∧ RdF O Bv N bs xb rb pb ts σ' ok F' ∧ Goes (pHan ts) σ x σ' := by
  obtain ⟨s, nn, ct, Fp, rfl, hct, hP, rfl⟩ := hF
  refine call_fpM rfl rfl rfl rfl rfl hst ?_
  repeat (first | refine zrb ?_ | (refine zn ?_; intro _))
  refine exec_draw (lst := [(0, 0), (1, 1), (2, 3), (3, 7), (5, 0), (6, 32), (7, 96), (8, 224), (10, 0), (11, 1024), (12, 3072), (13, 7168), (15, 0), (4, 15), (9, 511), (14, 16383), (16, 65535), (17, 131071), (18, 262143)]) (full := 524287) (by kernel_rfl) (by kernel_rfl) (by kernel_rfl) (by kernel_rfl) ?_
  repeat (first | refine zdb ?_)
  try refine draw_nil ?_
  refine draw_w rfl rfl rfl rfl rfl rfl (step_call_mut 2 rfl rfl rfl rfl (fun H hs hh hlt => uNum_ok (most := 2000) hh hlt hct (hB.rb hs (i := 2) rfl)) (fun v ct h => ?_))
  obtain ⟨hct1, rfl⟩ := h
  refine (zst ?_)
  have g1 := goes_num (most := 2000) nn s
  revert hct1 g1
  generalize uNum 2000 s = u
  obtain ⟨z1, s1⟩ := u
  intro hct1 g1
  repeat (first | refine zdb ?_)
  try refine draw_nil ?_
  refine draw_w rfl rfl rfl rfl rfl rfl (step_call_mut 2 rfl rfl rfl rfl (fun H hs hh hlt => uNum_ok (most := 2000) hh hlt hct1 (hB.rb hs (i := 2) rfl)) (fun v ct h => ?_))
  obtain ⟨hct2, rfl⟩ := h
  refine (zst ?_)
  have g2 := goes_num (most := 2000) nn s1
  revert hct2 g2
  generalize uNum 2000 s1 = u
  obtain ⟨z2, s2⟩ := u
  intro hct2 g2
  repeat (first | refine zdb ?_)
  try refine draw_nil ?_
  refine draw_w rfl rfl rfl rfl rfl rfl (step_call_mut 2 rfl rfl rfl rfl (fun H hs hh hlt => uNum_ok (most := 2000) hh hlt hct2 (hB.rb hs (i := 2) rfl)) (fun v ct h => ?_))
  obtain ⟨hct3, rfl⟩ := h
  refine (zst ?_)
  have g3 := goes_num (most := 2000) nn s2
  revert hct3 g3
  generalize uNum 2000 s2 = u
  obtain ⟨z3, s3⟩ := u
  intro hct3 g3
  repeat (first | refine zdb ?_)
  try refine draw_nil ?_
  refine draw_w rfl rfl rfl rfl rfl rfl (step_call_fp1 rfl rfl rfl (fun H hs hst => rtext_ok (σ := sig nn s3) hst ⟨_, _, _, _, rfl, hct3, hP, rfl⟩ ⟨hB.1, hB.2.base hs⟩ hts htn) (fun v4 F4 h4 => (zst ?_)))
  obtain ⟨x, σ', rfl, hx, hF4, g4⟩ := h4
  repeat (first | refine zdb ?_)
  try refine draw_nil ?_
  refine draw_w rfl rfl rfl rfl rfl rfl (step_storeZ 0 rfl rfl rfl rfl rfl rfl rfl rfl rfl (zst ?_))
  refine draw_nil ?_
  repeat (first | refine zrb ?_ | (refine zn ?_; intro _))
  exact ⟨trivial, [_], ⟨look_agg 0 rfl rfl rfl rfl, trivial⟩, _, [_], List.perm_append_comm (l₁ := [_]), ⟨z1, z2, z3, x⟩, σ', rfl, hx, hF4, g1.bind (g2.bind (g3.bind g4.bindR))⟩
theorem uInt_range (s : US) : -2147483648 ≤ (uInt s).1 ∧ (uInt s).1 ≤ 2147483647 := by
  unfold uInt
  split
  · exact ⟨by simp, by simp⟩
  · simp only [intOf]
    split
    · exact ⟨IntKind_wrap32_lo _, IntKind_wrap32_hi _⟩
    · exact ⟨IntKind_wrap32_lo _, IntKind_wrap32_hi _⟩
set_option maxHeartbeats 8000000 in
set_option maxRecDepth 100000 in
theorem rins_ok (hst : St (blksOf F) H H F) (hF : RdF O Bv N bs xb rb pb ts σ ok F) (hB : RdK O H F Bv N bs) (hts : ∀ t ∈ ts, t.length ≤ 1000) (htn : ts.length ≤ 10000) :
    FpC TT O 141 [ptr xb] H F fun v F' => ∃ (x : Ins) (σ' : RSt), v = insV x ∧ WfI x ∧ RdF O Bv N bs xb rb pb ts σ' ok F' ∧ Goes (pIns ts) σ x σ' := by
  obtain ⟨s, nn, ct, Fp, rfl, hct, hP, rfl⟩ := hF
  refine call_fpM rfl rfl rfl rfl rfl hst ?_
  repeat (first | refine zrb ?_ | (refine zn ?_; intro _))
  refine ops_step rfl rfl rfl (step_call_mut 2 rfl rfl rfl rfl (fun H hs hh hlt => uNum_ok (most := 43) hh hlt hct (hB.rb hs (i := 2) rfl)) (fun v ct h => ?_))
  obtain ⟨hct1, rfl⟩ := h
  have g0 := goes_num (most := 43) nn s
  revert hct1 g0
  generalize uNum 43 s = u
  obtain ⟨o, s1⟩ := u
  intro hct1 g0
  repeat (first | refine zrb ?_ | (refine zn ?_; intro _))
  refine ops_step rfl rfl rfl (step_call_pure rfl rfl rfl (fun H hs => uses_ok) ?_)
  repeat (first | refine zrb ?_ | (refine zn ?_; intro _))
  refine exec_cond rfl (fun h => ?_) (fun h => ?_)
  · have h1 : usesZ o = 1 := by simpa using h
    repeat (first | refine zrb ?_ | (refine zn ?_; intro _))
    refine ops_step rfl rfl rfl (step_call_mut 3 rfl rfl rfl rfl (fun H hs hh hlt => uInt_ok hh hlt hct1 (hB.rb hs (i := 3) rfl)) (fun v ct h => ?_))
    obtain ⟨hct2, rfl⟩ := h
    have g2 := goes_int nn s1
    have hr := uInt_range s1
    revert hct2 g2 hr
    generalize uInt s1 = u
    obtain ⟨z2, s2⟩ := u
    intro hct2 g2 hr
    repeat (first | refine zrb ?_ | (refine zn ?_; intro _))
    exact ⟨trivial, [_], ⟨look_agg 1 rfl rfl rfl rfl, trivial⟩, _, [_, _], List.perm_append_comm (l₁ := [_, _]), ⟨o, z2, 0, [], [], [], []⟩, _, rfl, ⟨hr, by simp, by simp, by simp, by simp⟩, ⟨s2, _, _, _, rfl, hct2, hP, rfl⟩, g0.bind (by rw [if_pos h1]; exact g2.bindR)⟩
  have n1 : usesZ o ≠ 1 := by simpa using h
  repeat (first | refine zrb ?_ | (refine zn ?_; intro _))
  refine exec_cond rfl (fun h => ?_) (fun h => ?_)
  · have h1 : usesZ o = 2 := by simpa using h
    repeat (first | refine zrb ?_ | (refine zn ?_; intro _))
    refine ops_step rfl rfl rfl (step_call_fp2 rfl rfl rfl (fun H hs hst => rtext_ok (σ := sig nn s1) hst ⟨_, _, _, _, rfl, hct1, hP, rfl⟩ ⟨hB.1, hB.2.base hs⟩ hts htn) (fun v2 F2 h2 => ?_))
    obtain ⟨x2, σ2, rfl, hx2, hF2, g2⟩ := h2
    repeat (first | refine zrb ?_ | (refine zn ?_; intro _))
    exact ⟨trivial, [_], ⟨look_agg 1 rfl rfl rfl rfl, trivial⟩, _, [_, _], List.perm_append_comm (l₁ := [_, _]), ⟨o, 0, 0, x2, [], [], []⟩, σ2, rfl, ⟨⟨by simp, by simp⟩, hx2, by simp, by simp, by simp⟩, hF2, g0.bind (by rw [if_neg n1, if_pos h1]; exact g2.bindR)⟩
  have n2 : usesZ o ≠ 2 := by simpa using h
  repeat (first | refine zrb ?_ | (refine zn ?_; intro _))
  refine exec_cond rfl (fun h => ?_) (fun h => ?_)
  · have h1 : usesZ o = 3 := by simpa using h
    repeat (first | refine zrb ?_ | (refine zn ?_; intro _))
    refine ops_step rfl rfl rfl (step_call_mut 3 rfl rfl rfl rfl (fun H hs hh hlt => uNum_ok (most := 2000) hh hlt hct1 (hB.rb hs (i := 3) rfl)) (fun v ct h => ?_))
    obtain ⟨hct2, rfl⟩ := h
    have g2 := goes_num (most := 2000) nn s1
    revert hct2 g2
    generalize uNum 2000 s1 = u
    obtain ⟨z2, s2⟩ := u
    intro hct2 g2
    repeat (first | refine zrb ?_ | (refine zn ?_; intro _))
    exact ⟨trivial, [_], ⟨look_agg 1 rfl rfl rfl rfl, trivial⟩, _, [_, _], List.perm_append_comm (l₁ := [_, _]), ⟨o, 0, z2, [], [], [], []⟩, _, rfl, ⟨⟨by simp, by simp⟩, by simp, by simp, by simp, by simp⟩, ⟨s2, _, _, _, rfl, hct2, hP, rfl⟩, g0.bind (by rw [if_neg n1, if_neg n2, if_pos h1]; exact g2.bindR)⟩
  have n3 : usesZ o ≠ 3 := by simpa using h
  repeat (first | refine zrb ?_ | (refine zn ?_; intro _))
  refine exec_cond rfl (fun h => ?_) (fun h => ?_)
  · have h1 : usesZ o = 4 := by simpa using h
    repeat (first | refine zrb ?_ | (refine zn ?_; intro _))
    refine ops_step rfl rfl rfl (step_call_fp2 rfl rfl rfl (fun H hs hst => rtext_ok (σ := sig nn s1) hst ⟨_, _, _, _, rfl, hct1, hP, rfl⟩ ⟨hB.1, hB.2.base hs⟩ hts htn) (fun v2 F2 h2 => ?_))
    obtain ⟨x2, σ2, rfl, hx2, hF2, g2⟩ := h2
    repeat (first | refine zrb ?_ | (refine zn ?_; intro _))
    refine ops_step rfl rfl rfl (step_call_fp2 rfl rfl rfl (fun H hs hst => rtext_ok (σ := σ2) hst hF2 ⟨hB.1, hB.2.base hs⟩ hts htn) (fun v3 F3 h3 => ?_))
    obtain ⟨x3, σ3, rfl, hx3, hF3, g3⟩ := h3
    repeat (first | refine zrb ?_ | (refine zn ?_; intro _))
    exact ⟨trivial, [_], ⟨look_agg 1 rfl rfl rfl rfl, trivial⟩, _, [_, _], List.perm_append_comm (l₁ := [_, _]), ⟨o, 0, 0, [], x2, x3, []⟩, σ3, rfl, ⟨⟨by simp, by simp⟩, by simp, hx2, hx3, by simp⟩, hF3, g0.bind (by rw [if_neg n1, if_neg n2, if_neg n3, if_pos h1]; exact g2.bind g3.bindR)⟩
  have n4 : usesZ o ≠ 4 := by simpa using h
  repeat (first | refine zrb ?_ | (refine zn ?_; intro _))
  refine exec_cond rfl (fun h => ?_) (fun h => ?_)
  · have h1 : usesZ o = 5 := by simpa using h
    repeat (first | refine zrb ?_ | (refine zn ?_; intro _))
    refine ops_step rfl rfl rfl (step_call_fp2 rfl rfl rfl (fun H hs hst => rtext_ok (σ := sig nn s1) hst ⟨_, _, _, _, rfl, hct1, hP, rfl⟩ ⟨hB.1, hB.2.base hs⟩ hts htn) (fun v2 F2 h2 => ?_))
    obtain ⟨x2, σ2, rfl, hx2, hF2, g2⟩ := h2
    repeat (first | refine zrb ?_ | (refine zn ?_; intro _))
    refine ops_step rfl rfl rfl (step_call_fp2 rfl rfl rfl (fun H hs hst => rtext_ok (σ := σ2) hst hF2 ⟨hB.1, hB.2.base hs⟩ hts htn) (fun v3 F3 h3 => ?_))
    obtain ⟨x3, σ3, rfl, hx3, hF3, g3⟩ := h3
    repeat (first | refine zrb ?_ | (refine zn ?_; intro _))
    refine ops_step rfl rfl rfl (step_call_fp2 rfl rfl rfl (fun H hs hst => rtext_ok (σ := σ3) hst hF3 ⟨hB.1, hB.2.base hs⟩ hts htn) (fun v4 F4 h4 => ?_))
    obtain ⟨x4, σ4, rfl, hx4, hF4, g4⟩ := h4
    repeat (first | refine zrb ?_ | (refine zn ?_; intro _))
    exact ⟨trivial, [_], ⟨look_agg 1 rfl rfl rfl rfl, trivial⟩, _, [_, _], List.perm_append_comm (l₁ := [_, _]), ⟨o, 0, 0, [], x2, x3, x4⟩, σ4, rfl, ⟨⟨by simp, by simp⟩, by simp, hx2, hx3, hx4⟩, hF4, g0.bind (by rw [if_neg n1, if_neg n2, if_neg n3, if_neg n4, if_pos h1]; exact g2.bind (g3.bind g4.bindR))⟩
  have n5 : usesZ o ≠ 5 := by simpa using h
  repeat (first | refine zrb ?_ | (refine zn ?_; intro _))
  refine exec_cond rfl (fun h => ?_) (fun h => ?_)
  · have h1 : usesZ o = 6 := by simpa using h
    repeat (first | refine zrb ?_ | (refine zn ?_; intro _))
    refine ops_step rfl rfl rfl (step_call_fp2 rfl rfl rfl (fun H hs hst => rtext_ok (σ := sig nn s1) hst ⟨_, _, _, _, rfl, hct1, hP, rfl⟩ ⟨hB.1, hB.2.base hs⟩ hts htn) (fun v2 F2 h2 => ?_))
    obtain ⟨x2, σ2, rfl, hx2, hF2, g2⟩ := h2
    repeat (first | refine zrb ?_ | (refine zn ?_; intro _))
    exact ⟨trivial, [_], ⟨look_agg 1 rfl rfl rfl rfl, trivial⟩, _, [_, _], List.perm_append_comm (l₁ := [_, _]), ⟨o, 0, 0, [], x2, [], []⟩, σ2, rfl, ⟨⟨by simp, by simp⟩, by simp, hx2, by simp, by simp⟩, hF2, g0.bind (by rw [if_neg n1, if_neg n2, if_neg n3, if_neg n4, if_neg n5, if_pos h1]; exact g2.bindR)⟩
  have n6 : usesZ o ≠ 6 := by simpa using h
  repeat (first | refine zrb ?_ | (refine zn ?_; intro _))
  exact ⟨trivial, [_], ⟨look_agg 1 rfl rfl rfl rfl, trivial⟩, _, [_, _], List.perm_append_comm (l₁ := [_, _]), ⟨o, 0, 0, [], [], [], []⟩, _, rfl, ⟨⟨by simp, by simp⟩, by simp, by simp, by simp, by simp⟩, ⟨s1, _, _, _, rfl, hct1, hP, rfl⟩, g0.bind (by rw [if_neg n1, if_neg n2, if_neg n3, if_neg n4, if_neg n5, if_neg n6]; exact Goes.ret _ _)⟩
theorem oneC_kind (t : List UInt8) : (oneC t).2 = decide ((oneC t).1.1 ≠ 0) := by
  unfold oneC
  split
  · rename_i h
    have : (fstC t).1.1 ≠ 0 := by
      unfold fstC
      split; · simp
      split; · simp
      split; · simp
      split; · simp
      simp
    simp [this]
  · simp
def okF (f : FV) : Bool := decide (f.tk ≠ 0)
set_option maxHeartbeats 8000000 in
set_option maxRecDepth 100000 in
theorem rfld_ok (hst : St (blksOf F) H H F) (hF : RdF O Bv N bs xb rb pb ts σ ok F) (hB : RdK O H F Bv N bs) (hts : ∀ t ∈ ts, t.length ≤ 1000) (htn : ts.length ≤ 10000) :
    FpC TT O 103 [ptr xb] H F fun v F' => ∃ (x : FV) (σ' : RSt), v = x.val ∧ (x.nm.length ≤ 1000 ∧ x.tc.length ≤ 1000) ∧ RdF O Bv N bs xb rb pb ts σ' (ok && okF x) F' ∧ Goes (pField ts) σ x σ' := by
  refine call_fpM rfl rfl rfl rfl rfl hst ?_
  repeat (first | refine zrb ?_ | (refine zn ?_; intro _))
  refine ops_step rfl rfl rfl (step_call_fp1 rfl rfl rfl (fun H hs hst => rtext_ok hst hF ⟨hB.1, hB.2.base hs⟩ hts htn) (fun v2 F2 h2 => ?_))
  obtain ⟨x2, σ2, rfl, hx2, hF2, g2⟩ := h2
  repeat (first | refine zrb ?_ | (refine zn ?_; intro _))
  refine ops_step rfl rfl rfl (step_call_fp2 rfl rfl rfl (fun H hs hst => rtext_ok hst hF2 ⟨hB.1, hB.2.base hs⟩ hts htn) (fun v3 F3 h3 => ?_))
  obtain ⟨x3, σ3, rfl, hx3, hF3, g3⟩ := h3
  repeat (first | refine zrb ?_ | (refine zn ?_; intro _))
  refine ops_step rfl rfl rfl (step_call_pure rfl rfl rfl (fun H hs => one_ok (s := x3) (by omega)) ?_)
  have hk := oneC_kind x3
  have hcl := one_cls x3
  repeat (first | refine zrb ?_ | (refine zn ?_; intro _))
  obtain ⟨s, nn, ct, Fp, rfl, hct, hP, rfl⟩ := hF3
  cases ok
  · repeat (first | refine zrb ?_ | (refine zn ?_; intro _))
    refine exec_draw (lst := [(0, 0), (1, 0), (2, 2), (3, 6), (4, 14), (7, 1), (5, 30), (6, 62), (8, 191), (9, 511), (10, 1023)]) (full := 2047) (by kernel_rfl) (by kernel_rfl) (by kernel_rfl) (by kernel_rfl) ?_
    repeat (first | refine zdb ?_)
    try refine draw_nil ?_
    refine draw_w rfl rfl rfl rfl rfl rfl (step_call_mut 4 rfl rfl rfl rfl (fun H hs hh hlt => uNum_ok (most := 1) hh hlt hct (hB.rb hs (i := 4) rfl)) (fun v ct h => ?_))
    obtain ⟨hct4, rfl⟩ := h
    refine (zst ?_)
    have g4 := goes_num (most := 1) nn s
    revert hct4 g4
    generalize uNum 1 s = u
    obtain ⟨z4, s4⟩ := u
    intro hct4 g4
    repeat (first | refine zdb ?_)
    try refine draw_nil ?_
    refine draw_w rfl rfl rfl rfl rfl rfl (step_storeZ 1 rfl rfl rfl rfl rfl rfl rfl rfl rfl (zst ?_))
    repeat (first | refine zdb ?_)
    try refine draw_nil ?_
    refine draw_w rfl rfl rfl rfl rfl rfl (step_storeZ 1 rfl rfl rfl rfl rfl rfl rfl rfl rfl (zst ?_))
    refine draw_nil ?_
    repeat (first | refine zrb ?_ | (refine zn ?_; intro _))
    refine ⟨trivial, [_], ⟨look_agg 2 rfl rfl rfl rfl, trivial⟩, _, [_, _, _], List.perm_append_comm (l₁ := [_, _, _]), ⟨x2, (oneC x3).1.1, (oneC x3).1.2, z4 == 1⟩, sig nn s4, rfl, ⟨hx2, Nat.le_trans hcl hx3⟩, ⟨s4, _, _, _, ?_, hct4, hP, rfl⟩, g2.bind (g3.bind g4.bindR)⟩
    rfl
  · repeat (first | refine zrb ?_ | (refine zn ?_; intro _))
    refine exec_draw (lst := [(0, 0), (1, 0), (2, 2), (3, 6), (4, 14), (7, 1), (5, 30), (6, 62), (8, 191), (9, 511), (10, 1023)]) (full := 2047) (by kernel_rfl) (by kernel_rfl) (by kernel_rfl) (by kernel_rfl) ?_
    repeat (first | refine zdb ?_)
    try refine draw_nil ?_
    refine draw_w rfl rfl rfl rfl rfl rfl (step_call_mut 4 rfl rfl rfl rfl (fun H hs hh hlt => uNum_ok (most := 1) hh hlt hct (hB.rb hs (i := 4) rfl)) (fun v ct h => ?_))
    obtain ⟨hct4, rfl⟩ := h
    refine (zst ?_)
    have g4 := goes_num (most := 1) nn s
    revert hct4 g4
    generalize uNum 1 s = u
    obtain ⟨z4, s4⟩ := u
    intro hct4 g4
    repeat (first | refine zdb ?_)
    try refine draw_nil ?_
    refine draw_w rfl rfl rfl rfl rfl rfl (step_storeZ 1 rfl rfl rfl rfl rfl rfl rfl rfl rfl (zst ?_))
    repeat (first | refine zdb ?_)
    try refine draw_nil ?_
    refine draw_w rfl rfl rfl rfl rfl rfl (step_storeZ 1 rfl rfl rfl rfl rfl rfl rfl rfl rfl (zst ?_))
    refine draw_nil ?_
    repeat (first | refine zrb ?_ | (refine zn ?_; intro _))
    refine ⟨trivial, [_], ⟨look_agg 2 rfl rfl rfl rfl, trivial⟩, _, [_, _, _], List.perm_append_comm (l₁ := [_, _, _]), ⟨x2, (oneC x3).1.1, (oneC x3).1.2, z4 == 1⟩, sig nn s4, rfl, ⟨hx2, Nat.le_trans hcl hx3⟩, ⟨s4, _, _, _, ?_, hct4, hP, rfl⟩, g2.bind (g3.bind g4.bindR)⟩
    rw [okF, ← hk]; rfl
end
end Go.Proofs.YtlhkndjloeoodaaGreat
namespace Go.Proofs.YtlhkndjloeoodaaGreat
open Go.Ev Go.Ev.Wk
variable {O : Old}
abbrev tyW (k : Int) (c : List UInt8) : Value := .agg #[.int .i64 k, str c]
abbrev insW (o n k : Int) (s c m d : List UInt8) : Value := .agg #[.int .i64 o, .int .i32 n, .int .i64 k, str s, str c, str m, str d]
set_option maxHeartbeats 8000000 in
set_option maxRecDepth 100000 in
theorem seatTyp_ok {H : Heap} {k : Int} : CallC TT O 27 [.int .i64 k] H fun v H' => v = tyW k [] ∧ Ext H H' := by
  refine call_pureM rfl rfl rfl rfl rfl ?_
  repeat (first | refine zr ?_ | (refine zn ?_; intro _))
  refine ⟨trivial, [_], ⟨look_agg 0 rfl rfl rfl rfl, trivial⟩, rfl⟩
set_option maxHeartbeats 8000000 in
set_option maxRecDepth 100000 in
theorem seatRef_ok {H : Heap} {s : List UInt8} : CallC TT O 36 [str s] H fun v H' => v = tyW 4 s ∧ Ext H H' := by
  refine call_pureM rfl rfl rfl rfl rfl ?_
  repeat (first | refine zr ?_ | (refine zn ?_; intro _))
  refine ⟨trivial, [_], ⟨look_agg 0 rfl rfl rfl rfl, trivial⟩, rfl⟩
set_option maxHeartbeats 8000000 in
set_option maxRecDepth 100000 in
theorem seatOne_ok {H : Heap} {o : Int} : CallC TT O 31 [.int .i64 o] H fun v H' => v = insW o 0 0 [] [] [] [] ∧ Ext H H' := by
  refine call_pureM rfl rfl rfl rfl rfl ?_
  repeat (first | refine zr ?_ | (refine zn ?_; intro _))
  refine ⟨trivial, [_], ⟨look_agg 0 rfl rfl rfl rfl, trivial⟩, rfl⟩
set_option maxHeartbeats 8000000 in
set_option maxRecDepth 100000 in
theorem seatNum_ok {H : Heap} {n : Int} : CallC TT O 67 [.int .i64 n] H fun v H' => v = insW 1 (IntKind.i32.wrap n) 0 [] [] [] [] ∧ Ext H H' := by
  refine call_pureM rfl rfl rfl rfl rfl ?_
  repeat (first | refine zr ?_ | (refine zn ?_; intro _))
  refine ⟨trivial, [_], ⟨look_agg 0 rfl rfl rfl rfl, trivial⟩, rfl⟩
set_option maxHeartbeats 8000000 in
set_option maxRecDepth 100000 in
theorem seatStr_ok {H : Heap} {s : List UInt8} : CallC TT O 68 [str s] H fun v H' => v = insW 2 0 0 s [] [] [] ∧ Ext H H' := by
  refine call_pureM rfl rfl rfl rfl rfl ?_
  repeat (first | refine zr ?_ | (refine zn ?_; intro _))
  refine ⟨trivial, [_], ⟨look_agg 0 rfl rfl rfl rfl, trivial⟩, rfl⟩
set_option maxHeartbeats 8000000 in
set_option maxRecDepth 100000 in
theorem seatAt_ok {H : Heap} {o k : Int} : CallC TT O 32 [.int .i64 o, .int .i64 k] H fun v H' => v = insW o 0 k [] [] [] [] ∧ Ext H H' := by
  refine call_pureM rfl rfl rfl rfl rfl ?_
  repeat (first | refine zr ?_ | (refine zn ?_; intro _))
  refine ⟨trivial, [_], ⟨look_agg 0 rfl rfl rfl rfl, trivial⟩, rfl⟩
set_option maxHeartbeats 8000000 in
set_option maxRecDepth 100000 in
theorem seatOf_ok {H : Heap} {o : Int} {c : List UInt8} : CallC TT O 30 [.int .i64 o, str c] H fun v H' => v = insW o 0 0 [] c [] [] ∧ Ext H H' := by
  refine call_pureM rfl rfl rfl rfl rfl ?_
  repeat (first | refine zr ?_ | (refine zn ?_; intro _))
  refine ⟨trivial, [_], ⟨look_agg 0 rfl rfl rfl rfl, trivial⟩, rfl⟩
set_option maxHeartbeats 8000000 in
set_option maxRecDepth 100000 in
theorem seatPart_ok {H : Heap} {o : Int} {c m : List UInt8} : CallC TT O 73 [.int .i64 o, str c, str m] H fun v H' => v = insW o 0 0 [] c m [] ∧ Ext H H' := by
  refine call_pureM rfl rfl rfl rfl rfl ?_
  repeat (first | refine zr ?_ | (refine zn ?_; intro _))
  refine ⟨trivial, [_], ⟨look_agg 0 rfl rfl rfl rfl, trivial⟩, rfl⟩
set_option maxHeartbeats 8000000 in
set_option maxRecDepth 100000 in
theorem seatCall_ok {H : Heap} {o : Int} {c m d : List UInt8} : CallC TT O 72 [.int .i64 o, str c, str m, str d] H fun v H' => v = insW o 0 0 [] c m d ∧ Ext H H' := by
  refine call_pureM rfl rfl rfl rfl rfl ?_
  repeat (first | refine zr ?_ | (refine zn ?_; intro _))
  refine ⟨trivial, [_], ⟨look_agg 0 rfl rfl rfl rfl, trivial⟩, rfl⟩
abbrev methW (nm : List UInt8) (pa : Option Addr) (pN pc : Nat) (tk : Int) (tc : List UInt8) (st : Bool) (lo : Int) (ca : Option Addr) (cN cc : Nat) : Value := .agg #[str nm, .slice pa pN pc, .int .i64 tk, str tc, .bool st, .bool false, .int .i64 lo, .slice ca cN cc, .slice none 0 0]
set_option maxHeartbeats 8000000 in
set_option maxRecDepth 100000 in
theorem seatMethod_ok {H : Heap} {nm : List UInt8} {pa : Option Addr} {pN pc : Nat} {tk : Int} {tc : List UInt8} {st : Bool} {lo : Int} {ca : Option Addr} {cN cc : Nat} :
    CallC TT O 29 [str nm, .slice pa pN pc, tyW tk tc, .bool st, .int .i64 lo, .slice ca cN cc] H fun v H' => v = methW nm pa pN pc tk tc st lo ca cN cc ∧ Ext H H' := by
  refine call_pureM rfl rfl rfl rfl rfl ?_
  repeat (first | refine zr ?_ | (refine zn ?_; intro _))
  refine ⟨trivial, [_], ⟨look_agg 0 rfl rfl rfl rfl, trivial⟩, rfl⟩
theorem pickS {l : List (List UInt8)} {i : Nat} (h : i < l.length) : (l.map str)[0 + ((i : Nat) : Int).toNat * 1]? = some (str (l.getD i [])) := by
  rw [Nat.zero_add, Nat.mul_one, Int.toNat_natCast, List.getElem?_map, List.getElem?_eq_getElem h, List.getD_eq_getElem?_getD, List.getElem?_eq_getElem h]; rfl
theorem pickZ {l : List Int} {i : Nat} (h : i < l.length) : (l.map (Value.int .i64))[0 + ((i : Nat) : Int).toNat * 1]? = some (.int .i64 (l.getD i 0)) := by
  rw [Nat.zero_add, Nat.mul_one, Int.toNat_natCast, List.getElem?_map, List.getElem?_eq_getElem h, List.getD_eq_getElem?_getD, List.getElem?_eq_getElem h]; rfl
theorem pick_all {α : Type} {l : List α} {p : α → Bool} {d : α} {i : Nat} (h : i < l.length) (hp : l.all p = true) : p (l.getD i d) = true := by
  rw [List.getD_eq_getElem?_getD, List.getElem?_eq_getElem h]; exact List.all_eq_true.1 hp _ (List.getElem_mem h)
theorem tm2 (n : Nat) : ((n : Nat) : Int).tmod 2 = ((n % 2 : Nat) : Int) := by simpa using tmodN (a := (n : Int)) (b := 2) (m := 2) (by omega) rfl
theorem tm3 (n : Nat) : ((n : Nat) : Int).tmod 3 = ((n % 3 : Nat) : Int) := by simpa using tmodN (a := (n : Int)) (b := 3) (m := 3) (by omega) rfl
theorem tm4 (n : Nat) : ((n : Nat) : Int).tmod 4 = ((n % 4 : Nat) : Int) := by simpa using tmodN (a := (n : Int)) (b := 4) (m := 4) (by omega) rfl
theorem tm5 (n : Nat) : ((n : Nat) : Int).tmod 5 = ((n % 5 : Nat) : Int) := by simpa using tmodN (a := (n : Int)) (b := 5) (m := 5) (by omega) rfl
theorem tm6 (n : Nat) : ((n : Nat) : Int).tmod 6 = ((n % 6 : Nat) : Int) := by simpa using tmodN (a := (n : Int)) (b := 6) (m := 6) (by omega) rfl
theorem td4 {n : Nat} (h : n ≤ 255) : IntKind.u8.wrap (((n : Nat) : Int).tdiv 4) = ((n / 4 : Nat) : Int) := by
  have : ((n : Nat) : Int).tdiv 4 = ((n / 4 : Nat) : Int) := by have := tdivN (a := (n : Int)) (b := 4) (m := 4) (by omega) rfl; rwa [Int.toNat_natCast] at this
  exact w8 this (by omega) (by omega)
def wordL : List (List UInt8) := [[97], [98, 99], [], [120, 32, 121], [48]]
def wordB (n : Nat) : List UInt8 := wordL.getD (n % 5) []
def classL : List (List UInt8) := [[65], [66], [67], [68]]
def classB (n : Nat) : List UInt8 := classL.getD (n % 4) []
set_option maxHeartbeats 8000000 in
set_option maxRecDepth 100000 in
theorem seatWord_ok {H : Heap} {n : Nat} : CallC TT O 110 [.int .u8 (n : Int)] H fun v H' => v = str (wordB n) ∧ Ext H H' := by
  refine call_pure rfl rfl rfl rfl rfl ?_
  repeat (first | refine zr ?_ | (refine zn ?_; intro _))
  rw [tm5]
  (first | apply ops_pl rfl rfl rfl ?_ rfl ?_ | apply draw_pl rfl rfl rfl rfl ?_ rfl rfl ?_); rotate_left; focus exact (.p rfl (opP_idxo (z := 1) rfl rfl rfl rfl (by omega) (by omega)))
  (first | apply ops_pl rfl rfl rfl ?_ rfl ?_ | apply draw_pl rfl rfl rfl rfl ?_ rfl rfl ?_); rotate_left; focus exact (.l rfl (look_own 0 rfl rfl rfl (pickS (l := wordL) (show n % 5 < 5 by omega))))
  repeat (first | refine zr ?_ | (refine zn ?_; intro _))
  exact ⟨trivial, _, rfl, rfl⟩
set_option maxHeartbeats 8000000 in
set_option maxRecDepth 100000 in
theorem seatClass_ok {H : Heap} {n : Nat} : CallC TT O 112 [.int .u8 (n : Int)] H fun v H' => v = str (classB n) ∧ Ext H H' := by
  refine call_pure rfl rfl rfl rfl rfl ?_
  repeat (first | refine zr ?_ | (refine zn ?_; intro _))
  rw [tm4]
  (first | apply ops_pl rfl rfl rfl ?_ rfl ?_ | apply draw_pl rfl rfl rfl rfl ?_ rfl rfl ?_); rotate_left; focus exact (.p rfl (opP_idxo (z := 1) rfl rfl rfl rfl (by omega) (by omega)))
  (first | apply ops_pl rfl rfl rfl ?_ rfl ?_ | apply draw_pl rfl rfl rfl rfl ?_ rfl rfl ?_); rotate_left; focus exact (.l rfl (look_own 0 rfl rfl rfl (pickS (l := classL) (show n % 4 < 4 by omega))))
  repeat (first | refine zr ?_ | (refine zn ?_; intro _))
  exact ⟨trivial, _, rfl, rfl⟩
abbrev ShI (i : Ins) : Prop := i.s.length ≤ 70 ∧ i.ds.length ≤ 70 ∧ i.cl.length ≤ 70 ∧ i.nm.length ≤ 70
def GI (i : Ins) : Prop := rightI i = true ∧ WfI i ∧ ShI i
def GL : List Ins → Prop
  | [] => True
  | i :: l => GI i ∧ GL l
theorem GL.mem : ∀ {l : List Ins}, GL l → ∀ i ∈ l, GI i
  | i :: l, ⟨h1, h2⟩, x, hx => by
    rcases List.mem_cons.1 hx with rfl | hx
    · exact h1
    · exact h2.mem x hx
theorem GL.app : ∀ {a b : List Ins}, GL a → GL b → GL (a ++ b)
  | [], _, _, h => h
  | _ :: _, _, ⟨h1, h2⟩, h => ⟨h1, h2.app h⟩
theorem gNum {x : Int} : GI ⟨1, IntKind.i32.wrap x, 0, [], [], [], []⟩ := by
  refine ⟨?_, ⟨⟨IntKind_wrap32_lo _, IntKind_wrap32_hi _⟩, by simp, by simp, by simp, by simp⟩, by simp⟩
  simp [rightI, usedI, usesZ]
theorem gStr {s : List UInt8} (h0 : s.length ≤ 70) : GI ⟨2, 0, 0, s, [], [], []⟩ := by
  have h : s.length ≤ 1000 := Nat.le_trans h0 (by decide)
  refine ⟨?_, ⟨by simp, h, by simp, by simp, by simp⟩, ⟨h0, by simp, by simp, by simp⟩⟩
  simp [rightI, usedI, usesZ, h]
theorem gOne {o : Int} (ho : 1 ≤ o ∧ o ≤ 43) (hu : usesZ o = 0) : GI ⟨o, 0, 0, [], [], [], []⟩ := by
  refine ⟨?_, ⟨by simp, by simp, by simp, by simp, by simp⟩, by simp⟩
  simp [rightI, usedI, hu]; omega
theorem gAt {o k : Int} (ho : 1 ≤ o ∧ o ≤ 43) (hu : usesZ o = 3) (hk : 0 ≤ k ∧ k ≤ 2000) : GI ⟨o, 0, k, [], [], [], []⟩ := by
  refine ⟨?_, ⟨by simp, by simp, by simp, by simp, by simp⟩, by simp⟩
  simp [rightI, usedI, hu]; omega
theorem nlen {s : List UInt8} (h : nameL s = true) : s.length ≤ 1000 := Nat.le_trans (nameL_len h) (by decide)
theorem gOf {o : Int} {c : List UInt8} (ho : 1 ≤ o ∧ o ≤ 43) (hu : usesZ o = 6) (hc : nameL c = true) : GI ⟨o, 0, 0, [], c, [], []⟩ := by
  refine ⟨?_, ⟨by simp, by simp, nlen hc, by simp, by simp⟩, by have := nameL_len hc; simp; omega⟩
  simp [rightI, usedI, hu, hc]; omega
theorem gPart {o : Int} {c m : List UInt8} (ho : 1 ≤ o ∧ o ≤ 43) (hu : usesZ o = 4) (hc : nameL c = true) (hm : nameL m = true) : GI ⟨o, 0, 0, [], c, m, []⟩ := by
  refine ⟨?_, ⟨by simp, by simp, nlen hc, nlen hm, by simp⟩, by have := nameL_len hc; have := nameL_len hm; simp; omega⟩
  simp [rightI, usedI, hu, hc, hm]; omega
theorem gCall {o : Int} {c m d : List UInt8} (ho : 1 ≤ o ∧ o ≤ 43) (hu : usesZ o = 5) (hc : nameL c = true) (hm : nameL m = true) (hd : (parseC d).2.2 = true) (hl : d.length ≤ 70) : GI ⟨o, 0, 0, [], c, m, d⟩ := by
  refine ⟨?_, ⟨by simp, by simp, nlen hc, nlen hm, Nat.le_trans hl (by decide)⟩, ⟨by simp, hl, Nat.le_trans (nameL_len hc) (by decide), Nat.le_trans (nameL_len hm) (by decide)⟩⟩
  simp [rightI, usedI, hu, hc, hm, hd]; omega
def GH (l : List HV) : Prop := ∀ h ∈ l, rightH h = true ∧ h.ct.length ≤ 1000
end Go.Proofs.YtlhkndjloeoodaaGreat
namespace Go.Proofs.YtlhkndjloeoodaaGreat
open Go.Ev Go.Ev.Wk
variable {O : Old}
abbrev bldA (bb : Nat) (a : Option Addr) (n c : Nat) (ha : Option Addr) (hn hc : Nat) : Option Nat × Cont := (some bb, .cells 0 [.slice a n c, .slice ha hn hc] 0 133)
def BldG (bb : Nat) (code : List Ins) (hl : List HV) (F : Atoms) : Prop := ∃ (a : Option Addr) (c : Nat) (p : Option Nat × Cont) (ha : Option Addr) (hc : Nat) (q : Option Nat × Cont), F = [bldA bb a code.length c ha hl.length hc, p, q] ∧ OwnA 7 61 a code.length c (code.flatMap insL) p ∧ OwnA 4 66 ha hl.length hc (hl.flatMap HV.cells) q
set_option maxHeartbeats 16000000 in
set_option maxRecDepth 100000 in
theorem bAdd_ok {H : Heap} {bb m : Nat} {code new : List Ins} {hl : List HV} {F : Atoms} {sv : Value} (hst : St (blksOf F) H H F) (hF : BldG bb code hl F) (hk : Keep (blksOf F) H fun H' => Sl O H' sv 7 m (new.flatMap insL)) (hn : code.length + m ≤ 1000000) :
    FpC TT O 66 [ptr bb, sv] H F fun v F' => BldG bb (code ++ new) hl F' := by
  obtain ⟨a, c, p, ha, hc, q, rfl, own, ownH⟩ := hF
  have hml : new.length = m := by have := (hk H (ExtBut.refl _ _)).1; rw [flat_len (f := insL) (z := 7) (fun _ => rfl)] at this; omega
  refine call_fp rfl rfl rfl rfl rfl hst ?_
  repeat (first | refine zr ?_ | (refine zn ?_; intro _))
  refine ops_step rfl rfl rfl (step_append 1 7 rfl rfl rfl rfl rfl rfl rfl rfl own (fun H hs => (hk.at hs).src) rfl (flat_all (fun _ => rfl) _) (by rw [flat_len (f := insL) (z := 7) (fun _ => rfl), hml]) (by omega) (fun a2 c2 p2 own2 => ?_))
  repeat (first | refine zr ?_ | (refine zn ?_; intro _))
  refine ⟨trivial, _, rfl, [_, _, _], [], List.Perm.refl _, a2, c2, p2, ha, hc, q, ?_, ?_, ownH⟩
  · rw [List.length_append, hml]
  · rw [List.length_append, hml, List.flatMap_append]; exact own2
set_option maxHeartbeats 16000000 in
set_option maxRecDepth 100000 in
theorem bTry_ok {H : Heap} {bb : Nat} {code : List Ins} {hl : List HV} {F : Atoms} {fr : Int} {ct s : List UInt8} (hst : St (blksOf F) H H F) (hF : BldG bb code hl F) (hn : code.length ≤ 900000) (hh : hl.length ≤ 900000) :
    FpC TT O 111 [ptr bb, .int .i64 fr, str ct, str s] H F fun v F' => BldG bb (code ++ [⟨19, 0, (code.length : Int) + 4, [], [], [], []⟩] ++ [⟨6, 0, 0, [], [], [], []⟩, ⟨2, 0, 0, s, [], [], []⟩, ⟨41, 0, 0, [], [], [], []⟩]) (hl ++ [⟨fr, (code.length : Int), (code.length : Int) + 1, ct⟩]) F' := by
  obtain ⟨a, c, p, ha, hc, q, rfl, own, ownH⟩ := hF
  refine call_fp rfl rfl rfl rfl rfl hst ?_
  repeat (first | refine zr ?_ | (refine zn ?_; intro _) | refine ops_step rfl rfl rfl (step_call_pure rfl rfl rfl (fun H hs => by first | exact seatTyp_ok | exact seatRef_ok | exact seatOne_ok | exact seatNum_ok | exact seatStr_ok | exact seatAt_ok | exact seatOf_ok | exact seatPart_ok | exact seatCall_ok | exact seatWord_ok | exact seatClass_ok) ?_))
  refine ops_step rfl rfl rfl (step_call_fp1 rfl rfl rfl (fun H hs hst => bAdd_ok (new := [⟨19, 0, (code.length : Int) + 4, [], [], [], []⟩]) hst ⟨a, c, p, ha, hc, q, rfl, own, ownH⟩ (Rd.keep (Rd.sl (i := 0) (n := 1) rfl rfl 1) hs) (by omega)) (fun v2 F2 h2 => ?_))
  repeat (first | refine zr ?_ | (refine zn ?_; intro _) | refine ops_step rfl rfl rfl (step_call_pure rfl rfl rfl (fun H hs => by first | exact seatTyp_ok | exact seatRef_ok | exact seatOne_ok | exact seatNum_ok | exact seatStr_ok | exact seatAt_ok | exact seatOf_ok | exact seatPart_ok | exact seatCall_ok | exact seatWord_ok | exact seatClass_ok) ?_))
  refine ops_step rfl rfl rfl (step_call_fp2 rfl rfl rfl (fun H hs hst => bAdd_ok (new := [⟨6, 0, 0, [], [], [], []⟩, ⟨2, 0, 0, s, [], [], []⟩, ⟨41, 0, 0, [], [], [], []⟩]) hst h2 (Rd.keep (Rd.sl (i := 0) (n := 3) rfl rfl 3) hs) (by simp; omega)) (fun v3 F3 h3 => ?_))
  obtain ⟨a, c, p, ha, hc, q, rfl, own, ownH⟩ := h3
  repeat (first | refine zr ?_ | (refine zn ?_; intro _) | refine ops_step rfl rfl rfl (step_call_pure rfl rfl rfl (fun H hs => by first | exact seatTyp_ok | exact seatRef_ok | exact seatOne_ok | exact seatNum_ok | exact seatStr_ok | exact seatAt_ok | exact seatOf_ok | exact seatPart_ok | exact seatCall_ok | exact seatWord_ok | exact seatClass_ok) ?_))
  refine ops_step rfl rfl rfl (step_append 5 4 rfl rfl rfl rfl rfl rfl rfl rfl ownH (fun H hs => src_own (j := 0) hs rfl rfl 1) rfl rfl rfl (by omega) (fun a2 c2 p2 own2 => ?_))
  repeat (first | refine zr ?_ | (refine zn ?_; intro _) | refine ops_step rfl rfl rfl (step_call_pure rfl rfl rfl (fun H hs => by first | exact seatTyp_ok | exact seatRef_ok | exact seatOne_ok | exact seatNum_ok | exact seatStr_ok | exact seatAt_ok | exact seatOf_ok | exact seatPart_ok | exact seatCall_ok | exact seatWord_ok | exact seatClass_ok) ?_))
  refine ⟨trivial, _, rfl, [_, _, _], [_, _, _], List.perm_append_comm (l₁ := [_, _, _]), a, c, p, a2, c2, p2, ?_, own, ?_⟩
  · rw [show (hl ++ [(⟨fr, (code.length : Int), (code.length : Int) + 1, ct⟩ : HV)]).length = hl.length + 1 from by simp]
  · rw [show (hl ++ [(⟨fr, (code.length : Int), (code.length : Int) + 1, ct⟩ : HV)]).length = hl.length + 1 from by simp, List.flatMap_append]; exact own2
theorem gOneP {l : List Int} {i : Nat} (h : i < l.length) (hl : (l.all fun o => decide (1 ≤ o) && decide (o ≤ 43) && decide (usesZ o = 0)) = true) : GI ⟨l.getD i 0, 0, 0, [], [], [], []⟩ := by
  have := pick_all (p := fun o => decide (1 ≤ o) && decide (o ≤ 43) && decide (usesZ o = 0)) (d := 0) h hl
  simp only [Bool.and_eq_true, decide_eq_true_eq] at this
  exact gOne ⟨this.1.1, this.1.2⟩ this.2
theorem wordB_len (n : Nat) : (wordB n).length ≤ 70 := by
  have := pick_all (l := wordL) (p := fun s => decide (s.length ≤ 70)) (d := []) (i := n % 5) (show n % 5 < 5 by omega) (by decide)
  exact of_decide_eq_true this
theorem classB_name (n : Nat) : nameL (classB n) = true := pick_all (l := classL) (p := nameL) (d := []) (show n % 4 < 4 by omega) (by decide)
def Grown (j : Nat) (code : List Ins) (hl : List HV) (code' : List Ins) (hl' : List HV) : Prop := ∃ (new : List Ins) (hnew : List HV), code' = code ++ new ∧ GL new ∧ new.length ≤ j ∧ hl' = hl ++ hnew ∧ GH hnew ∧ hnew.length ≤ 1
theorem Grown.add {j : Nat} {code new : List Ins} {hl : List HV} (h : GL new) (hj : new.length ≤ j) : Grown j code hl (code ++ new) hl := ⟨new, [], rfl, h, hj, (List.append_nil _).symm, (fun x hx => by cases hx), by simp⟩
theorem Grown.tryy {j : Nat} {code new : List Ins} {hl : List HV} {ct s : List UInt8} (h : GL new) (hj : new.length + 4 ≤ j) (hc : code.length + new.length ≤ 1990) (hct : nameL ct = true) (hs : s.length ≤ 70) :
    Grown j code hl (code ++ new ++ [⟨19, 0, ((code ++ new).length : Int) + 4, [], [], [], []⟩] ++ [⟨6, 0, 0, [], [], [], []⟩, ⟨2, 0, 0, s, [], [], []⟩, ⟨41, 0, 0, [], [], [], []⟩]) (hl ++ [⟨(code.length : Int), ((code ++ new).length : Int), ((code ++ new).length : Int) + 1, ct⟩]) := by
  refine ⟨new ++ [⟨19, 0, ((code ++ new).length : Int) + 4, [], [], [], []⟩] ++ [⟨6, 0, 0, [], [], [], []⟩, ⟨2, 0, 0, s, [], [], []⟩, ⟨41, 0, 0, [], [], [], []⟩], [⟨(code.length : Int), ((code ++ new).length : Int), ((code ++ new).length : Int) + 1, ct⟩], by simp, ?_, by simp; omega, rfl, ?_, by simp⟩
  · have hk : GI ⟨19, 0, ((code ++ new).length : Int) + 4, [], [], [], []⟩ := gAt (by decide) (by decide) (by rw [List.length_append]; omega)
    exact GL.app (GL.app h ⟨hk, trivial⟩) ⟨gOne (by decide) (by decide), gStr hs, gOne (by decide) (by decide), trivial⟩
  · intro x hx
    cases List.mem_singleton.1 hx
    refine ⟨?_, nlen hct⟩
    simp only [rightH, Bool.and_eq_true, withinB_iff, hct, List.length_append, and_true]
    omega
end Go.Proofs.YtlhkndjloeoodaaGreat
