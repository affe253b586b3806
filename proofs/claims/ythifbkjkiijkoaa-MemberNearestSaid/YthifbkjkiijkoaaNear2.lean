/-
  Walks: members found.
-/
import Derived.Test.YthifbkjkiijkoaaNear1
import Derived.Test.YthifbkjkiijkoaaFam
import Derived.Test.YthifbkjkiijkoaaBld0
namespace Go.Proofs.Ythifbkjkiijkoaa
open Go.Ev Go.Ev.Wk
set_option linter.unusedVariables false
set_option linter.unusedSimpArgs false
variable {O : Old}


abbrev dS : List UInt8 := [40, 41, 83]

/-- what a test of methods holds -/
def NamK (H : Heap) (b2 b3 : Nat) : Prop := Keep [] H fun H' => Has H' b2 (.cells 0 [str nameB] 0 9) ∧ Has H' b3 (.cells 0 [str dS] 0 9)

set_option maxHeartbeats 8000000 in
set_option maxRecDepth 100000 in
theorem namedFn_ok {H : Heap} {m : MV} {b2 b3 : Nat} (hm : okM m) (hb : NamK H b2 b3) :
    CallC TT O 82 [m.val, ptr b2, ptr b3] H fun v H' => v = .bool (decide (m.nm = nameB)) ∧ Ext H H' := by
  refine call_pure rfl rfl rfl rfl rfl ?_
  repeat (first | refine zr ?_ | (refine zn ?_; intro _))
  refine exec_draw (lst := [(0, 0), (1, 1), (2, 0), (3, 7), (4, 15), (5, 31), (6, 63), (7, 31), (8, 159), (10, 31), (9, 511), (11, 2047), (12, 4095), (13, 8191)]) (full := 16383) (by kernel_rfl) (by kernel_rfl) (by kernel_rfl) (by kernel_rfl) ?_
  repeat (first | refine zd ?_)
  try refine draw_nil ?_
  (first | apply ops_pl rfl rfl rfl ?_ rfl ?_ | apply draw_pl rfl rfl rfl rfl ?_ rfl rfl ?_); rotate_left; focus exact (.l rfl (look_hasO (fun H hs => (hb.at hs).1) rfl rfl rfl))
  repeat (first | refine zd ?_)
  try refine draw_nil ?_
  rw [show ((⟨⟨m.nm⟩⟩ : ByteArray).data.toList == (⟨⟨nameB⟩⟩ : ByteArray).data.toList) = decide (m.nm = nameB) from baEq _ _]
  skip
  cases hx : decide (m.nm = nameB)
  · skip
    repeat (first | refine zd ?_)
    try refine draw_nil ?_
    repeat (first | refine zr ?_ | (refine zn ?_; intro _))
    exact ⟨trivial, _, rfl, rfl⟩
  obtain ⟨h1, h2, h3, h4⟩ := hm (of_decide_eq_true hx)
  repeat (first | refine zd ?_)
  try refine draw_nil ?_
  rw [h3, h4]
  (first | apply ops_pl rfl rfl rfl ?_ rfl ?_ | apply draw_pl rfl rfl rfl rfl ?_ rfl rfl ?_); rotate_left; focus exact (.l rfl (look_hasO (fun H hs => (hb.at hs).2) rfl rfl rfl))
  repeat (first | refine zd ?_)
  try refine draw_nil ?_
  refine draw_w rfl rfl rfl rfl rfl rfl (step_call_pure rfl rfl rfl (fun H hs => of_ok (l := []) (k := 2) (cl := []) (fun _ _ => Sl.nil) (by omega) (by simp) (by simp)) ⟨by repeat (first | exact True.intro | refine And.intro (.inr ⟨veq_refl rfl, (look_hasO (fun H hs => (hb.at hs).1) rfl rfl rfl)⟩) ?_ | refine And.intro (.inr ⟨veq_refl rfl, (look_hasO (fun H hs => (hb.at hs).2) rfl rfl rfl)⟩) ?_ | refine zs1 ?_), ?_⟩)
  repeat (first | refine zd ?_)
  try refine draw_nil ?_
  repeat (first | refine zr ?_ | (refine zn ?_; intro _))
  exact ⟨trivial, _, rfl, rfl⟩

set_option maxHeartbeats 8000000 in
set_option maxRecDepth 100000 in
theorem named_ok {H : Heap} (hst : St (blksOf []) H H []) : FpC TT O 59 [str nameB, str dS] H [] fun v F' => ∃ b2 b3, v = .func (.func 82) #[] #[ptr b2, ptr b3] ∧ F' = [(some b3, .cells 0 [str dS] 0 9), (some b2, .cells 0 [str nameB] 0 9)] := by
  refine call_fp rfl rfl rfl rfl rfl hst ?_
  repeat (first | refine zr ?_ | (refine zn ?_; intro _))
  exact ⟨trivial, _, rfl, _, [], List.Perm.refl _, _, _, rfl, rfl⟩

/-- a test that objects' methods pass -/
theorem namRd {b2 b3 : Nat} {F R : Atoms} {X : List Nat} {H0 H : Heap} (hst : St X H0 H ((some b3, .cells 0 [str dS] 0 9) :: (some b2, .cells 0 [str nameB] 0 9) :: R)) : NamK H b2 b3 := fun H' e => by
  have h := hst.extend e
  exact ⟨h.has _ _ (by simp), h.has _ _ (by simp)⟩

set_option maxHeartbeats 8000000 in
set_option maxRecDepth 100000 in
theorem virtFn_ok {H : Heap} {m : MV} {b1 b2 b3 : Nat} (hm : okM m) (hb : Keep [] H fun H' => Has H' b1 (.cells 0 [.func (.func 82) #[] #[ptr b2, ptr b3]] 0 99)) (hb' : NamK H b2 b3) :
    CallC TT O 61 [m.val, ptr b1] H fun v H' => v = .bool (decide (m.nm = nameB)) ∧ Ext H H' := by
  obtain ⟨nm, rk, rc, st, ab, lo, ca, cN, cc⟩ := m
  refine call_pure rfl rfl rfl rfl rfl ?_
  cases st
  rotate_left
  · have hne : ¬ nm = nameB := fun e => Bool.noConfusion (hm e).1
    repeat (first | refine zr ?_ | (refine zn ?_; intro _))
    exact ⟨trivial, _, rfl, by show Value.bool false = .bool (decide (nm = nameB)); rw [decide_eq_false hne]⟩
  cases ab
  rotate_left
  · have hne : ¬ nm = nameB := fun e => Bool.noConfusion (hm e).2.1
    repeat (first | refine zr ?_ | (refine zn ?_; intro _))
    exact ⟨trivial, _, rfl, by show Value.bool false = .bool (decide (nm = nameB)); rw [decide_eq_false hne]⟩
  repeat (first | refine zr ?_ | (refine zn ?_; intro _))
  (first | apply ops_pl rfl rfl rfl ?_ rfl ?_ | apply draw_pl rfl rfl rfl rfl ?_ rfl rfl ?_); rotate_left; focus exact (.l rfl (look_hasO (fun H hs => hb.at hs) rfl rfl rfl))
  repeat (first | refine zr ?_ | (refine zn ?_; intro _))
  refine ops_step rfl rfl rfl (step_call_pure rfl rfl rfl (fun H hs => namedFn_ok (m := ⟨nm, rk, rc, false, false, lo, ca, cN, cc⟩) hm (hb'.pure hs)) ?_)
  repeat (first | refine zr ?_ | (refine zn ?_; intro _))
  exact ⟨trivial, _, rfl, rfl⟩

theorem idxP_find {α : Type} {p : α → Bool} {l : List α} {m : α} (h : l.find? p = some m) : ∃ k : Nat, l[k]? = some m ∧ idxP p l = k := by
  obtain ⟨hp, k, hk, rfl, hj⟩ := List.find?_eq_some_iff_getElem.1 h
  refine ⟨k, List.getElem?_eq_getElem hk, idxP_some (List.getElem?_eq_getElem hk) hp fun j y hjk hy => ?_⟩
  obtain ⟨hjl, rfl⟩ := List.getElem?_eq_some_iff.1 hy
  simpa using hj j hjk
theorem idxP_find_none {α : Type} {p : α → Bool} {l : List α} (h : l.find? p = none) : idxP p l = -1 :=
  idxP_none fun j y hy => by
    have := List.find?_eq_none.1 h y (List.mem_of_getElem? hy)
    simpa using this

set_option maxHeartbeats 8000000 in
set_option maxRecDepth 100000 in
theorem find_ok {H : Heap} {tb mb : Nat} {lv : Value} {g : List UInt8 → Option CV} {a : Option Addr} {n c fg : Nat} {fa fb : Array Value} {pre post : List (List UInt8)} {s0 : List UInt8} {m0 : MV} (p : MV → Bool) (ht : TreeK O H tb mb lv g) (hl : SlX [] O H (.slice a n c) 1 n ((pre ++ s0 :: post).map str)) (hn : n ≤ 1000000)
    (hg : ∀ s ∈ pre ++ [s0], ∃ c, g s = some c ∧ c.core = true ∧ c.mN ≤ 1000000) (hf : ∀ s ∈ pre ++ [s0], ∀ m ∈ (getC g s).ml, ∀ H', Ext H H' → CallC TT O fg (fa.toList ++ [m.val] ++ fb.toList) H' fun v H'' => v = .bool (p m) ∧ Ext H' H'')
    (hpre : ∀ s ∈ pre, (getC g s).ml.find? p = none) (h0 : (getC g s0).ml.find? p = some m0) :
    CallC TT O 60 [ptr tb, .slice a n c, .func (.func fg) fa fb] H fun v H' => v = .tuple #[str s0, m0.val, .bool true] ∧ Ext H H' := by
  have hll : pre.length + 1 + post.length = n := by have := (hl H (ExtBut.refl _ _)).1; simp at this; omega
  refine call_pureM rfl rfl rfl rfl rfl ?_
  repeat (first | refine zr ?_ | (refine zn ?_; intro _))
  rename_i rb
  refine ExecS.weak (E' := [(0, ptr tb), (2, .func (.func fg) fa fb), (6, str []), (7, ptr rb), (8, .bool false), (14, .slice a n c), (15, .int .i64 (n : Int)), (16, .int .i64 ((0 : Nat) : Int))]) ⟨rfl, rfl, rfl, rfl, rfl, rfl, rfl, rfl, trivial⟩ (List.Sublist.refl _) ?_
  refine exec_loop (fun k E L => ∃ i : Nat, i + k = pre.length ∧ E = [(0, ptr tb), (2, .func (.func fg) fa fb), (6, str []), (7, ptr rb), (8, .bool false), (14, .slice a n c), (15, .int .i64 (n : Int)), (16, .int .i64 (i : Int))] ∧ L = [(some rb, .cells 0 [str [], .slice none 0 0, .int .i64 0, str [], .bool false, .bool false, .int .i64 0, .slice none 0 0, .slice none 0 0] 0 65)]) ?_ pre.length _ _ ⟨0, by omega, rfl, rfl⟩
  rintro k E L ⟨i, hik, rfl, rfl⟩
  have hi : i < n := by omega
  obtain ⟨s, hls, hmem⟩ : ∃ s, (pre ++ s0 :: post)[i]? = some s ∧ s ∈ pre ++ [s0] := by
    by_cases h : i < pre.length
    · exact ⟨pre[i], by rw [List.getElem?_append_left h, List.getElem?_eq_getElem h], List.mem_append.2 (.inl (List.getElem_mem h))⟩
    · refine ⟨s0, ?_, by simp⟩
      rw [List.getElem?_append_right (by omega), show i - pre.length = 0 from by omega]; rfl
  obtain ⟨cv, hgs, hcore, hmN⟩ := hg s hmem
  have hgc : getC g s = cv := by rw [getC, hgs]; rfl
  have hcls := ht.mono (Q := fun H' => Sl O H' (.slice cv.ma cv.mN cv.mc) 9 cv.mN (cv.ml.flatMap MV.cells)) (fun H' h => (h.cls s cv hgs).ms hcore)
  repeat (first | refine zr ?_ | (refine zn ?_; intro _))
  rw [show decide ((i : Int) < (n : Int)) = true from by simp; omega]
  repeat (first | refine zr ?_ | (refine zn ?_; intro _))
  (first | apply ops_pl rfl rfl rfl ?_ rfl ?_ | apply draw_pl rfl rfl rfl rfl ?_ rfl rfl ?_); rotate_left; focus exact (.p rfl (opP_idx rfl rfl (hl H (ExtBut.refl _ _)) rfl rfl (by omega) (by omega)))
  (first | apply ops_pl rfl rfl rfl ?_ rfl ?_ | apply draw_pl rfl rfl rfl rfl ?_ rfl rfl ?_); rotate_left; focus exact (.l rfl (fun H hs => opL_load rfl ((hl.at hs).ld rfl (str_get hls))))
  repeat (first | refine zr ?_ | (refine zn ?_; intro _))
  refine ops_step rfl rfl rfl (step_call_pure rfl rfl rfl (fun H hs => class_ok (s := s) (ht.pure hs)) ?_)
  rw [hgc, hgs]
  repeat (first | refine zr ?_ | (refine zn ?_; intro _))
  refine ops_step rfl rfl rfl (step_call_pure rfl rfl rfl (fun H hs => idxMethod_ok p (hcls.at hs) hmN (fun m hm H' e => hf s hmem m (by rw [hgc]; exact hm) H' (hs.ext.trans (Ext.to e)))) ?_)
  by_cases hip : i < pre.length
  · have hsi : s ∈ pre := by
      rw [List.getElem?_append_left hip] at hls
      exact List.mem_of_getElem? hls
    have hx := idxP_find_none (hpre s hsi)
    rw [hgc] at hx
    rw [hx]
    repeat (first | refine zr ?_ | (refine zn ?_; intro _))
    refine ⟨k - 1, by omega, _, _, ?_, List.Sublist.cons _ (List.Sublist.refl _), i + 1, by omega, rfl, rfl⟩
    exact ⟨rfl, rfl, rfl, rfl, rfl, rfl, rfl, rfl, trivial⟩
  · have hsi : s = s0 := by
      rw [List.getElem?_append_right (by omega), show i - pre.length = 0 from by omega] at hls
      cases hls; rfl
    subst hsi
    obtain ⟨q, hq, hx⟩ := idxP_find h0
    rw [hgc] at hq hx
    rw [hx]
    repeat (first | refine zr ?_ | (refine zn ?_; intro _))
    have hqn : q < cv.mN := by
      have h1 := (List.getElem?_eq_some_iff.1 hq).1
      have h2 := (hcls H (ExtBut.refl _ _)).1
      rw [flat_len (z := 9) (fun _ => rfl)] at h2
      omega
    refine exec_draw (lst := [(0, 0), (1, 0), (2, 2), (3, 0), (4, 14), (5, 30), (6, 1), (7, 127), (8, 255)]) (full := 511) (by kernel_rfl) (by kernel_rfl) (by kernel_rfl) (by kernel_rfl) ?_
    repeat (first | refine zd ?_)
    try refine draw_nil ?_
    (first | apply ops_pl rfl rfl rfl ?_ rfl ?_ | apply draw_pl rfl rfl rfl rfl ?_ rfl rfl ?_); rotate_left; focus exact (.p rfl (opP_idx rfl rfl (hcls H (ExtBut.refl _ _)) rfl rfl (by omega) (by omega)))
    (first | apply ops_pl rfl rfl rfl ?_ rfl ?_ | apply draw_pl rfl rfl rfl rfl ?_ rfl rfl ?_); rotate_left; focus exact (.l rfl (fun H hs => opL_load rfl ((hcls.at hs).ldA rfl (by decide) hqn (flat_at (f := MV.cells) (fun _ => rfl) hq))))
    repeat (first | refine zd ?_)
    try refine draw_nil ?_
    skip
    refine draw_w rfl rfl rfl rfl rfl rfl (step_storeZ 1 rfl rfl rfl rfl rfl rfl rfl rfl rfl ⟨by repeat (first | exact True.intro | refine And.intro (.inr ⟨veq_refl rfl, (fun H hs => opL_load rfl ((hcls.at hs).ldA rfl (by decide) hqn (flat_at (f := MV.cells) (fun _ => rfl) hq)))⟩) ?_ | refine zs1 ?_), ?_⟩)
    repeat (first | refine zd ?_)
    try refine draw_nil ?_
    repeat (first | refine zr ?_ | (refine zn ?_; intro _))
    exact ⟨trivial, [_, _, _], ⟨rfl, look_agg 1 rfl rfl rfl rfl, rfl, trivial⟩, rfl⟩
end Go.Proofs.Ythifbkjkiijkoaa

