/-
  Walks: fields found; an object's methods.
-/
import Derived.Test.YthifbkjkiijkoaaNear2
import Derived.Test.YthifbkjkiijkoaaNear3
namespace Go.Proofs.Ythifbkjkiijkoaa
open Go.Ev Go.Ev.Wk
set_option linter.unusedVariables false
set_option linter.unusedSimpArgs false
variable {O : Old}


abbrev FV.val (f : FV) : Value := .agg f.cells.toArray

set_option maxHeartbeats 8000000 in
set_option maxRecDepth 100000 in
theorem idxField_ok {H : Heap} {a : Option Addr} {n c g : Nat} {fa fb : Array Value} {l : List FV} (p : FV → Bool) (hs0 : Sl O H (.slice a n c) 4 n (l.flatMap FV.cells)) (hn : n ≤ 1000000)
    (hf : ∀ f ∈ l, ∀ H', Ext H H' → CallC TT O g (fa.toList ++ [f.val] ++ fb.toList) H' fun v H'' => v = .bool (p f) ∧ Ext H' H'') :
    CallC TT O 57 [.slice a n c, .func (.func g) fa fb] H fun v H' => v = .int .i64 (idxP p l) ∧ Ext H H' := by
  have hl : l.length = n := by have := hs0.1; rw [flat_len (z := 4) (fun _ => rfl)] at this; omega
  refine call_pure rfl rfl rfl rfl rfl ?_
  repeat (first | refine zr ?_ | (refine zn ?_; intro _))
  refine ExecS.weak (E' := [(0, .slice a n c), (1, .func (.func g) fa fb), (7, .int .i64 (n : Int)), (8, .int .i64 ((0 : Nat) : Int))]) ⟨rfl, rfl, rfl, rfl, trivial⟩ (List.Sublist.refl _) ?_
  refine exec_loop (fun k E L => ∃ i : Nat, i + k = n ∧ (∀ j y, j < i → l[j]? = some y → p y = false) ∧ E = [(0, .slice a n c), (1, .func (.func g) fa fb), (7, .int .i64 (n : Int)), (8, .int .i64 (i : Int))] ∧ L = []) ?_ n _ _ ⟨0, by omega, fun j y hj => by omega, rfl, rfl⟩
  rintro k E L ⟨i, hik, hpre, rfl, rfl⟩
  repeat (first | refine zr ?_ | (refine zn ?_; intro _))
  refine exec_cond rfl (fun hlt => ?_) (fun hge => ?_)
  · have hi : i < n := by simp at hlt; omega
    obtain ⟨y, hy⟩ : ∃ y, l[i]? = some y := ⟨_, List.getElem?_eq_getElem (by omega)⟩
    repeat (first | refine zr ?_ | (refine zn ?_; intro _))
    (first | apply ops_pl rfl rfl rfl ?_ rfl ?_ | apply draw_pl rfl rfl rfl rfl ?_ rfl rfl ?_); rotate_left; focus exact (.p rfl (opP_idx rfl rfl hs0 rfl rfl (by omega) (by omega)))
    (first | apply ops_pl rfl rfl rfl ?_ rfl ?_ | apply draw_pl rfl rfl rfl rfl ?_ rfl rfl ?_); rotate_left; focus exact (.l rfl (fun H hs => opL_load rfl ((hs0.at hs).ldA rfl (by decide) hi (flat_at (f := FV.cells) (fun _ => rfl) hy))))
    repeat (first | refine zr ?_ | (refine zn ?_; intro _))
    refine ops_step rfl rfl rfl (step_call_pure rfl rfl rfl (fun H hs => hf y (List.mem_of_getElem? hy) H hs.ext) ?_)
    cases hxy : p y
    · repeat (first | refine zr ?_ | (refine zn ?_; intro _))
      refine ⟨k - 1, by omega, _, _, ?_, List.Sublist.refl _, i + 1, by omega, fun j z hj hz => ?_, rfl, rfl⟩
      · exact ⟨rfl, rfl, rfl, rfl, trivial⟩
      · by_cases hji : j = i
        · subst hji
          rw [hy] at hz
          cases hz
          exact hxy
        · exact hpre j z (by omega) hz
    · repeat (first | refine zr ?_ | (refine zn ?_; intro _))
      exact ⟨trivial, _, rfl, by rw [idxP_some hy hxy hpre]; rfl⟩
  · have hi : n ≤ i := by simp at hge; omega
    repeat (first | refine zr ?_ | (refine zn ?_; intro _))
    refine ⟨trivial, _, rfl, ?_⟩
    rw [idxP_none fun j y hj => hpre j y (by have := (List.getElem?_eq_some_iff.1 hj).1; omega) hj]
    rfl


/-- a field of that name, static or not -/
def isF (nm : List UInt8) (st : Bool) (f : FV) : Bool := decide (f.nm = nm) && (f.st == st)

set_option maxHeartbeats 8000000 in
set_option maxRecDepth 100000 in
theorem fieldFn_ok {H : Heap} {f : FV} {b6 b7 : Nat} {nm : List UInt8} {st : Bool} (hb : Keep [] H fun H' => Has H' b6 (.cells 0 [str nm] 0 9) ∧ Has H' b7 (.cells 0 [.bool st] 0 4)) :
    CallC TT O 58 [f.val, ptr b6, ptr b7] H fun v H' => v = .bool (isF nm st f) ∧ Ext H H' := by
  refine call_pure rfl rfl rfl rfl rfl ?_
  repeat (first | refine zr ?_ | (refine zn ?_; intro _))
  (first | apply ops_pl rfl rfl rfl ?_ rfl ?_ | apply draw_pl rfl rfl rfl rfl ?_ rfl rfl ?_); rotate_left; focus exact (.l rfl (look_hasO (fun H hs => (hb.at hs).1) rfl rfl rfl))
  repeat (first | refine zr ?_ | (refine zn ?_; intro _))
  rw [show ((⟨⟨f.nm⟩⟩ : ByteArray).data.toList == (⟨⟨nm⟩⟩ : ByteArray).data.toList) = decide (f.nm = nm) from baEq _ _]
  cases hx : decide (f.nm = nm)
  · repeat (first | refine zr ?_ | (refine zn ?_; intro _))
    exact ⟨trivial, _, rfl, by rw [isF, hx]; rfl⟩
  repeat (first | refine zr ?_ | (refine zn ?_; intro _))
  (first | apply ops_pl rfl rfl rfl ?_ rfl ?_ | apply draw_pl rfl rfl rfl rfl ?_ rfl rfl ?_); rotate_left; focus exact (.l rfl (look_hasO (fun H hs => (hb.at hs).2) rfl rfl rfl))
  repeat (first | refine zr ?_ | (refine zn ?_; intro _))
  exact ⟨trivial, _, rfl, by rw [isF, hx]; rfl⟩

set_option maxHeartbeats 8000000 in
set_option maxRecDepth 100000 in
theorem field_ok {H : Heap} {tb mb : Nat} {lv : Value} {g : List UInt8 → Option CV} {s nm : List UInt8} {st : Bool} {pre post : List (List UInt8)} {s0 : List UInt8} {f0 : FV} (ht : TreeK O H tb mb lv g) (hc : ChainOf g s (pre ++ s0 :: post)) (hln : (pre ++ s0 :: post).length ≤ 1000)
    (hg : ∀ s ∈ pre ++ [s0], ∃ c, g s = some c ∧ c.core = true ∧ c.fl.length ≤ 1000000)
    (hpre : ∀ s ∈ pre, (getC g s).fl.find? (isF nm st) = none) (h0 : (getC g s0).fl.find? (isF nm st) = some f0) :
    CallC TT O 29 [ptr tb, str s, str nm, .bool st] H fun v H' => v = .tuple #[str s0, f0.val, .bool true] ∧ Ext H H' := by
  refine call_pureM rfl rfl rfl rfl rfl ?_
  repeat (first | refine zr ?_ | (refine zn ?_; intro _))
  refine ops_step rfl rfl rfl (step_call_fp [] _ rfl rfl rfl (List.Perm.refl _) (fun H hs hst => chain_ok hst (ht.pure hs) hc hln) (fun v F' h => ?_))
  obtain ⟨a, n, c, pa, rfl, rfl, own⟩ := h
  have hn : (pre ++ s0 :: post).length = n := by have := own.len; simpa using this
  repeat (first | refine zr ?_ | (refine zn ?_; intro _))
  rename_i b6 b7 rb
  refine ExecS.weak (E' := [(0, ptr tb), (6, ptr b6), (7, ptr b7), (8, str []), (9, ptr rb), (10, .bool false), (21, .slice a n c), (22, .int .i64 (n : Int)), (23, .int .i64 ((0 : Nat) : Int))]) ⟨rfl, rfl, rfl, rfl, rfl, rfl, rfl, rfl, rfl, trivial⟩ (List.Sublist.refl _) ?_
  refine exec_loop (fun k E L => ∃ i : Nat, i + k = pre.length ∧ E = [(0, ptr tb), (6, ptr b6), (7, ptr b7), (8, str []), (9, ptr rb), (10, .bool false), (21, .slice a n c), (22, .int .i64 (n : Int)), (23, .int .i64 (i : Int))] ∧ L = [pa, (some rb, .cells 0 [str [], .int .i64 0, str [], .bool false] 0 59), (some b7, .cells 0 [.bool st] 0 4), (some b6, .cells 0 [str nm] 0 9)]) ?_ pre.length _ _ ⟨0, by omega, rfl, rfl⟩
  rintro k E L ⟨i, hik, rfl, rfl⟩
  have hi : i < n := by rw [List.length_append, List.length_cons] at hn; omega
  obtain ⟨s, hls, hmem⟩ : ∃ s, (pre ++ s0 :: post)[i]? = some s ∧ s ∈ pre ++ [s0] := by
    by_cases h : i < pre.length
    · exact ⟨pre[i], by rw [List.getElem?_append_left h, List.getElem?_eq_getElem h], List.mem_append.2 (.inl (List.getElem_mem h))⟩
    · refine ⟨s0, ?_, by simp⟩
      rw [List.getElem?_append_right (by omega), show i - pre.length = 0 from by omega]; rfl
  obtain ⟨cv, hgs, hcore, hmL⟩ := hg s hmem
  have hgc : getC g s = cv := by rw [getC, hgs]; rfl
  have hcls := ht.mono (Q := fun H' => Sl O H' (.slice cv.fa cv.fN cv.fc) 4 cv.fN (cv.fl.flatMap FV.cells)) (fun H' h => (h.cls s cv hgs).fs hcore)
  have hmN : cv.fN ≤ 1000000 := by
    have h2 := (hcls H (ExtBut.refl _ _)).1
    rw [flat_len (z := 4) (fun _ => rfl)] at h2
    omega
  repeat (first | refine zr ?_ | (refine zn ?_; intro _))
  rw [show decide ((i : Int) < (n : Int)) = true from by simp; omega]
  repeat (first | refine zr ?_ | (refine zn ?_; intro _))
  (first | apply ops_pl rfl rfl rfl ?_ rfl ?_ | apply draw_pl rfl rfl rfl rfl ?_ rfl rfl ?_); rotate_left; focus exact (.p rfl (opP_idxA own rfl rfl rfl rfl (by omega) (by omega)))
  (first | apply ops_pl rfl rfl rfl ?_ rfl ?_ | apply draw_pl rfl rfl rfl rfl ?_ rfl rfl ?_); rotate_left; focus exact (.l rfl (fun H hs => opL_load rfl ((OwnA.slM own hs (by first | exact List.mem_of_getElem? (i := 0) rfl | exact List.mem_of_getElem? (i := 1) rfl | exact List.mem_of_getElem? (i := 2) rfl | exact List.mem_of_getElem? (i := 3) rfl | exact List.mem_of_getElem? (i := 4) rfl | exact List.mem_of_getElem? (i := 5) rfl | exact List.mem_of_getElem? (i := 6) rfl | exact List.mem_of_getElem? (i := 7) rfl)).ld rfl (str_get hls))))
  repeat (first | refine zr ?_ | (refine zn ?_; intro _))
  refine ops_step rfl rfl rfl (step_call_pure rfl rfl rfl (fun H hs => class_ok (s := s) (ht.pure hs)) ?_)
  rw [hgc, hgs]
  repeat (first | refine zr ?_ | (refine zn ?_; intro _))
  refine ops_step rfl rfl rfl (step_call_pure rfl rfl rfl (fun H hs => idxField_ok (fa := #[]) (fb := #[ptr b6, ptr b7]) (isF nm st) (hcls.at hs) hmN (fun f hf H' e => fieldFn_ok (fun H'' e' => ⟨((hs.extend e).extend e').has _ _ (by simp), ((hs.extend e).extend e').has _ _ (by simp)⟩))) ?_)
  by_cases hip : i < pre.length
  · have hsi : s ∈ pre := by
      rw [List.getElem?_append_left hip] at hls
      exact List.mem_of_getElem? hls
    have hx := idxP_find_none (hpre s hsi)
    rw [hgc] at hx
    rw [hx]
    repeat (first | refine zr ?_ | (refine zn ?_; intro _))
    refine ⟨k - 1, by omega, _, _, ?_, List.Sublist.cons _ (List.Sublist.refl _), i + 1, by omega, rfl, rfl⟩
    exact ⟨rfl, rfl, rfl, rfl, rfl, rfl, rfl, rfl, rfl, trivial⟩
  · have hsi : s = s0 := by
      rw [List.getElem?_append_right (by omega), show i - pre.length = 0 from by omega] at hls
      cases hls; rfl
    subst hsi
    obtain ⟨q, hq, hx⟩ := idxP_find h0
    rw [hgc] at hq hx
    rw [hx]
    repeat (first | refine zr ?_ | (refine zn ?_; intro _))
    have hqn : q < cv.fN := by
      have h1 := (List.getElem?_eq_some_iff.1 hq).1
      have h2 := (hcls H (ExtBut.refl _ _)).1
      rw [flat_len (z := 4) (fun _ => rfl)] at h2
      omega
    refine exec_draw (lst := [(0, 0), (1, 0), (2, 2), (3, 0), (4, 14), (5, 30), (6, 1), (7, 127), (8, 255)]) (full := 511) (by kernel_rfl) (by kernel_rfl) (by kernel_rfl) (by kernel_rfl) ?_
    repeat (first | refine zd ?_)
    try refine draw_nil ?_
    (first | apply ops_pl rfl rfl rfl ?_ rfl ?_ | apply draw_pl rfl rfl rfl rfl ?_ rfl rfl ?_); rotate_left; focus exact (.p rfl (opP_idx rfl rfl (hcls H (ExtBut.refl _ _)) rfl rfl (by omega) (by omega)))
    (first | apply ops_pl rfl rfl rfl ?_ rfl ?_ | apply draw_pl rfl rfl rfl rfl ?_ rfl rfl ?_); rotate_left; focus exact (.l rfl (fun H hs => opL_load rfl ((hcls.at hs).ldA rfl (by decide) hqn (flat_at (f := FV.cells) (fun _ => rfl) hq))))
    repeat (first | refine zd ?_)
    try refine draw_nil ?_
    skip
    refine draw_w rfl rfl rfl rfl rfl rfl (step_storeZ 2 rfl rfl rfl rfl rfl rfl rfl rfl rfl ⟨by repeat (first | exact True.intro | refine And.intro (.inr ⟨veq_refl rfl, (fun H hs => opL_load rfl ((hcls.at hs).ldA rfl (by decide) hqn (flat_at (f := FV.cells) (fun _ => rfl) hq)))⟩) ?_ | refine zs1 ?_), ?_⟩)
    repeat (first | refine zd ?_)
    try refine draw_nil ?_
    repeat (first | refine zr ?_ | (refine zn ?_; intro _))
    exact ⟨trivial, [_, _, _], ⟨rfl, look_agg 2 rfl rfl rfl rfl, rfl, trivial⟩, rfl⟩


/-- a test of methods: of that name -/
def isN (m : MV) : Bool := decide (m.nm = nameB)

set_option maxHeartbeats 8000000 in
set_option maxRecDepth 100000 in
theorem virtual_ok {H : Heap} {tb mb : Nat} {lv : Value} {g : List UInt8 → Option CV} {s : List UInt8} {pre post : List (List UInt8)} {s0 : List UInt8} {m0 : MV} (ht : TreeK O H tb mb lv g) (hc : ChainOf g s (pre ++ s0 :: post)) (hln : (pre ++ s0 :: post).length ≤ 1000)
    (hg : ∀ s ∈ pre ++ [s0], ∃ c, g s = some c ∧ c.core = true ∧ c.mN ≤ 1000000) (hm : ∀ s ∈ pre ++ [s0], okMs (getC g s).ml)
    (hpre : ∀ s ∈ pre, (getC g s).ml.find? isN = none) (h0 : (getC g s0).ml.find? isN = some m0) :
    CallC TT O 30 [ptr tb, str s, str nameB, str dS] H fun v H' => v = .tuple #[str s0, m0.val, .bool true] ∧ Ext H H' := by
  refine call_pureM rfl rfl rfl rfl rfl ?_
  repeat (first | refine zr ?_ | (refine zn ?_; intro _))
  refine ops_step rfl rfl rfl (step_call_fp [] _ rfl rfl rfl (List.Perm.refl _) (fun H hs hst => named_ok hst) (fun v F' h => ?_))
  obtain ⟨b2, b3, rfl, rfl⟩ := h
  repeat (first | refine zr ?_ | (refine zn ?_; intro _))
  rename_i rb b1
  refine ops_step rfl rfl rfl (step_call_fp [] _ rfl rfl rfl (List.Perm.refl _) (fun H hs hst => chain_ok hst (ht.pure hs) hc hln) (fun v F' h => ?_))
  obtain ⟨a, n, c, pa, rfl, rfl, own⟩ := h
  have hn : (pre ++ s0 :: post).length = n := by have := own.len; simpa using this
  repeat (first | refine zr ?_ | (refine zn ?_; intro _))
  refine ops_step rfl rfl rfl (step_call_pure rfl rfl rfl (fun H hs => find_ok (fa := #[]) (fb := #[ptr b1]) isN (ht.pure hs) (own.slM hs (by simp)).toX (by omega) hg (fun s hs' m hm' H' e => virtFn_ok (b1 := b1) (b2 := b2) (b3 := b3) (hm s hs' m hm') (fun H'' e' => ((hs.extend e).extend e').has _ _ (by simp)) (fun H'' e' => ⟨((hs.extend e).extend e').has _ _ (by simp), ((hs.extend e).extend e').has _ _ (by simp)⟩)) hpre h0) ?_)
  repeat (first | refine zr ?_ | (refine zn ?_; intro _))

  repeat (first | refine zrb ?_ | (refine zn ?_; intro _))
  exact ⟨trivial, [_, _, _], ⟨rfl, look_agg 4 rfl rfl rfl rfl, rfl, trivial⟩, rfl⟩

set_option maxHeartbeats 8000000 in
set_option maxRecDepth 100000 in
theorem method_ok {H : Heap} {tb mb : Nat} {lv : Value} {g : List UInt8 → Option CV} {s : List UInt8} {pre post il : List (List UInt8)} {s0 : List UInt8} {m0 : MV} {fu : Nat} (ht : TreeK O H tb mb lv g) (hc : ChainOf g s (pre ++ s0 :: post)) (hln : (pre ++ s0 :: post).length ≤ 1000) (hi : ifsF g fu (pre ++ s0 :: post) [] = some il) (hil : il.length ≤ 1000)
    (hg : ∀ s ∈ pre ++ [s0], ∃ c, g s = some c ∧ c.core = true ∧ c.mN ≤ 1000000) (hm : ∀ s ∈ pre ++ [s0], okMs (getC g s).ml)
    (hpre : ∀ s ∈ pre, (getC g s).ml.find? isN = none) (h0 : (getC g s0).ml.find? isN = some m0) :
    CallC TT O 31 [ptr tb, str s, str nameB, str dS] H fun v H' => v = .tuple #[str s0, m0.val, .bool true] ∧ Ext H H' := by
  refine call_pureM rfl rfl rfl rfl rfl ?_
  repeat (first | refine zrb ?_ | (refine zn ?_; intro _))
  rename_i rb
  refine ops_step rfl rfl rfl (step_call_fp [] _ rfl rfl rfl (List.Perm.refl _) (fun H hs hst => chain_ok hst (ht.pure hs) hc hln) (fun v F' h => ?_))
  obtain ⟨a, n, c, pa, rfl, rfl, own⟩ := h
  have hn : (pre ++ s0 :: post).length = n := by have := own.len; simpa using this
  repeat (first | refine zrb ?_ | (refine zn ?_; intro _))
  refine ops_step rfl rfl rfl (step_call_fp [] _ rfl rfl rfl (List.Perm.refl _) (fun H hs hst => ifaces_ok hst (ht.pure hs) hc hln hi hil) (fun v F' h => ?_))
  obtain ⟨ia, iN, ic, pi, rfl, rfl, owni⟩ := h
  have hin : il.length = iN := by have := owni.len; simpa using this
  repeat (first | refine zrb ?_ | (refine zn ?_; intro _))
  refine ops_step rfl rfl rfl (step_append 1 1 rfl rfl rfl rfl rfl rfl rfl rfl own (fun H hs => (owni.slM hs (by simp)).src) rfl (by first | rfl | exact allCell_map (fun _ => rfl) _) (by first | rfl | (simp; done) | (simp; omega)) (by omega) (fun a2 c2 p2 own2 => ?_))
  rw [← List.map_append, show pre ++ s0 :: post ++ il = pre ++ s0 :: (post ++ il) from by simp] at own2
  repeat (first | refine zrb ?_ | (refine zn ?_; intro _))
  refine ops_step rfl rfl rfl (step_call_fp [] _ rfl rfl rfl (List.Perm.refl _) (fun H hs hst => named_ok hst) (fun v F' h => ?_))
  obtain ⟨b2, b3, rfl, rfl⟩ := h
  repeat (first | refine zrb ?_ | (refine zn ?_; intro _))
  refine ops_step rfl rfl rfl (step_call_pure rfl rfl rfl (fun H hs => find_ok (fa := #[]) (fb := #[ptr b2, ptr b3]) (pre := pre) (post := post ++ il) isN (ht.pure hs) (own2.slM hs (by simp)).toX (by omega) hg (fun s hs' m hm' H' e => namedFn_ok (b2 := b2) (b3 := b3) (hm s hs' m hm') (fun H'' e' => ⟨((hs.extend e).extend e').has _ _ (by simp), ((hs.extend e).extend e').has _ _ (by simp)⟩)) hpre h0) ?_)
  repeat (first | refine zrb ?_ | (refine zn ?_; intro _))
  exact ⟨trivial, [_, _, _], ⟨rfl, look_agg 4 rfl rfl rfl rfl, rfl, trivial⟩, rfl⟩
end Go.Proofs.Ythifbkjkiijkoaa

