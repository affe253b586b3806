/-
  Walks: the reference's tree: lists searched, classes.
-/
import Derived.Test.YthifbkjkiijkoaaLat1
namespace Go.Proofs.Ythifbkjkiijkoaa
open Go.Ev Go.Ev.Wk
set_option linter.unusedVariables false
set_option linter.unusedSimpArgs false
variable {O : Old}


set_option maxHeartbeats 8000000 in
set_option maxRecDepth 100000 in
theorem rin_ok {H : Heap} {a : Option Addr} {n c : Nat} {l : List (List UInt8)} {x : List UInt8} (hs0 : Sl O H (.slice a n c) 1 n (l.map str)) (hn : n ≤ 1000000) :
    CallC TT O 75 [.slice a n c, str x] H fun v H' => v = .bool (decide (x ∈ l)) ∧ Ext H H' := by
  have hl : l.length = n := by have := hs0.1; simpa using this
  refine call_pure rfl rfl rfl rfl rfl ?_
  repeat (first | refine zr ?_ | (refine zn ?_; intro _))
  refine ExecS.weak (E' := [(0, .slice a n c), (1, str x), (5, .int .i64 ((0 : Nat) : Int))]) ⟨rfl, rfl, rfl, trivial⟩ (List.Sublist.refl _) ?_
  refine exec_loop (fun k E L => ∃ i : Nat, i + k = n ∧ (∀ j y, j < i → l[j]? = some y → y ≠ x) ∧ E = [(0, .slice a n c), (1, str x), (5, .int .i64 (i : Int))] ∧ L = []) ?_ n _ _ ⟨0, by omega, fun j y hj => by omega, rfl, rfl⟩
  rintro k E L ⟨i, hik, hpre, rfl, rfl⟩
  repeat (first | refine zr ?_ | (refine zn ?_; intro _))
  refine exec_cond rfl (fun hlt => ?_) (fun hge => ?_)
  · have hi : i < n := by simp at hlt; omega
    obtain ⟨y, hy⟩ : ∃ y, l[i]? = some y := ⟨_, List.getElem?_eq_getElem (by omega)⟩
    repeat (first | refine zr ?_ | (refine zn ?_; intro _))
    (first | apply ops_pl rfl rfl rfl ?_ rfl ?_ | apply draw_pl rfl rfl rfl rfl ?_ rfl rfl ?_); rotate_left; focus exact (.p rfl (opP_idx rfl rfl hs0 rfl rfl (by omega) (by omega)))
    (first | apply ops_pl rfl rfl rfl ?_ rfl ?_ | apply draw_pl rfl rfl rfl rfl ?_ rfl rfl ?_); rotate_left; focus exact (.l rfl (fun H hs => opL_load rfl ((hs0.at hs).ld rfl (str_get hy))))
    repeat (first | refine zr ?_ | (refine zn ?_; intro _))
    rw [show ((⟨⟨y⟩⟩ : ByteArray).data.toList == (⟨⟨x⟩⟩ : ByteArray).data.toList) = decide (y = x) from baEq _ _]
    cases hxy : decide (y = x)
    · have hne := of_decide_eq_false hxy
      repeat (first | refine zr ?_ | (refine zn ?_; intro _))
      refine ⟨k - 1, by omega, _, _, ?_, List.Sublist.refl _, i + 1, by omega, fun j z hj hz => ?_, rfl, rfl⟩
      · exact ⟨rfl, rfl, rfl, trivial⟩
      · by_cases hji : j = i
        · subst hji
          rw [hy] at hz
          cases hz
          exact hne
        · exact hpre j z (by omega) hz
    · have he := of_decide_eq_true hxy
      subst he
      repeat (first | refine zr ?_ | (refine zn ?_; intro _))
      exact ⟨trivial, _, rfl, by rw [decide_eq_true (List.mem_of_getElem? hy)]; rfl⟩
  · have hi : n ≤ i := by simp at hge; omega
    repeat (first | refine zr ?_ | (refine zn ?_; intro _))
    refine ⟨trivial, _, rfl, ?_⟩
    rw [decide_eq_false fun hm => by
      obtain ⟨j, hj⟩ := List.getElem?_of_mem hm
      exact hpre j x (by have := (List.getElem?_eq_some_iff.1 hj).1; omega) hj rfl]
    rfl

def biN : List (List UInt8) := [objB, fauB, nulB, bouB, casB, zerB, sizB]

theorem biC_isSome (s : List UInt8) : (biC s).isSome = decide (s ∈ biN) := by
  by_cases h : s ∈ biN
  · rw [decide_eq_true h]
    simp only [biN, List.mem_cons, List.not_mem_nil, or_false] at h
    rcases h with rfl | rfl | rfl | rfl | rfl | rfl | rfl <;> rfl
  · rw [decide_eq_false h]
    simp only [biN, List.mem_cons, List.not_mem_nil, or_false, not_or] at h
    obtain ⟨h1, h2, h3, h4, h5, h6, h7⟩ := h
    rw [biC, if_neg h7, if_neg h6, if_neg h5, if_neg h4, if_neg h3, if_neg h2, if_neg h1]; rfl

set_option maxHeartbeats 8000000 in
set_option maxRecDepth 100000 in
theorem rbuiltin_ok {H : Heap} {s : List UInt8} : CallC TT O 96 [str s] H fun v H' => v = .bool (biC s).isSome ∧ Ext H H' := by
  refine call_pure rfl rfl rfl rfl rfl ?_
  repeat (first | refine zr ?_ | (refine zn ?_; intro _))
  refine ops_step rfl rfl rfl (step_call_pure rfl rfl rfl (fun H hs => rin_ok (l := biN) (Sl.own hs (i := 0) rfl rfl 7) (by decide)) ?_)
  repeat (first | refine zr ?_ | (refine zn ?_; intro _))
  exact ⟨trivial, _, rfl, by rw [biC_isSome]; rfl⟩

/-- the reference's tree, as it lies in memory -/
structure RefH (O : Old) (H : Heap) (wb : Nat) (aa : Option Addr) (an ac : Nat) (cl : List CV) : Prop where
  ref : Has H wb (.cells 0 [.slice aa an ac] 0 39)
  cells : Sl O H (.slice aa an ac) 6 an (cl.flatMap CV.cells)
  cls : ∀ c ∈ cl, ClsF O H c
abbrev RefK (O : Old) (H : Heap) (wb : Nat) (aa : Option Addr) (an ac : Nat) (cl : List CV) : Prop := Keep [] H fun H' => RefH O H' wb aa an ac cl

theorem biC_su {s : List UInt8} {c : CV} (h : biC s = some c) : c = bi s (if s = objB then [] else if s = fauB then objB else fauB) := by
  have hm : s ∈ biN := of_decide_eq_true (by rw [← biC_isSome, h]; rfl)
  simp only [biN, List.mem_cons, List.not_mem_nil, or_false] at hm
  rcases hm with rfl | rfl | rfl | rfl | rfl | rfl | rfl <;> (cases h; rfl)

set_option maxHeartbeats 8000000 in
set_option maxRecDepth 100000 in
theorem rsuperB_ok {H : Heap} {wb : Nat} {s : List UInt8} {c : CV} (hb : biC s = some c) :
    CallC TT O 89 [ptr wb, str s] H fun v H' => v = str c.su ∧ Ext H H' := by
  rw [biC_su hb]
  refine call_pure rfl rfl rfl rfl rfl ?_
  repeat (first | refine zr ?_ | (refine zn ?_; intro _))
  rw [show ((⟨⟨s⟩⟩ : ByteArray).data.toList == (⟨⟨[79, 98, 106, 101, 99, 116]⟩⟩ : ByteArray).data.toList) = decide (s = objB) from baEq s objB]
  by_cases h1 : s = objB
  · rw [if_pos h1, decide_eq_true h1]
    repeat (first | refine zr ?_ | (refine zn ?_; intro _))
    exact ⟨trivial, _, rfl, rfl⟩
  rw [if_neg h1, decide_eq_false h1]
  repeat (first | refine zr ?_ | (refine zn ?_; intro _))
  rw [show ((⟨⟨s⟩⟩ : ByteArray).data.toList == (⟨⟨[70, 97, 117, 108, 116]⟩⟩ : ByteArray).data.toList) = decide (s = fauB) from baEq s fauB]
  by_cases h2 : s = fauB
  · rw [if_pos h2, decide_eq_true h2]
    repeat (first | refine zr ?_ | (refine zn ?_; intro _))
    exact ⟨trivial, _, rfl, rfl⟩
  rw [if_neg h2, decide_eq_false h2]
  repeat (first | refine zr ?_ | (refine zn ?_; intro _))
  refine ops_step rfl rfl rfl (step_call_pure rfl rfl rfl (fun H hs => rbuiltin_ok) ?_)
  rw [hb]
  repeat (first | refine zr ?_ | (refine zn ?_; intro _))
  exact ⟨trivial, _, rfl, rfl⟩

theorem cells_nm {cl : List CV} {i : Nat} {c : CV} (h : cl[i]? = some c) : (cl.flatMap CV.cells)[i * 6 + 0]? = some (str c.nm) := by
  have h2 := cells_at h
  have h3 : ((cl.flatMap CV.cells).drop (i * 6)).take 6 = c.cells := h2
  have h4 : (((cl.flatMap CV.cells).drop (i * 6)).take 6)[0]? = some (str c.nm) := by rw [h3]; rfl
  rw [List.getElem?_take, if_pos (by decide), List.getElem?_drop] at h4
  exact h4

theorem find_first {cl : List CV} {s : List UInt8} {i : Nat} {c : CV} (h : cl[i]? = some c) (hs : c.nm = s) (hp : ∀ j d, j < i → cl[j]? = some d → d.nm ≠ s) : (cl.find? fun c => decide (c.nm = s)) = some c := by
  obtain ⟨hi, rfl⟩ := List.getElem?_eq_some_iff.1 h
  rw [List.find?_eq_some_iff_getElem]
  refine ⟨decide_eq_true hs, i, hi, rfl, fun j hj => ?_⟩
  have := hp j cl[j] hj (List.getElem?_eq_getElem (by omega))
  simpa using this

set_option maxHeartbeats 8000000 in
set_option maxRecDepth 100000 in
theorem rclass_ok {H : Heap} {wb : Nat} {aa : Option Addr} {an ac : Nat} {cl : List CV} {s : List UInt8} (ht : RefK O H wb aa an ac cl) (hn : an ≤ 1000000) :
    CallC TT O 88 [ptr wb, str s] H fun v H' => v = .tuple #[(getC (gOf cl) s).val, .bool (gOf cl s).isSome] ∧ Ext H H' := by
  have hcl : cl.length = an := by
    have h1 := (ht H (ExtBut.refl _ _)).cells.1
    have h2 : ∀ l : List CV, (l.flatMap CV.cells).length = l.length * 6 := by
      intro l
      induction l with
      | nil => rfl
      | cons c l ih => rw [List.flatMap_cons, List.length_append, ih, List.length_cons]; show 6 + l.length * 6 = (l.length + 1) * 6; omega
    rw [h2] at h1
    omega
  refine call_pureM rfl rfl rfl rfl rfl ?_
  repeat (first | refine zr ?_ | (refine zn ?_; intro _))
  refine ops_step rfl rfl rfl (step_call_pure rfl rfl rfl (fun H hs => rbuiltin_ok) ?_)
  cases hb : biC s with
  | some c =>
    have hg : gOf cl s = some c := by unfold gOf; rw [hb]
    rw [show getC (gOf cl) s = c from by rw [getC, hg]; rfl, hg]
    have hc := biC_su hb
    repeat (first | refine zr ?_ | (refine zn ?_; intro _))
    refine ops_step rfl rfl rfl (step_call_pure rfl rfl rfl (fun H hs => rsuperB_ok hb) ?_)
    repeat (first | refine zr ?_ | (refine zn ?_; intro _))
    refine ⟨trivial, [_, _], ⟨look_agg 0 rfl rfl rfl rfl, rfl, trivial⟩, ?_⟩
    rw [hc]; rfl
  | none =>
    have hg : gOf cl s = cl.find? fun c => decide (c.nm = s) := by unfold gOf; rw [hb]
    have hS : SlX [] O H (.slice aa an ac) 6 an (cl.flatMap CV.cells) := ht.mono fun H' h => h.cells
    have hS0 := hS H (ExtBut.refl _ _)
    repeat (first | refine zr ?_ | (refine zn ?_; intro _))
    rename_i rb
    refine ExecS.weak (E' := [(0, ptr wb), (1, str s), (4, ptr rb), (5, .bool false), (6, .int .i64 ((0 : Nat) : Int))]) ⟨rfl, rfl, rfl, rfl, rfl, trivial⟩ (List.Sublist.refl _) ?_
    refine exec_loop (fun k E L => ∃ i : Nat, i + k = an ∧ (∀ j d, j < i → cl[j]? = some d → d.nm ≠ s) ∧ E = [(0, ptr wb), (1, str s), (4, ptr rb), (5, .bool false), (6, .int .i64 (i : Int))] ∧ L = [(some rb, .cells 0 [str [], str [], .slice none 0 0, .int .i64 0, .slice none 0 0, .slice none 0 0] 0 70)]) ?_ an _ _ ⟨0, by omega, fun j d hj => by omega, rfl, rfl⟩
    rintro k E L ⟨i, hik, hpre, rfl, rfl⟩
    repeat (first | refine zr ?_ | (refine zn ?_; intro _))
    (first | apply ops_pl rfl rfl rfl ?_ rfl ?_ | apply draw_pl rfl rfl rfl rfl ?_ rfl rfl ?_); rotate_left; focus exact (.l rfl (look_hasO (fun H hs => (ht.at hs).ref) rfl rfl rfl))
    repeat (first | refine zr ?_ | (refine zn ?_; intro _))
    refine exec_cond rfl (fun hlt => ?_) (fun hge => ?_)
    · have hi : i < an := by simp at hlt; omega
      obtain ⟨c, hc⟩ : ∃ c, cl[i]? = some c := ⟨_, List.getElem?_eq_getElem (by omega)⟩
      repeat (first | refine zr ?_ | (refine zn ?_; intro _))
      (first | apply ops_pl rfl rfl rfl ?_ rfl ?_ | apply draw_pl rfl rfl rfl rfl ?_ rfl rfl ?_); rotate_left; focus exact (.l rfl (look_hasO (fun H hs => (ht.at hs).ref) rfl rfl rfl))
      repeat (first | refine zr ?_ | (refine zn ?_; intro _))
      (first | apply ops_pl rfl rfl rfl ?_ rfl ?_ | apply draw_pl rfl rfl rfl rfl ?_ rfl rfl ?_); rotate_left; focus exact (.p rfl (opP_idx rfl rfl hS0 rfl rfl (by omega) (by omega)))
      first | refine ops_pl rfl rfl rfl (.p rfl (opP_part rfl hS0 (by omega) rfl)) rfl ?_ | refine draw_pl rfl rfl rfl rfl (.p rfl (opP_part rfl hS0 (by omega) rfl)) rfl rfl ?_
      (first | apply ops_pl rfl rfl rfl ?_ rfl ?_ | apply draw_pl rfl rfl rfl rfl ?_ rfl rfl ?_); rotate_left; focus exact (.l rfl (fun H hs => opL_load rfl ((hS.at hs).ldP rfl (cells_nm hc))))
      repeat (first | refine zr ?_ | (refine zn ?_; intro _))
      rw [show ((⟨⟨c.nm⟩⟩ : ByteArray).data.toList == (⟨⟨s⟩⟩ : ByteArray).data.toList) = decide (c.nm = s) from baEq _ _]
      by_cases hx : c.nm = s
      · rw [decide_eq_true hx]
        rw [show getC (gOf cl) s = c from by rw [getC, hg, find_first hc hx hpre]; rfl, hg, find_first hc hx hpre]
        repeat (first | refine zr ?_ | (refine zn ?_; intro _))
        (first | apply ops_pl rfl rfl rfl ?_ rfl ?_ | apply draw_pl rfl rfl rfl rfl ?_ rfl rfl ?_); rotate_left; focus exact (.l rfl (look_hasO (fun H hs => (ht.at hs).ref) rfl rfl rfl))
        repeat (first | refine zr ?_ | (refine zn ?_; intro _))
        (first | apply ops_pl rfl rfl rfl ?_ rfl ?_ | apply draw_pl rfl rfl rfl rfl ?_ rfl rfl ?_); rotate_left; focus exact (.p rfl (opP_idx rfl rfl hS0 rfl rfl (by omega) (by omega)))
        (first | apply ops_pl rfl rfl rfl ?_ rfl ?_ | apply draw_pl rfl rfl rfl rfl ?_ rfl rfl ?_); rotate_left; focus exact (.l rfl (fun H hs => opL_load rfl ((hS.at hs).ldA rfl (by decide) hi (cells_at hc))))
        repeat (first | refine zr ?_ | (refine zn ?_; intro _))
        exact ⟨trivial, [_, _], ⟨look_agg 0 rfl rfl rfl rfl, rfl, trivial⟩, rfl⟩
      · rw [decide_eq_false hx]
        repeat (first | refine zr ?_ | (refine zn ?_; intro _))
        refine ⟨k - 1, by omega, _, _, ?_, List.Sublist.refl _, i + 1, by omega, fun j d hj hd => ?_, rfl, rfl⟩
        · exact ⟨rfl, rfl, rfl, rfl, rfl, trivial⟩
        · by_cases hji : j = i
          · subst hji; rw [hc] at hd; cases hd; exact hx
          · exact hpre j d (by omega) hd
    · have hi : an ≤ i := by simp at hge; omega
      have hn : (cl.find? fun c => decide (c.nm = s)) = none := by
        rw [List.find?_eq_none]
        intro c hc
        obtain ⟨j, hj⟩ := List.getElem?_of_mem hc
        have := hpre j c (by have := (List.getElem?_eq_some_iff.1 hj).1; omega) hj
        simpa using this
      rw [show getC (gOf cl) s = CV.zero from by rw [getC, hg, hn]; rfl, hg, hn]
      repeat (first | refine zr ?_ | (refine zn ?_; intro _))
      exact ⟨trivial, [_, _], ⟨look_agg 0 rfl rfl rfl rfl, rfl, trivial⟩, rfl⟩

set_option maxHeartbeats 8000000 in
set_option maxRecDepth 100000 in
theorem rsuper_ok {H : Heap} {wb : Nat} {aa : Option Addr} {an ac : Nat} {cl : List CV} {s : List UInt8} (ht : RefK O H wb aa an ac cl) (hn : an ≤ 1000000) :
    CallC TT O 89 [ptr wb, str s] H fun v H' => v = str (getC (gOf cl) s).su ∧ Ext H H' := by
  cases hb : biC s with
  | some c =>
    have hg : gOf cl s = some c := by unfold gOf; rw [hb]
    rw [show getC (gOf cl) s = c from by rw [getC, hg]; rfl]
    exact rsuperB_ok hb
  | none =>
    have hm : ¬ s ∈ biN := fun h => by
      have := biC_isSome s
      rw [hb, decide_eq_true h] at this
      cases this
    have h1 : ¬ s = objB := fun e => hm (by rw [e]; decide)
    have h2 : ¬ s = fauB := fun e => hm (by rw [e]; decide)
    refine call_pure rfl rfl rfl rfl rfl ?_
    repeat (first | refine zr ?_ | (refine zn ?_; intro _))
    rw [show ((⟨⟨s⟩⟩ : ByteArray).data.toList == (⟨⟨[79, 98, 106, 101, 99, 116]⟩⟩ : ByteArray).data.toList) = decide (s = objB) from baEq s objB, decide_eq_false h1]
    repeat (first | refine zr ?_ | (refine zn ?_; intro _))
    rw [show ((⟨⟨s⟩⟩ : ByteArray).data.toList == (⟨⟨[70, 97, 117, 108, 116]⟩⟩ : ByteArray).data.toList) = decide (s = fauB) from baEq s fauB, decide_eq_false h2]
    repeat (first | refine zr ?_ | (refine zn ?_; intro _))
    refine ops_step rfl rfl rfl (step_call_pure rfl rfl rfl (fun H hs => rbuiltin_ok) ?_)
    rw [hb]
    repeat (first | refine zr ?_ | (refine zn ?_; intro _))
    refine ops_step rfl rfl rfl (step_call_pure rfl rfl rfl (fun H hs => rclass_ok (ht.pure hs) hn) ?_)
    repeat (first | refine zr ?_ | (refine zn ?_; intro _))
    exact ⟨trivial, _, rfl, rfl⟩

set_option maxHeartbeats 8000000 in
set_option maxRecDepth 100000 in
theorem rknown_ok {H : Heap} {wb : Nat} {aa : Option Addr} {an ac : Nat} {cl : List CV} {s : List UInt8} (ht : RefK O H wb aa an ac cl) (hn : an ≤ 1000000) :
    CallC TT O 76 [ptr wb, str s] H fun v H' => v = .bool (gOf cl s).isSome ∧ Ext H H' := by
  refine call_pure rfl rfl rfl rfl rfl ?_
  repeat (first | refine zr ?_ | (refine zn ?_; intro _))
  refine ops_step rfl rfl rfl (step_call_pure rfl rfl rfl (fun H hs => rclass_ok (ht.pure hs) hn) ?_)
  repeat (first | refine zr ?_ | (refine zn ?_; intro _))
  exact ⟨trivial, _, rfl, rfl⟩

set_option maxHeartbeats 8000000 in
set_option maxRecDepth 100000 in
theorem riface_ok {H : Heap} {wb : Nat} {aa : Option Addr} {an ac : Nat} {cl : List CV} {s : List UInt8} {m : TM} (ht : RefK O H wb aa an ac cl) (hn : an ≤ 1000000) (hm : TMok (gOf cl) m) :
    CallC TT O 73 [ptr wb, str s] H fun v H' => v = .bool (m.iface s) ∧ Ext H H' := by
  have hi := hm.iface s
  refine call_pure rfl rfl rfl rfl rfl ?_
  repeat (first | refine zr ?_ | (refine zn ?_; intro _))
  refine ops_step rfl rfl rfl (step_call_pure rfl rfl rfl (fun H hs => rclass_ok (ht.pure hs) hn) ?_)
  cases hg : gOf cl s with
  | none =>
    rw [getC, hg] at hi
    have h0 : m.iface s = false := by
      cases hb : m.iface s with
      | false => rfl
      | true => exact absurd (hi.2 hb) (by decide)
    rw [h0]
    repeat (first | refine zr ?_ | (refine zn ?_; intro _))
    exact ⟨trivial, _, rfl, rfl⟩
  | some c =>
    have hc : getC (gOf cl) s = c := by rw [getC, hg]; rfl
    rw [hc] at hi
    rw [hc]
    repeat (first | refine zr ?_ | (refine zn ?_; intro _))
    refine ⟨trivial, _, rfl, ?_⟩
    cases hb : m.iface s with
    | false =>
      show Value.bool (c.kd == 4) = .bool false
      rw [beq_eq_false_iff_ne.2 fun e => by have := hi.1 e; rw [hb] at this; cases this]
    | true =>
      show Value.bool (c.kd == 4) = .bool true
      rw [hi.2 hb]; rfl
end Go.Proofs.Ythifbkjkiijkoaa

