/-
  Walks: a chain from its end on; an object's slots.
-/
import Derived.Test.YthifbkjkiijkoaaNear1
import Derived.Test.YthifbkjkiijkoaaTm
namespace Go.Proofs.Ythifbkjkiijkoaa
open Go.Ev Go.Ev.Wk
set_option linter.unusedVariables false
set_option linter.unusedSimpArgs false
variable {O : Old}


theorem wrL_str {cur : List (List UInt8)} {i : Nat} (h : i < cur.length) (x : List UInt8) : wrL [str x] i (cur.map str) = some ((cur.set i x).map str) := by
  have hb : Nat.blt i (cur.map str).length = true := Nat.ble_eq_true_of_le (by rw [List.length_map]; exact h)
  have e : isCell (str x) = true := rfl
  simp only [wrL, e, hb, Bool.and_self, cond_true, List.map_set]

theorem str_own {cur : List (List UInt8)} {i : Nat} {x : List UInt8} (h : cur[i]? = some x) : (cur.map str)[0 + ((i : Nat) : Int).toNat * 1]? = some (str x) := by
  rw [show 0 + ((i : Nat) : Int).toNat * 1 = i from by omega]; exact str_get h

/-- turned from both ends up to here -/
def Turned (l cur : List (List UInt8)) (i : Nat) : Prop := cur.length = l.length ∧ ∀ k, k < l.length → cur[k]? = if k < i ∨ l.length ≤ k + i then l[l.length - 1 - k]? else l[k]?

theorem Turned.end {l cur : List (List UInt8)} {i : Nat} (h : Turned l cur i) (hi : l.length ≤ 2 * i + 1) : cur = l.reverse := by
  apply List.ext_getElem?
  intro k
  by_cases hk : k < l.length
  · rw [h.2 k hk, List.getElem?_reverse hk]
    split
    · rfl
    · rw [show l.length - 1 - k = k from by omega]
  · rw [List.getElem?_eq_none (by rw [h.1]; omega), List.getElem?_eq_none (by rw [List.length_reverse]; omega)]

theorem Turned.step {l cur : List (List UInt8)} {i : Nat} {x y : List UInt8} (h : Turned l cur i) (hi : 2 * i + 1 < l.length) (hx : cur[i]? = some x) (hy : cur[l.length - 1 - i]? = some y) : Turned l ((cur.set i y).set (l.length - 1 - i) x) (i + 1) := by
  have hx' := h.2 i (by omega)
  have hy' := h.2 (l.length - 1 - i) (by omega)
  rw [if_neg (by omega), hx] at hx'
  rw [if_neg (by omega), hy] at hy'
  refine ⟨by rw [List.length_set, List.length_set]; exact h.1, fun k hk => ?_⟩
  have hl := h.1
  rw [List.getElem?_set, List.getElem?_set]
  by_cases h1 : l.length - 1 - i = k
  · rw [if_pos h1, if_pos (by rw [List.length_set]; omega), if_pos (by omega), show l.length - 1 - k = i from by omega]
    exact hx'
  · rw [if_neg h1]
    by_cases h2 : i = k
    · subst h2
      rw [if_pos rfl, if_pos (by omega), if_pos (by omega)]
      exact hy'
    · rw [if_neg h2, h.2 k hk]
      have : (k < i ∨ l.length ≤ k + i) ↔ (k < i + 1 ∨ l.length ≤ k + (i + 1)) := by omega
      simp only [this]

set_option maxHeartbeats 8000000 in
set_option maxRecDepth 100000 in
theorem reverse_ok {H : Heap} {a : Option Addr} {n c : Nat} {l : List (List UInt8)} {p : Option Nat × Cont} (own : OwnA 1 9 a n c (l.map str) p) (hst : St (blksOf [p]) H H [p]) (hn : n ≤ 1000000) :
    FpC TT O 81 [.slice a n c] H [p] fun v F' => ∃ p', F' = [p'] ∧ OwnA 1 9 a n c (l.reverse.map str) p' := by
  have hll : l.length = n := by have := own.len; simpa using this
  refine call_fp rfl rfl rfl rfl rfl hst ?_
  repeat (first | refine zr ?_ | (refine zn ?_; intro _))
  by_cases h0 : n = 0
  · subst h0
    obtain rfl : l = [] := List.length_eq_zero_iff.1 hll
    refine exec_loop_step ?_
    repeat (first | refine zr ?_ | (refine zn ?_; intro _))
    exact ⟨trivial, _, rfl, [p], [], List.Perm.refl _, p, rfl, own⟩
  obtain ⟨bb, ver, rfl, rfl, rfl, hlen⟩ := own.inv (by omega)
  refine ExecS.weak (E' := [(0, .slice (some ⟨bb, 0, some ver⟩) n unk), (2, .int .i64 ((0 : Nat) : Int)), (3, .int .i64 ((n : Int) - 1 - ((0 : Nat) : Int)))]) ⟨rfl, rfl, by simp [lk, look]; rfl, trivial⟩ (List.Sublist.refl _) ?_
  refine exec_loop (fun k E L => ∃ (i : Nat) (cur : List (List UInt8)), i + k = n ∧ Turned l cur i ∧ E = [(0, .slice (some ⟨bb, 0, some ver⟩) n unk), (2, .int .i64 (i : Int)), (3, .int .i64 ((n : Int) - 1 - (i : Int)))] ∧ L = [(some bb, .cells ver (cur.map str) 1 9)]) ?_ n _ _ ⟨0, l, by omega, ⟨rfl, fun k hk => by rw [if_neg (by omega)]⟩, rfl, rfl⟩
  rintro k E L ⟨i, cur, hik, hT, rfl, rfl⟩
  repeat (first | refine zr ?_ | (refine zn ?_; intro _))
  refine exec_cond rfl (fun hlt => ?_) (fun hge => ?_)
  · have hi : 2 * i + 1 < n := by simp at hlt; omega
    have hcl := hT.1
    obtain ⟨x, hx⟩ : ∃ x, cur[i]? = some x := ⟨_, List.getElem?_eq_getElem (by omega)⟩
    obtain ⟨y, hy⟩ : ∃ y, cur[n - 1 - i]? = some y := ⟨_, List.getElem?_eq_getElem (by omega)⟩
    have ej : (n : Int) - 1 - (i : Int) = ((n - 1 - i : Nat) : Int) := by omega
    rw [ej]
    repeat (first | refine zr ?_ | (refine zn ?_; intro _))
    refine exec_draw (lst := [(0, 0), (1, 0), (2, 0), (3, 0), (4, 0), (5, 0), (6, 48), (7, 112), (8, 0), (9, 0), (10, 768), (11, 1792), (12, 4083), (13, 8179), (14, 16383), (15, 32767)]) (full := 65535) (by kernel_rfl) (by kernel_rfl) (by kernel_rfl) (by kernel_rfl) ?_
    repeat (first | refine zd ?_)
    try refine draw_nil ?_
    (first | apply ops_pl rfl rfl rfl ?_ rfl ?_ | apply draw_pl rfl rfl rfl rfl ?_ rfl rfl ?_); rotate_left; focus exact (.p rfl (opP_idxo (z := 1) rfl rfl rfl rfl (by omega) (by omega)))
    (first | apply ops_pl rfl rfl rfl ?_ rfl ?_ | apply draw_pl rfl rfl rfl rfl ?_ rfl rfl ?_); rotate_left; focus exact (.l rfl (look_own 0 rfl rfl rfl (str_own hy)))
    repeat (first | refine zd ?_)
    try refine draw_nil ?_
    (first | apply ops_pl rfl rfl rfl ?_ rfl ?_ | apply draw_pl rfl rfl rfl rfl ?_ rfl rfl ?_); rotate_left; focus exact (.p rfl (opP_idxo (z := 1) rfl rfl rfl rfl (by omega) (by omega)))
    (first | apply ops_pl rfl rfl rfl ?_ rfl ?_ | apply draw_pl rfl rfl rfl rfl ?_ rfl rfl ?_); rotate_left; focus exact (.l rfl (look_own 0 rfl rfl rfl (str_own hx)))
    repeat (first | refine zd ?_)
    try refine draw_nil ?_
    (first | apply ops_pl rfl rfl rfl ?_ rfl ?_ | apply draw_pl rfl rfl rfl rfl ?_ rfl rfl ?_); rotate_left; focus exact (.p rfl (opP_idxo (z := 1) rfl rfl rfl rfl (by omega) (by omega)))
    refine draw_w rfl rfl rfl rfl rfl rfl (step_store' 0 rfl rfl rfl rfl rfl rfl (by rw [show 0 + (i : Int).toNat * 1 = i from by omega]; exact wrL_str (by omega) y) (zst ?_))
    repeat (first | refine zd ?_)
    try refine draw_nil ?_
    (first | apply ops_pl rfl rfl rfl ?_ rfl ?_ | apply draw_pl rfl rfl rfl rfl ?_ rfl rfl ?_); rotate_left; focus exact (.p rfl (opP_idxo (z := 1) rfl rfl rfl rfl (by omega) (by omega)))
    refine draw_w rfl rfl rfl rfl rfl rfl (step_store' 0 rfl rfl rfl rfl rfl rfl (by rw [show 0 + ((n - 1 - i : Nat) : Int).toNat * 1 = n - 1 - i from by omega]; exact wrL_str (by rw [List.length_set]; omega) x) (zst ?_))
    repeat (first | refine zd ?_)
    try refine draw_nil ?_
    repeat (first | refine zr ?_ | (refine zn ?_; intro _))
    refine ⟨k - 1, by omega, _, _, ?_, List.Sublist.refl _, i + 1, (cur.set i y).set (n - 1 - i) x, by omega, ?_, rfl, rfl⟩
    · exact ⟨rfl, rfl, (show some (Value.int .i64 (((n - 1 - i : Nat) : Int) - 1)) = some (Value.int .i64 ((n : Int) - 1 - ((i + 1 : Nat) : Int))) from by rw [show ((n - 1 - i : Nat) : Int) - 1 = (n : Int) - 1 - ((i + 1 : Nat) : Int) from by omega]), trivial⟩
    · have := hT.step (x := x) (y := y) (by omega) hx (by rw [hll]; exact hy)
      rwa [hll] at this
  · have hi : n ≤ 2 * i + 1 := by simp at hge; omega
    repeat (first | refine zr ?_ | (refine zn ?_; intro _))
    rw [hT.end (by omega)]
    exact ⟨trivial, _, rfl, [_], [], List.Perm.refl _, _, rfl, .own (by rw [List.length_map, List.length_reverse]; omega)⟩

set_option maxHeartbeats 8000000 in
set_option maxRecDepth 100000 in
theorem down_ok {H : Heap} {tb mb : Nat} {lv : Value} {g : List UInt8 → Option CV} {s : List UInt8} {l : List (List UInt8)} (hst : St (blksOf []) H H []) (ht : TreeK O H tb mb lv g) (hc : ChainOf g s l) (hl : l.length ≤ 1000) :
    FpC TT O 54 [ptr tb, str s] H [] fun v F' => ∃ a n c pa, v = .slice a n c ∧ F' = [pa] ∧ OwnA 1 9 a n c (l.reverse.map str) pa := by
  refine call_fp rfl rfl rfl rfl rfl hst ?_
  repeat (first | refine zr ?_ | (refine zn ?_; intro _))
  refine ops_step rfl rfl rfl (step_call_fp [] _ rfl rfl rfl (List.Perm.refl _) (fun H hs hst => chain_ok hst (ht.pure hs) hc hl) (fun v F' h => ?_))
  obtain ⟨a, n, c, pa, rfl, rfl, own⟩ := h
  have hn : l.length = n := by have := own.len; simpa using this
  repeat (first | refine zr ?_ | (refine zn ?_; intro _))
  refine ops_step rfl rfl rfl (step_call_fp [pa] [] rfl rfl rfl (List.Perm.refl _) (fun H hs hst => reverse_ok own hst (by omega)) (fun v F' h => ?_))
  obtain ⟨pb, rfl, own2⟩ := h
  repeat (first | refine zr ?_ | (refine zn ?_; intro _))
  exact ⟨trivial, _, rfl, [pb], [], List.Perm.refl _, a, n, c, pb, rfl, rfl, own2⟩

/-- the fields of a class's objects, of its own -/
def slot1 (c : CV) : List FV := c.fl.filter fun f => !f.st
/-- the fields of objects -/
def slotsL (g : List UInt8 → Option CV) (l : List (List UInt8)) : List FV := l.flatMap fun s => slot1 (getC g s)

theorem slot1_len (c : CV) : (slot1 c).length ≤ c.fl.length := List.length_filter_le _ _
theorem slotsL_len {g : List UInt8 → Option CV} : ∀ {l : List (List UInt8)}, (∀ s ∈ l, (getC g s).fl.length ≤ 1000) → (slotsL g l).length ≤ l.length * 1000
  | [], _ => by simp [slotsL]
  | s :: l, h => by
    have h1 := slotsL_len (l := l) fun x hx => h x (.tail _ hx)
    have h2 := slot1_len (getC g s)
    have h3 := h s (.head _)
    have e : slotsL g (s :: l) = slot1 (getC g s) ++ slotsL g l := by rw [slotsL, List.flatMap_cons]; rfl
    rw [e, List.length_append, List.length_cons]; omega
theorem slotsL_succ {g : List UInt8 → Option CV} {l : List (List UInt8)} {i : Nat} {s : List UInt8} (h : l[i]? = some s) : slotsL g (l.take (i + 1)) = slotsL g (l.take i) ++ slot1 (getC g s) := by
  rw [slotsL, List.take_add_one, h, List.flatMap_append]; simp [slotsL]

set_option maxHeartbeats 8000000 in
set_option maxRecDepth 100000 in
theorem slots_ok {H : Heap} {tb mb : Nat} {lv : Value} {g : List UInt8 → Option CV} {s : List UInt8} {l : List (List UInt8)} (hst : St (blksOf []) H H []) (ht : TreeK O H tb mb lv g) (hc : ChainOf g s l) (hl : l.length ≤ 1000)
    (hg : ∀ s ∈ l, ∃ c, g s = some c ∧ c.core = true ∧ c.fl.length ≤ 1000) :
    FpC TT O 27 [ptr tb, str s] H [] fun v F' => ∃ a n c pa, v = .slice a n c ∧ F' = [pa] ∧ OwnA 4 59 a n c ((slotsL g l.reverse).flatMap FV.cells) pa := by
  refine call_fp rfl rfl rfl rfl rfl hst ?_
  refine ExecS.ghost ?_
  repeat (first | refine zr ?_ | (refine zn ?_; intro _))
  refine ops_step rfl rfl rfl (step_call_fp [] _ rfl rfl rfl (List.Perm.refl _) (fun H hs hst => down_ok hst (ht.pure hs) hc hl) (fun v F' h => ?_))
  obtain ⟨a, n, c, pa, rfl, rfl, own⟩ := h
  have hn : l.length = n := by have := own.len; simpa using this
  repeat (first | refine zr ?_ | (refine zn ?_; intro _))
  refine ExecS.weak (E' := [(0, ptr tb), (5, .slice none 0 0), (14, .slice a n c), (15, .int .i64 (n : Int)), (16, .int .i64 ((0 : Nat) : Int))]) ⟨rfl, rfl, rfl, rfl, rfl, trivial⟩ (List.Sublist.refl _) ?_
  refine exec_loop (fun k E L => ∃ (i : Nat) (oa : Option Addr) (on oc : Nat) (q : Option Nat × Cont), i + k = n ∧ E = [(0, ptr tb), (5, .slice oa on oc), (14, .slice a n c), (15, .int .i64 (n : Int)), (16, .int .i64 (i : Int))] ∧ L = [pa, q] ∧ OwnA 4 59 oa on oc ((slotsL g (l.reverse.take i)).flatMap FV.cells) q) ?_ n _ _ ⟨0, none, 0, 0, _, by omega, rfl, rfl, .nil _⟩
  rintro k E L ⟨i, oa, on, oc, q, hik, rfl, rfl, oq⟩
  have hrl : l.reverse.length = n := by rw [List.length_reverse, hn]
  have hgl : ∀ s ∈ l, (getC g s).fl.length ≤ 1000 := fun s hs => by obtain ⟨c, h1, _, h3⟩ := hg s hs; rw [getC, h1]; exact h3
  repeat (first | refine zr ?_ | (refine zn ?_; intro _))
  refine exec_cond rfl (fun hlt => ?_) (fun hge => ?_)
  rotate_left
  · have hi : i = n := by simp at hge; omega
    subst hi
    rw [List.take_of_length_le (by omega)] at oq
    repeat (first | refine zr ?_ | (refine zn ?_; intro _))
    exact ⟨trivial, _, rfl, [q], [pa], List.Perm.swap _ _ _, oa, on, oc, q, rfl, rfl, oq⟩
  have hi : i < n := by simp at hlt; omega
  obtain ⟨s, hls⟩ : ∃ s, l.reverse[i]? = some s := ⟨_, List.getElem?_eq_getElem (by omega)⟩
  have hmem : s ∈ l := List.mem_reverse.1 (List.mem_of_getElem? hls)
  obtain ⟨cv, hgs, hcore, hfl⟩ := hg s hmem
  have hgc : getC g s = cv := by rw [getC, hgs]; rfl
  have hcls := ht.mono (Q := fun H' => Sl O H' (.slice cv.fa cv.fN cv.fc) 4 cv.fN (cv.fl.flatMap FV.cells)) (fun H' h => (h.cls s cv hgs).fs hcore)
  have hfN : cv.fl.length = cv.fN := by
    have h2 := (hcls H (ExtBut.refl _ _)).1
    rw [flat_len (z := 4) (fun _ => rfl)] at h2
    omega
  have hso := slotsL_len (g := g) (l := l.reverse.take i) (fun x hx => hgl x (List.mem_reverse.1 (List.mem_of_mem_take hx)))
  have hti : (l.reverse.take i).length ≤ 1000 := by rw [List.length_take]; omega
  repeat (first | refine zr ?_ | (refine zn ?_; intro _))
  (first | apply ops_pl rfl rfl rfl ?_ rfl ?_ | apply draw_pl rfl rfl rfl rfl ?_ rfl rfl ?_); rotate_left; focus exact (.p rfl (opP_idxA own rfl rfl rfl rfl (by omega) (by omega)))
  (first | apply ops_pl rfl rfl rfl ?_ rfl ?_ | apply draw_pl rfl rfl rfl rfl ?_ rfl rfl ?_); rotate_left; focus exact (.l rfl (fun H hs => opL_load rfl ((OwnA.slM own hs (by first | exact List.mem_of_getElem? (i := 0) rfl | exact List.mem_of_getElem? (i := 1) rfl | exact List.mem_of_getElem? (i := 2) rfl | exact List.mem_of_getElem? (i := 3) rfl | exact List.mem_of_getElem? (i := 4) rfl | exact List.mem_of_getElem? (i := 5) rfl | exact List.mem_of_getElem? (i := 6) rfl | exact List.mem_of_getElem? (i := 7) rfl)).ld rfl (str_get hls))))
  repeat (first | refine zr ?_ | (refine zn ?_; intro _))
  refine ops_step rfl rfl rfl (step_call_pure rfl rfl rfl (fun H hs => class_ok (s := s) (ht.pure hs)) ?_)
  rw [hgc, hgs]
  repeat (first | refine zr ?_ | (refine zn ?_; intro _))
  rename_i cb
  refine ExecS.weak (E' := [(0, ptr tb), (5, .slice oa on oc), (14, .slice a n c), (15, .int .i64 (n : Int)), (16, .int .i64 (i : Int)), (27, .slice cv.fa cv.fN cv.fc), (28, .int .i64 (cv.fN : Int)), (29, .int .i64 ((0 : Nat) : Int))]) ⟨rfl, rfl, rfl, rfl, rfl, rfl, rfl, rfl, trivial⟩ (List.Sublist.cons _ (List.Sublist.refl _)) ?_
  refine exec_loop (fun m E L => ∃ (j : Nat) (oa : Option Addr) (on oc : Nat) (q : Option Nat × Cont), j + m = cv.fN ∧ E = [(0, ptr tb), (5, .slice oa on oc), (14, .slice a n c), (15, .int .i64 (n : Int)), (16, .int .i64 (i : Int)), (27, .slice cv.fa cv.fN cv.fc), (28, .int .i64 (cv.fN : Int)), (29, .int .i64 (j : Int))] ∧ L = [pa, q] ∧ OwnA 4 59 oa on oc ((slotsL g (l.reverse.take i) ++ (cv.fl.take j).filter fun f => !f.st).flatMap FV.cells) q) ?_ cv.fN _ _ ⟨0, oa, on, oc, q, by omega, rfl, rfl, by simpa using oq⟩
  clear oq oa on oc q
  rintro m E L ⟨j, oa, on, oc, q, hjm, rfl, rfl, oq⟩
  repeat (first | refine zr ?_ | (refine zn ?_; intro _))
  refine exec_cond rfl (fun hlt2 => ?_) (fun hge2 => ?_)
  rotate_left
  · have hj : j = cv.fN := by simp at hge2; omega
    rw [show cv.fl.take j = cv.fl from List.take_of_length_le (by omega)] at oq
    repeat (first | refine zr ?_ | (refine zn ?_; intro _))
    refine ⟨k - 1, by omega, _, _, ?_, List.Sublist.refl _, i + 1, oa, on, oc, q, by omega, rfl, rfl, ?_⟩
    · exact ⟨rfl, rfl, rfl, rfl, rfl, trivial⟩
    · rw [slotsL_succ hls, hgc]; exact oq
  have hj : j < cv.fN := by simp at hlt2; omega
  obtain ⟨f, hf⟩ : ∃ f, cv.fl[j]? = some f := ⟨_, List.getElem?_eq_getElem (by omega)⟩
  have hfj : (cv.fl.take (j + 1)).filter (fun f => !f.st) = (cv.fl.take j).filter (fun f => !f.st) ++ (if f.st = true then [] else [f]) := by
    rw [List.take_add_one, hf, List.filter_append]
    cases hst : f.st <;> simp [hst]
  repeat (first | refine zr ?_ | (refine zn ?_; intro _))
  (first | apply ops_pl rfl rfl rfl ?_ rfl ?_ | apply draw_pl rfl rfl rfl rfl ?_ rfl rfl ?_); rotate_left; focus exact (.p rfl (opP_idx rfl rfl (hcls H (ExtBut.refl _ _)) rfl rfl (by omega) (by omega)))
  (first | apply ops_pl rfl rfl rfl ?_ rfl ?_ | apply draw_pl rfl rfl rfl rfl ?_ rfl rfl ?_); rotate_left; focus exact (.l rfl (fun H hs => opL_load rfl ((hcls.at hs).ldA rfl (by decide) hj (flat_at (f := FV.cells) (fun _ => rfl) hf))))
  repeat (first | refine zr ?_ | (refine zn ?_; intro _))
  obtain ⟨fnm, ftk, ftc, fst⟩ := f
  cases fst
  rotate_left
  · repeat (first | refine zr ?_ | (refine zn ?_; intro _))
    refine ⟨m - 1, by omega, _, _, ?_, List.Sublist.cons _ (List.Sublist.refl _), j + 1, oa, on, oc, q, by omega, rfl, rfl, by rw [hfj]; simpa using oq⟩
    exact ⟨rfl, rfl, rfl, rfl, rfl, rfl, rfl, rfl, trivial⟩
  have hol := oq.len
  rw [flat_len (z := 4) (fun _ => rfl), List.length_append] at hol
  have hft : ((cv.fl.take j).filter fun f => !f.st).length ≤ 1000 := Nat.le_trans (List.length_filter_le _ _) (by rw [List.length_take]; omega)

  repeat (first | refine zr ?_ | (refine zn ?_; intro _))
  refine ops_step rfl rfl rfl (step_append 3 4 rfl rfl rfl rfl rfl rfl rfl rfl oq (fun H hs => src_own (j := 0) hs rfl rfl 1) rfl (by first | rfl | exact allCell_map (fun _ => rfl) _) (by first | rfl | (simp; done) | (simp; omega)) (by omega) (fun a2 c2 p2 own2 => ?_))
  repeat (first | refine zr ?_ | (refine zn ?_; intro _))
  refine ⟨m - 1, by omega, _, _, ?_, List.Sublist.cons _ (List.Sublist.cons _ (List.Sublist.refl _)), j + 1, a2, on + 1, c2, p2, by omega, rfl, rfl, ?_⟩
  · exact ⟨rfl, rfl, rfl, rfl, rfl, rfl, rfl, rfl, trivial⟩
  · rw [hfj, ← List.append_assoc, List.flatMap_append]; exact own2
end Go.Proofs.Ythifbkjkiijkoaa

