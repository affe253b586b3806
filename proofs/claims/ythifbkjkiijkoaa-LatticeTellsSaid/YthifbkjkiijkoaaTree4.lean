/-
  Walks: the classes that are there of themselves; a tree, made.
-/
import Derived.Test.YthifbkjkiijkoaaTree3
namespace Go.Proofs.Ythifbkjkiijkoaa
open Go.Ev Go.Ev.Wk
set_option linter.unusedVariables false
set_option linter.unusedSimpArgs false
variable {O : Old}


abbrev bi (n su : List UInt8) : CV := ⟨n, su, none, 0, 0, 1, none, 0, 0, none, 0, 0, [], true, [], []⟩
def nulB : List UInt8 := [78, 117, 108, 108, 70, 97, 117, 108, 116]
def bouB : List UInt8 := [66, 111, 117, 110, 100, 115, 70, 97, 117, 108, 116]
def casB : List UInt8 := [67, 97, 115, 116, 70, 97, 117, 108, 116]
def zerB : List UInt8 := [90, 101, 114, 111, 70, 97, 117, 108, 116]
def sizB : List UInt8 := [83, 105, 122, 101, 70, 97, 117, 108, 116]
/-- the classes that are there of themselves -/
def biC (s : List UInt8) : Option CV :=
  if s = sizB then some (bi sizB fauB) else if s = zerB then some (bi zerB fauB) else if s = casB then some (bi casB fauB) else if s = bouB then some (bi bouB fauB) else if s = nulB then some (bi nulB fauB) else if s = fauB then some (bi fauB objB) else if s = objB then some (bi objB []) else none

set_option maxHeartbeats 8000000 in
set_option maxRecDepth 100000 in
theorem builtins_ok {H : Heap} (hst : St (blksOf []) H H []) : FpC TT O 39 [] H [] fun v F' => ∃ mb es, v = .map (some mb) ∧ F' = [(some mb, .map es)] ∧ Says es fun s => (biC s).map CV.val := by
  refine call_fp rfl rfl rfl rfl rfl hst ?_
  repeat (first | refine zr ?_ | (refine zn ?_; intro _))
  refine ops_step rfl rfl rfl (step_insert 0 rfl rfl rfl rfl rfl Says.nil rfl rfl (fun es1 says1 => ?_))
  repeat (first | refine zr ?_ | (refine zn ?_; intro _))
  refine ops_step rfl rfl rfl (step_insert 0 rfl rfl rfl rfl rfl says1 rfl rfl (fun es2 says2 => ?_))
  repeat (first | refine zr ?_ | (refine zn ?_; intro _))
  refine exec_loop_step ?_
  repeat (first | refine zr ?_ | (refine zn ?_; intro _))
  refine ops_step rfl rfl rfl (step_mapUpdate 1 rfl rfl rfl rfl rfl says2 rfl rfl (fun es3 says3 => ?_))
  repeat (first | refine zr ?_ | (refine zn ?_; intro _))
  refine exec_loop_step ?_
  repeat (first | refine zr ?_ | (refine zn ?_; intro _))
  refine ops_step rfl rfl rfl (step_mapUpdate 1 rfl rfl rfl rfl rfl says3 rfl rfl (fun es4 says4 => ?_))
  repeat (first | refine zr ?_ | (refine zn ?_; intro _))
  refine exec_loop_step ?_
  repeat (first | refine zr ?_ | (refine zn ?_; intro _))
  refine ops_step rfl rfl rfl (step_mapUpdate 1 rfl rfl rfl rfl rfl says4 rfl rfl (fun es5 says5 => ?_))
  repeat (first | refine zr ?_ | (refine zn ?_; intro _))
  refine exec_loop_step ?_
  repeat (first | refine zr ?_ | (refine zn ?_; intro _))
  refine ops_step rfl rfl rfl (step_mapUpdate 1 rfl rfl rfl rfl rfl says5 rfl rfl (fun es6 says6 => ?_))
  repeat (first | refine zr ?_ | (refine zn ?_; intro _))
  refine exec_loop_step ?_
  repeat (first | refine zr ?_ | (refine zn ?_; intro _))
  refine ops_step rfl rfl rfl (step_mapUpdate 1 rfl rfl rfl rfl rfl says6 rfl rfl (fun es7 says7 => ?_))
  repeat (first | refine zr ?_ | (refine zn ?_; intro _))
  refine exec_loop_step ?_
  repeat (first | refine zr ?_ | (refine zn ?_; intro _))
  refine ⟨trivial, _, rfl, [_], [_], List.Perm.swap _ _ _, _, _, rfl, rfl, says7.cast fun s => ?_⟩
  unfold biC
  simp only [apply_ite (Option.map CV.val)]
  rfl

/-- the class of a name -/
def gOf (cl : List CV) (s : List UInt8) : Option CV := match biC s with | some c => some c | none => cl.find? fun c => decide (c.nm = s)

theorem gOf_nil (s : List UInt8) : gOf [] s = biC s := by unfold gOf; cases biC s <;> rfl

theorem gOf_new {cl : List CV} {c : CV} (h : gOf cl c.nm = none) (s : List UInt8) : gOf (cl ++ [c]) s = if s = c.nm then some c else gOf cl s := by
  by_cases hs : s = c.nm
  · subst hs
    rw [if_pos rfl]
    unfold gOf at h ⊢
    cases hb : biC c.nm with
    | some d => rw [hb] at h; cases h
    | none =>
      rw [hb] at h
      simp only at h ⊢
      rw [List.find?_append, h]
      simp
  · rw [if_neg hs]
    unfold gOf
    cases hb : biC s with
    | some d => rfl
    | none =>
      simp only
      rw [List.find?_append]
      have : ¬ c.nm = s := fun e => hs e.symm
      simp [this]

theorem gOf_old {cl : List CV} {c : CV} (h : (gOf cl c.nm).isSome = true) (s : List UInt8) : gOf (cl ++ [c]) s = gOf cl s := by
  unfold gOf at h ⊢
  cases hb : biC s with
  | some d => rfl
  | none =>
    simp only
    rw [List.find?_append]
    by_cases hs : c.nm = s
    · subst hs
      rw [hb] at h
      simp only at h
      cases hf : cl.find? fun d => decide (d.nm = c.nm) with
      | some d => rfl
      | none => rw [hf] at h; cases h
    · simp [hs]

theorem cells_at : ∀ {cl : List CV} {i : Nat} {c : CV}, cl[i]? = some c → ((cl.flatMap CV.cells).drop (i * 6)).take 6 = c.cells
  | [], _, _, h => by cases h
  | d :: cl, 0, c, h => by cases h; rfl
  | d :: cl, i + 1, c, h => by
    rw [List.flatMap_cons, show (i + 1) * 6 = d.cells.length + i * 6 from by simp [CV.cells]; omega, List.drop_append]
    rw [List.drop_of_length_le (by omega), List.nil_append, show d.cells.length + i * 6 - d.cells.length = i * 6 from by omega]
    exact cells_at h

/-- classes, as they lie in memory -/
structure ClsH (O : Old) (H : Heap) (v : Value) (cl : List CV) : Prop where
  cells : Sl O H v 6 cl.length (cl.flatMap CV.cells)
  cls : ∀ c ∈ cl, ClsF O H c

theorem gOf_mem {cl : List CV} {s : List UInt8} {c : CV} (h : gOf cl s = some c) : biC s = some c ∨ c ∈ cl := by
  unfold gOf at h
  cases hb : biC s with
  | some d => rw [hb] at h; exact .inl h
  | none => rw [hb] at h; exact .inr (List.mem_of_find?_eq_some h)

theorem biC_cls {H : Heap} {s : List UInt8} {c : CV} (h : biC s = some c) : ClsF O H c := by
  unfold biC at h
  repeat (first | (split at h; · cases h; exact ⟨Sl.nil, Nat.zero_le _, fun _ => Sl.nil, fun _ => Sl.nil⟩))
  cases h

theorem ClsH.tree {H : Heap} {v lv : Value} {cl cl' : List CV} {tb mb : Nat} {es : List (Value × Value)} (h : ClsH O H v cl) (hsub : ∀ c ∈ cl', c ∈ cl) (h1 : Has H tb (.cells 0 [.map (some mb), lv] 0 78)) (h2 : Has H mb (.map es)) (h3 : Says es fun s => (gOf cl' s).map CV.val) : TreeH O H tb mb lv (gOf cl') where
  tree := h1
  map := ⟨es, h2, h3⟩
  cls := fun s c hg => by
    rcases gOf_mem hg with hb | hm
    · exact biC_cls hb
    · exact h.cls c (hsub c hm)

set_option maxHeartbeats 16000000 in
set_option maxRecDepth 100000 in
theorem new_ok {H : Heap} {ca : Option Addr} {cn cc : Nat} {cl : List CV} (hst : St (blksOf []) H H []) (hcn : cl.length = cn) (hn : cn ≤ 1000) (hc : Keep [] H fun H' => ClsH O H' (.slice ca cn cc) cl) :
    FpC TT O 11 [.agg #[.slice ca cn cc]] H [] fun v F' => ∃ tb mb es, v = ptr tb ∧ F' = [(some tb, .cells 0 [.map (some mb), .slice ca cn cc] 0 78), (some mb, .map es)] ∧ Says es fun s => (gOf cl s).map CV.val := by
  have hsl : Keep [] H fun H' => Sl O H' (.slice ca cn cc) 6 cn (cl.flatMap CV.cells) := hc.mono fun H' h => by have := h.cells; rwa [hcn] at this
  have hsl0 := hsl H (ExtBut.refl _ _)
  refine call_fp rfl rfl rfl rfl rfl hst ?_
  repeat (first | refine zr ?_ | (refine zn ?_; intro _))
  refine exec_draw (lst := [(1, 0), (2, 2), (0, 0), (3, 7), (4, 15), (5, 31)]) (full := 63) (by kernel_rfl) (by kernel_rfl) (by kernel_rfl) (by kernel_rfl) ?_
  repeat (first | refine zd ?_)
  try refine draw_nil ?_
  refine draw_w rfl rfl rfl rfl rfl rfl (step_call_fp [] _ rfl rfl rfl (List.Perm.refl _) (fun H hs hst => builtins_ok hst) (fun v F' h => ?_))
  obtain ⟨mb, es, rfl, rfl, hsay⟩ := h
  refine ⟨by repeat (first | exact True.intro | refine And.intro (.inl rfl) ?_ | refine And.intro (.inr ⟨veq_refl rfl, (fun _ _ => rfl)⟩) ?_ | refine And.intro (.inr ⟨veq_refl rfl, (look_own 0 rfl rfl rfl rfl)⟩) ?_ | refine And.intro (.inr ⟨veq_refl rfl, (look_own 1 rfl rfl rfl rfl)⟩) ?_ | refine And.intro (.inr ⟨veq_refl rfl, (look_own 2 rfl rfl rfl rfl)⟩) ?_ | refine And.intro (.inr ⟨veq_refl rfl, (look_agg 0 rfl rfl rfl rfl)⟩) ?_), ?_⟩
  repeat (first | refine zd ?_)
  try refine draw_nil ?_
  refine draw_a rfl rfl rfl rfl rfl (step_box rfl rfl rfl (fun tb => ⟨by repeat (first | exact True.intro | refine And.intro (.inl rfl) ?_ | refine And.intro (.inr ⟨veq_refl rfl, (fun _ _ => rfl)⟩) ?_ | refine And.intro (.inr ⟨veq_refl rfl, (look_own 0 rfl rfl rfl rfl)⟩) ?_ | refine And.intro (.inr ⟨veq_refl rfl, (look_own 1 rfl rfl rfl rfl)⟩) ?_ | refine And.intro (.inr ⟨veq_refl rfl, (look_own 2 rfl rfl rfl rfl)⟩) ?_ | refine And.intro (.inr ⟨veq_refl rfl, (look_agg 0 rfl rfl rfl rfl)⟩) ?_), ?_⟩))
  repeat (first | refine zd ?_)
  try refine draw_nil ?_
  repeat (first | refine zr ?_ | (refine zn ?_; intro _))
  refine ExecS.weak (E' := [(3, ptr tb), (12, .slice ca cn cc), (13, .int .i64 (cn : Int)), (14, .int .i64 ((0 : Nat) : Int))]) (L' := [(some tb, .cells 0 [.map (some mb), .slice ca cn cc] 0 78), (some mb, .map es)]) ⟨rfl, rfl, rfl, rfl, trivial⟩ (List.Sublist.cons_cons _ (List.Sublist.cons_cons _ (List.nil_sublist _))) ?_
  refine exec_loop (fun k E L => ∃ (i : Nat) (es : List (Value × Value)), i + k = cn ∧ (Says es fun s => (gOf (cl.take i) s).map CV.val) ∧ E = [(3, ptr tb), (12, .slice ca cn cc), (13, .int .i64 (cn : Int)), (14, .int .i64 (i : Int))] ∧ L = [(some tb, .cells 0 [.map (some mb), .slice ca cn cc] 0 78), (some mb, .map es)]) ?_ cn _ _ ⟨0, es, by omega, hsay.cast fun s => by rw [List.take_zero, gOf_nil], rfl, rfl⟩
  rintro k E L ⟨i, es, hik, hsay, rfl, rfl⟩
  repeat (first | refine zr ?_ | (refine zn ?_; intro _))
  refine exec_cond rfl (fun hlt => ?_) (fun hge => ?_)
  · have hi : i < cn := by simp at hlt; omega
    obtain ⟨x, hx⟩ : ∃ x, cl[i]? = some x := ⟨_, List.getElem?_eq_getElem (by omega)⟩
    have htk : cl.take (i + 1) = cl.take i ++ [x] := by rw [List.take_add_one, hx]; rfl
    repeat (first | refine zr ?_ | (refine zn ?_; intro _))
    (first | apply ops_pl rfl rfl rfl ?_ rfl ?_ | apply draw_pl rfl rfl rfl rfl ?_ rfl rfl ?_); rotate_left; focus exact (.p rfl (opP_idx rfl rfl hsl0 rfl rfl (by omega) (by omega)))
    (first | apply ops_pl rfl rfl rfl ?_ rfl ?_ | apply draw_pl rfl rfl rfl rfl ?_ rfl rfl ?_); rotate_left; focus exact (.l rfl (fun H hs => opL_load rfl ((hsl.at hs).ldA rfl (by decide) hi (cells_at hx))))
    repeat (first | refine zr ?_ | (refine zn ?_; intro _))
    rename_i xb
    refine ops_step rfl rfl rfl (step_call_pure rfl rfl rfl (fun H hs => known_ok (g := gOf (cl.take i)) (s := x.nm) (fun H' e => ((hc.pure hs) H' e).tree (fun c hm => List.mem_of_mem_take hm) ((Rd.has (b := tb) (List.mem_of_getElem? (i := 1) rfl)).pure hs H' e) ((Rd.has (b := mb) (List.mem_of_getElem? (i := 2) rfl)).pure hs H' e) hsay)) ?_)
    cases hk : (gOf (cl.take i) x.nm).isSome
    · have hkn : gOf (cl.take i) x.nm = none := by cases h : gOf (cl.take i) x.nm with | none => rfl | some d => rw [h] at hk; cases hk
      repeat (first | refine zr ?_ | (refine zn ?_; intro _))
      refine exec_draw (lst := [(0, 0), (1, 1), (2, 3), (3, 7), (4, 0), (5, 16), (6, 0), (7, 127)]) (full := 255) (by kernel_rfl) (by kernel_rfl) (by kernel_rfl) (by kernel_rfl) ?_
      repeat (first | refine zd ?_)
      try refine draw_nil ?_
      refine draw_w rfl rfl rfl rfl rfl rfl (step_mapUpdate 2 rfl rfl rfl rfl rfl hsay rfl rfl (fun es2 says2 => (zst ?_)))
      repeat (first | refine zd ?_)
      try refine draw_nil ?_
      repeat (first | refine zr ?_ | (refine zn ?_; intro _))
      refine ⟨k - 1, by omega, _, _, ?_, List.Sublist.cons _ (List.Sublist.refl _), i + 1, es2, by omega, says2.cast fun s => ?_, rfl, rfl⟩
      · exact ⟨rfl, rfl, rfl, rfl, trivial⟩
      · rw [htk, gOf_new hkn]
        by_cases h : s = x.nm
        · rw [if_pos h, if_pos h]; rfl
        · rw [if_neg h, if_neg h]
    · repeat (first | refine zr ?_ | (refine zn ?_; intro _))
      refine ⟨k - 1, by omega, _, _, ?_, List.Sublist.cons _ (List.Sublist.refl _), i + 1, es, by omega, hsay.cast fun s => by rw [htk, gOf_old hk], rfl, rfl⟩
      exact ⟨rfl, rfl, rfl, rfl, trivial⟩
  · have hi : cn ≤ i := by simp at hge; omega
    repeat (first | refine zr ?_ | (refine zn ?_; intro _))
    refine ⟨trivial, _, rfl, [_, _], [], List.Perm.refl _, tb, mb, es, rfl, rfl, ?_⟩
    rwa [List.take_of_length_le (by omega)] at hsay
end Go.Proofs.Ythifbkjkiijkoaa

