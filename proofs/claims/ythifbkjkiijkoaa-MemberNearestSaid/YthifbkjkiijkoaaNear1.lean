/-
  Walks: classes and members looked up.
-/
import Derived.Test.YthifbkjkiijkoaaTree4
namespace Go.Proofs.Ythifbkjkiijkoaa
open Go.Ev Go.Ev.Wk
set_option linter.unusedVariables false
set_option linter.unusedSimpArgs false
variable {O : Old}


set_option maxHeartbeats 8000000 in
set_option maxRecDepth 100000 in
theorem class_ok {H : Heap} {tb mb : Nat} {lv : Value} {g : List UInt8 → Option CV} {s : List UInt8} (ht : TreeK O H tb mb lv g) :
    CallC TT O 32 [ptr tb, str s] H fun v H' => v = .tuple #[(getC g s).val, .bool (g s).isSome] ∧ Ext H H' := by
  refine call_pureM rfl rfl rfl rfl rfl ?_
  repeat (first | refine zr ?_ | (refine zn ?_; intro _))
  (first | apply ops_pl rfl rfl rfl ?_ rfl ?_ | apply draw_pl rfl rfl rfl rfl ?_ rfl rfl ?_); rotate_left; focus exact (.l rfl (look_hasO (fun H hs => (ht.at hs).tree) rfl rfl rfl))
  repeat (first | refine zr ?_ | (refine zn ?_; intro _))
  cases hg : g s with
  | none =>
    (first | apply ops_pl rfl rfl rfl ?_ rfl ?_ | apply draw_pl rfl rfl rfl rfl ?_ rfl rfl ?_); rotate_left; focus exact (.l rfl (look_mapO (fun H hs => (ht.at hs).map) rfl rfl rfl (by simp only [hg]; rfl)))
    repeat (first | refine zr ?_ | (refine zn ?_; intro _))
    exact ⟨trivial, [_, _], ⟨look_agg 1 rfl rfl rfl rfl, rfl, trivial⟩, by rw [getC, hg]; rfl⟩
  | some c =>
    (first | apply ops_pl rfl rfl rfl ?_ rfl ?_ | apply draw_pl rfl rfl rfl rfl ?_ rfl rfl ?_); rotate_left; focus exact (.l rfl (look_mapO (fun H hs => (ht.at hs).map) rfl rfl rfl (by simp only [hg]; rfl)))
    repeat (first | refine zr ?_ | (refine zn ?_; intro _))
    exact ⟨trivial, [_, _], ⟨look_agg 1 rfl rfl rfl rfl, rfl, trivial⟩, by rw [getC, hg]; rfl⟩

/-- where the first is that is so -/
def idxP {α : Type} (p : α → Bool) (l : List α) : Int := match l.findIdx? p with | some i => (i : Int) | none => -1

theorem idxP_some {α : Type} {p : α → Bool} {l : List α} {x : α} {i : Nat} (h : l[i]? = some x) (hx : p x = true) (hp : ∀ j y, j < i → l[j]? = some y → p y = false) : idxP p l = i := by
  have : l.findIdx? p = some i := by
    obtain ⟨hi, rfl⟩ := List.getElem?_eq_some_iff.1 h
    rw [List.findIdx?_eq_some_iff_getElem]
    refine ⟨hi, hx, fun j hj => ?_⟩
    rw [hp j l[j] hj (List.getElem?_eq_getElem (by omega))]; decide
  rw [idxP, this]

theorem idxP_none {α : Type} {p : α → Bool} {l : List α} (hp : ∀ (j : Nat) y, l[j]? = some y → p y = false) : idxP p l = -1 := by
  have : l.findIdx? p = none := by
    rw [List.findIdx?_eq_none_iff]
    intro y hy
    obtain ⟨j, hj⟩ := List.getElem?_of_mem hy
    exact hp j y hj
  rw [idxP, this]

theorem flat_len {α : Type} {z : Nat} {f : α → List Value} (hf : ∀ x, (f x).length = z) : ∀ l : List α, (l.flatMap f).length = l.length * z
  | [] => by simp
  | x :: l => by rw [List.flatMap_cons, List.length_append, hf, flat_len hf l, List.length_cons, Nat.add_mul, Nat.one_mul, Nat.add_comm]

theorem flat_at {α : Type} {z : Nat} {f : α → List Value} (hf : ∀ x, (f x).length = z) : ∀ {l : List α} {i : Nat} {x : α}, l[i]? = some x → ((l.flatMap f).drop (i * z)).take z = f x
  | [], _, _, h => by cases h
  | y :: l, 0, x, h => by
    cases h
    rw [Nat.zero_mul, List.drop_zero, List.flatMap_cons, List.take_append_of_le_length (by rw [hf]; omega), List.take_of_length_le (by rw [hf]; omega)]
  | y :: l, i + 1, x, h => by
    rw [List.flatMap_cons, show (i + 1) * z = (f y).length + i * z from by rw [hf, Nat.add_mul, Nat.one_mul, Nat.add_comm], List.drop_append]
    rw [List.drop_of_length_le (by omega), List.nil_append, show (f y).length + i * z - (f y).length = i * z from by omega]
    exact flat_at hf h

set_option maxHeartbeats 8000000 in
set_option maxRecDepth 100000 in
theorem idxMethod_ok {H : Heap} {a : Option Addr} {n c g : Nat} {fa fb : Array Value} {l : List MV} (p : MV → Bool) (hs0 : Sl O H (.slice a n c) 9 n (l.flatMap MV.cells)) (hn : n ≤ 1000000)
    (hf : ∀ m ∈ l, ∀ H', Ext H H' → CallC TT O g (fa.toList ++ [m.val] ++ fb.toList) H' fun v H'' => v = .bool (p m) ∧ Ext H' H'') :
    CallC TT O 84 [.slice a n c, .func (.func g) fa fb] H fun v H' => v = .int .i64 (idxP p l) ∧ Ext H H' := by
  have hl : l.length = n := by have := hs0.1; rw [flat_len (z := 9) (fun _ => rfl)] at this; omega
  refine call_pure rfl rfl rfl rfl rfl ?_
  repeat (first | refine zr ?_ | (refine zn ?_; intro _))
  refine ExecS.weak (E' := [(0, .slice a n c), (1, .func (.func g) fa fb), (7, .int .i64 (n : Int)), (8, .int .i64 ((0 : Nat) : Int))]) ⟨rfl, rfl, rfl, rfl, trivial⟩ (List.Sublist.refl _) ?_
  refine exec_loop (fun k E L => ∃ i : Nat, i + k = n ∧ (∀ j y, j < i → l[j]? = some y → p y = false) ∧ E = [(0, .slice a n c), (1, .func (.func g) fa fb), (7, .int .i64 (n : Int)), (8, .int .i64 (i : Int))] ∧ L = []) ?_ n _ _ ⟨0, by omega, fun j y hj => by omega, rfl, rfl⟩
  rintro k E L ⟨i, hik, hpre, rfl, rfl⟩
  repeat (first | refine zr ?_ | (refine zn ?_; intro _))
  refine exec_cond rfl (fun hlt => ?_) (fun hge => ?_)
  · have hi : i < n := by simp at hlt; omega
    obtain ⟨y, hy⟩ : ∃ y, l[i]? = some y := ⟨_, List.getElem?_eq_getElem (by omega)⟩
    repeat (first | refine zr ?_ | (refine zn ?_; intro _))
    (first | apply ops_pl rfl rfl rfl ?_ rfl ?_ | apply draw_pl rfl rfl rfl rfl ?_ rfl rfl ?_); rotate_left; focus exact (.p rfl (opP_idx rfl rfl hs0 rfl rfl (by omega) (by omega)))
    (first | apply ops_pl rfl rfl rfl ?_ rfl ?_ | apply draw_pl rfl rfl rfl rfl ?_ rfl rfl ?_); rotate_left; focus exact (.l rfl (fun H hs => opL_load rfl ((hs0.at hs).ldA rfl (by decide) hi (flat_at (f := MV.cells) (fun _ => rfl) hy))))
    repeat (first | refine zr ?_ | (refine zn ?_; intro _))
    refine ops_step rfl rfl rfl (step_call_pure rfl rfl rfl (fun H hs => hf y (List.mem_of_getElem? hy) H hs.ext) ?_)
    cases hxy : p y
    · repeat (first | refine zr ?_ | (refine zn ?_; intro _))
      refine ⟨k - 1, by omega, _, _, ?_, List.Sublist.refl _, i + 1, by omega, fun j z hj hz => ?_, rfl, rfl⟩
      · exact ⟨rfl, rfl, rfl, rfl, trivial⟩
      · by_cases hji : j = i
        · subst hji
          rw [hy] at hz
          cases hz
          exact hxy
        · exact hpre j z (by omega) hz
    · repeat (first | refine zr ?_ | (refine zn ?_; intro _))
      exact ⟨trivial, _, rfl, by rw [idxP_some hy hxy hpre]; rfl⟩
  · have hi : n ≤ i := by simp at hge; omega
    repeat (first | refine zr ?_ | (refine zn ?_; intro _))
    refine ⟨trivial, _, rfl, ?_⟩
    rw [idxP_none fun j y hj => hpre j y (by have := (List.getElem?_eq_some_iff.1 hj).1; omega) hj]
    rfl
end Go.Proofs.Ythifbkjkiijkoaa

