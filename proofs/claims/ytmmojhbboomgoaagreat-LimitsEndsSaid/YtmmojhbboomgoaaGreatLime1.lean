/-
  Walks: which methods hold together.
-/
import Derived.Test.YtmmojhbboomgoaaGreatEvTab
import Derived.Test.YtmmojhbboomgoaaGreatEvZ
namespace Go.Proofs.YtmmojhbboomgoaaGreat
open Go.Ev Go.Ev.Wk
set_option linter.unusedVariables false
set_option linter.unusedSimpArgs false
variable {O : Old}


abbrev ptr' (b : Nat) : Value := .pointer (some ⟨b, 0, some 0⟩)
/-- an instruction of an op and a number -/
abbrev IC (p : Int × Int) : List Value := [.int .i64 p.1, .int .i32 0, .int .i64 p.2, str [], str [], str [], str []]
/-- a static method of these locals and this code -/
abbrev methC (lo : Int) (a : Option Addr) (n c : Nat) : List Value := [str [], .slice none 0 0, .int .i64 0, str [], .bool true, .bool false, .int .i64 lo, .slice a n c, .slice none 0 0]

def jumpsB (o : Int) : Bool := o == 19 || o == 20
def endsB (o : Int) : Bool := o == 19 || (o == 38 || (o == 39 || (o == 40 || o == 43)))

set_option maxHeartbeats 8000000 in
set_option maxRecDepth 100000 in
theorem jumps_ok {H : Heap} {o : Int} : CallC TT O 22 [.int .i64 o] H fun v H' => v = .bool (jumpsB o) ∧ Ext H H' := by
  unfold jumpsB
  refine call_pure rfl rfl rfl rfl rfl ?_
  repeat (first | refine zr ?_ | (refine zn ?_; intro _))
  cases h1 : (o == 19)
  · repeat (first | refine zr ?_ | (refine zn ?_; intro _))
    exact ⟨trivial, _, rfl, rfl⟩
  · repeat (first | refine zr ?_ | (refine zn ?_; intro _))
    exact ⟨trivial, _, rfl, rfl⟩

set_option maxHeartbeats 8000000 in
set_option maxRecDepth 100000 in
theorem ends_ok {H : Heap} {o : Int} : CallC TT O 10 [.int .i64 o] H fun v H' => v = .bool (endsB o) ∧ Ext H H' := by
  unfold endsB
  refine call_pure rfl rfl rfl rfl rfl ?_
  repeat (first | refine zr ?_ | (refine zn ?_; intro _))
  cases h1 : (o == 19)
  rotate_left
  · repeat (first | refine zr ?_ | (refine zn ?_; intro _))
    exact ⟨trivial, _, rfl, rfl⟩
  repeat (first | refine zr ?_ | (refine zn ?_; intro _))
  cases h2 : (o == 38)
  rotate_left
  · repeat (first | refine zr ?_ | (refine zn ?_; intro _))
    exact ⟨trivial, _, rfl, rfl⟩
  repeat (first | refine zr ?_ | (refine zn ?_; intro _))
  cases h3 : (o == 39)
  rotate_left
  · repeat (first | refine zr ?_ | (refine zn ?_; intro _))
    exact ⟨trivial, _, rfl, rfl⟩
  repeat (first | refine zr ?_ | (refine zn ?_; intro _))
  cases h4 : (o == 40)
  rotate_left
  · repeat (first | refine zr ?_ | (refine zn ?_; intro _))
    exact ⟨trivial, _, rfl, rfl⟩
  repeat (first | refine zr ?_ | (refine zn ?_; intro _))
  exact ⟨trivial, _, rfl, rfl⟩

set_option maxHeartbeats 8000000 in
set_option maxRecDepth 100000 in
theorem instr_ok {H : Heap} {o k lo : Int} {a : Option Addr} {n c : Nat} (h4 : (o == 4) = false) (h5 : (o == 5) = false) :
    CallC TT O 9 [.agg (IC (o, k)).toArray, .agg (methC lo a n c).toArray] H fun v H' => v = .bool (!jumpsB o || (decide (k ≥ 0) && decide (k < (n : Int)))) ∧ Ext H H' := by
  refine call_pure rfl rfl rfl rfl rfl ?_
  repeat (first | refine zr ?_ | (refine zn ?_; intro _))
  rw [h4]
  repeat (first | refine zr ?_ | (refine zn ?_; intro _))
  rw [h5]
  repeat (first | refine zr ?_ | (refine zn ?_; intro _))
  refine ops_step rfl rfl rfl (step_call_pure rfl rfl rfl (fun H hs => jumps_ok) ?_)
  cases hj : jumpsB o
  · repeat (first | refine zr ?_ | (refine zn ?_; intro _))
    exact ⟨trivial, _, rfl, rfl⟩
  repeat (first | refine zr ?_ | (refine zn ?_; intro _))
  cases h0 : decide (k ≥ 0)
  · repeat (first | refine zr ?_ | (refine zn ?_; intro _))
    exact ⟨trivial, _, rfl, rfl⟩
  · repeat (first | refine zr ?_ | (refine zn ?_; intro _))
    exact ⟨trivial, _, rfl, rfl⟩

set_option maxHeartbeats 8000000 in
set_option maxRecDepth 100000 in
theorem args_ok {H : Heap} {lo : Int} {a : Option Addr} {n c : Nat} : CallC TT O 8 [.agg (methC lo a n c).toArray] H fun v H' => v = .int .i64 0 ∧ Ext H H' := by
  refine call_pure rfl rfl rfl rfl rfl ?_
  repeat (first | refine zr ?_ | (refine zn ?_; intro _))
  exact ⟨trivial, _, rfl, rfl⟩

theorem flat_len {α : Type} {z : Nat} {f : α → List Value} (hf : ∀ x, (f x).length = z) : ∀ l : List α, (l.flatMap f).length = l.length * z
  | [] => by simp
  | x :: l => by rw [List.flatMap_cons, List.length_append, hf, flat_len hf l, List.length_cons, Nat.add_mul, Nat.one_mul, Nat.add_comm]

theorem flat_at {α : Type} {z : Nat} {f : α → List Value} (hf : ∀ x, (f x).length = z) : ∀ {l : List α} {i : Nat} {x : α}, l[i]? = some x → ((l.flatMap f).drop (i * z)).take z = f x
  | [], _, _, h => by cases h
  | y :: l, 0, x, h => by
    cases h
    rw [Nat.zero_mul, List.drop_zero, List.flatMap_cons, List.take_append_of_le_length (by rw [hf]; omega), List.take_of_length_le (by rw [hf]; omega)]
  | y :: l, i + 1, x, h => by
    rw [List.flatMap_cons, show (i + 1) * z = (f y).length + i * z from by rw [hf, Nat.add_mul, Nat.one_mul, Nat.add_comm], List.drop_append]
    rw [List.drop_of_length_le (by omega), List.nil_append, show (f y).length + i * z - (f y).length = i * z from by omega]
    exact flat_at hf h

/-- what is said of a code whose end is this one -/
def saidL (pre : List (Int × Int)) (e k : Int) : Int × Int := if (!jumpsB e || (decide (k ≥ 0) && decide (k < ((pre.length + 1 : Nat) : Int)))) = false then ((pre.length : Int), 28) else if endsB e = true then (0, 0) else ((pre.length : Int), 31)

set_option maxHeartbeats 16000000 in
set_option maxRecDepth 100000 in
theorem methodL_ok {H : Heap} {lo : Int} {a : Option Addr} {n c : Nat} {pre : List (Int × Int)} {e k : Int} (hs0 : SlX [] O H (.slice a n c) 7 n ((pre ++ [(e, k)]).flatMap IC)) (hlo : 0 ≤ lo) (hn : n ≤ 1000)
    (hpre : ∀ p ∈ pre, (p.1 == 4) = false ∧ (p.1 == 5) = false ∧ jumpsB p.1 = false) (h4 : (e == 4) = false) (h5 : (e == 5) = false) :
    CallC TT O 5 [.agg (methC lo a n c).toArray] H fun v H' => v = .tuple #[.int .i64 (saidL pre e k).1, .int .i64 (saidL pre e k).2] ∧ Ext H H' := by
  have hl : pre.length + 1 = n := by
    have := (hs0 H (ExtBut.refl _ _)).1
    rw [flat_len (z := 7) (fun _ => rfl)] at this
    simp at this; omega
  refine call_pure rfl rfl rfl rfl rfl ?_
  repeat (first | refine zr ?_ | (refine zn ?_; intro _))
  rename_i mb
  rw [show ((n : Int) == 0) = false from by simp; omega]
  repeat (first | refine zr ?_ | (refine zn ?_; intro _))
  refine exec_draw (lst := [(0, 0), (1, 1), (2, 3), (3, 7), (4, 15), (5, 31), (6, 15), (7, 79), (8, 255), (9, 511), (10, 1023)]) (full := 2047) (by kernel_rfl) (by kernel_rfl) (by kernel_rfl) (by kernel_rfl) ?_
  repeat (first | refine zd ?_)
  try refine draw_nil ?_
  refine draw_w rfl rfl rfl rfl rfl rfl (step_call_pure rfl rfl rfl (fun H hs => args_ok) (zst ?_))
  repeat (first | refine zd ?_)
  try refine draw_nil ?_
  rw [show decide (lo < 0) = false from decide_eq_false (by omega)]
  repeat (first | refine zd ?_)
  try refine draw_nil ?_
  repeat (first | refine zr ?_ | (refine zn ?_; intro _))
  refine ExecS.weak (E' := [(1, ptr' mb), (2, .int .i64 0), (3, .int .i64 0), (49, .slice a n c), (50, .int .i64 (n : Int)), (51, .int .i64 ((0 : Nat) : Int))]) (L' := [(some mb, .cells 0 (methC lo a n c) 0 30)]) ⟨rfl, rfl, rfl, rfl, rfl, rfl, trivial⟩ (List.Sublist.refl _) ?_
  refine exec_loop (fun m E L => ∃ i : Nat, i + m = n ∧ (i = n → saidL pre e k = (0, 0)) ∧ E = [(1, ptr' mb), (2, .int .i64 0), (3, .int .i64 0), (49, .slice a n c), (50, .int .i64 (n : Int)), (51, .int .i64 (i : Int))] ∧ L = [(some mb, .cells 0 (methC lo a n c) 0 30)]) ?_ n _ _ ⟨0, by omega, fun h => by omega, rfl, rfl⟩
  rintro m E L ⟨i, him, hin, rfl, rfl⟩
  repeat (first | refine zr ?_ | (refine zn ?_; intro _))
  refine exec_cond rfl (fun hlt => ?_) (fun hge => ?_)
  rotate_left
  · have hi : i = n := by simp at hge; omega
    rw [hin hi]
    repeat (first | refine zr ?_ | (refine zn ?_; intro _))
    refine exec_loop_step ?_
    repeat (first | refine zr ?_ | (refine zn ?_; intro _))
    exact ⟨trivial, _, rfl, rfl⟩
  have hi : i < n := by simp at hlt; omega
  obtain ⟨p, hp⟩ : ∃ p, (pre ++ [(e, k)])[i]? = some p := ⟨_, List.getElem?_eq_getElem (by simp; omega)⟩
  obtain ⟨po, pk⟩ := p
  have hpc : po = e ∧ pk = k ∧ i + 1 = n ∨ (po, pk) ∈ pre ∧ i + 1 ≠ n := by
    by_cases h : i < pre.length
    · rw [List.getElem?_append_left h] at hp
      exact .inr ⟨List.mem_of_getElem? hp, by omega⟩
    · rw [List.getElem?_append_right (by omega), show i - pre.length = 0 from by omega] at hp
      cases hp
      exact .inl ⟨rfl, rfl, by omega⟩
  have hp45 : (po == 4) = false ∧ (po == 5) = false := by
    rcases hpc with ⟨rfl, rfl, _⟩ | ⟨h, _⟩
    · exact ⟨h4, h5⟩
    · exact ⟨(hpre _ h).1, (hpre _ h).2.1⟩
  repeat (first | refine zr ?_ | (refine zn ?_; intro _))
  (first | apply ops_pl rfl rfl rfl ?_ rfl ?_ | apply draw_pl rfl rfl rfl rfl ?_ rfl rfl ?_); rotate_left; focus exact (.p rfl (opP_idx rfl rfl (hs0 H (ExtBut.refl _ _)) rfl rfl (by omega) (by omega)))
  (first | apply ops_pl rfl rfl rfl ?_ rfl ?_ | apply draw_pl rfl rfl rfl rfl ?_ rfl rfl ?_); rotate_left; focus exact (.l rfl (fun H hs => opL_load rfl ((hs0.at hs).ldA rfl (by decide) hi (flat_at (f := IC) (fun _ => rfl) hp))))
  repeat (first | refine zr ?_ | (refine zn ?_; intro _))
  refine ops_step rfl rfl rfl (step_call_pure rfl rfl rfl (fun H hs => instr_ok hp45.1 hp45.2) ?_)
  rcases hpc with ⟨rfl, rfl, hl1⟩ | ⟨hmem, hne⟩
  · have hpl : ((pre.length + 1 : Nat) : Int) = (n : Int) := by omega
    rw [saidL, hpl]
    cases hok : (!jumpsB po || (decide (pk ≥ 0) && decide (pk < (n : Int))))
    · repeat (first | refine zr ?_ | (refine zn ?_; intro _))
      refine ⟨trivial, _, rfl, ?_⟩
      rw [if_pos rfl, show i = pre.length from by omega]; rfl
    repeat (first | refine zr ?_ | (refine zn ?_; intro _))
    rw [show ((i : Int) == (n : Int) - 1) = true from by rw [beq_iff_eq]; omega]
    repeat (first | refine zr ?_ | (refine zn ?_; intro _))
    refine ops_step rfl rfl rfl (step_call_pure rfl rfl rfl (fun H hs => ends_ok) ?_)
    cases hen : endsB po
    · repeat (first | refine zr ?_ | (refine zn ?_; intro _))
      refine ⟨trivial, _, rfl, ?_⟩
      rw [if_neg (by decide), if_neg (by decide), show i = pre.length from by omega]; rfl
    repeat (first | refine zr ?_ | (refine zn ?_; intro _))
    refine ⟨m - 1, by omega, _, _, ?_, List.Sublist.cons _ (List.Sublist.refl _), i + 1, by omega, fun _ => ?_, rfl, rfl⟩
    · exact ⟨rfl, rfl, rfl, rfl, rfl, rfl, trivial⟩
    · rw [if_neg (by decide), if_pos rfl]
  · have hj := (hpre _ hmem).2.2
    rw [hj]
    repeat (first | refine zr ?_ | (refine zn ?_; intro _))
    rw [show ((i : Int) == (n : Int) - 1) = false from by rw [beq_eq_false_iff_ne]; omega]
    repeat (first | refine zr ?_ | (refine zn ?_; intro _))
    refine ⟨m - 1, by omega, _, _, ?_, List.Sublist.cons _ (List.Sublist.refl _), i + 1, by omega, fun h => absurd h hne, rfl, rfl⟩
    exact ⟨rfl, rfl, rfl, rfl, rfl, rfl, trivial⟩
end Go.Proofs.YtmmojhbboomgoaaGreat

