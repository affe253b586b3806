/-
  A method's text comes back; the law's types.
-/
import Derived.Test.YtceoheliineobaaDesc9
import Derived.Test.YtceoheliineobaaDesc5a
namespace Go.Proofs.Ytceoheliineobaa
open Go.Ev Go.Ev.Wk
set_option linter.unusedVariables false
set_option linter.unusedSimpArgs false
variable {O : Old}

def clsT (m : Nat) : List UInt8 := match m with | 0 => [65] | 1 => [66] | 2 => [65, 66] | 3 => [76] | _ => [73]
/-- the law's types -/
def ofT (m : Nat) : Int × List UInt8 := if 120 ≤ m then (4, clsT (m % 5)) else (((m % 3 + 1 : Nat) : Int), [])

inductive GoodT : Int × List UInt8 → Prop
  | i : GoodT (1, [])
  | s : GoodT (2, [])
  | a : GoodT (3, [])
  | c0 : GoodT (4, [65])
  | c1 : GoodT (4, [66])
  | c2 : GoodT (4, [65, 66])
  | c3 : GoodT (4, [76])
  | c4 : GoodT (4, [73])

theorem ofT_good (m : Nat) : GoodT (ofT m) := by
  unfold ofT
  split
  · have h : m % 5 = 0 ∨ m % 5 = 1 ∨ m % 5 = 2 ∨ m % 5 = 3 ∨ m % 5 = 4 := by omega
    rcases h with h | h | h | h | h <;> rw [h]
    · exact .c0
    · exact .c1
    · exact .c2
    · exact .c3
    · exact .c4
  · have h : m % 3 = 0 ∨ m % 3 = 1 ∨ m % 3 = 2 := by omega
    rcases h with h | h | h <;> rw [h]
    · exact .i
    · exact .s
    · exact .a

theorem fst_good {x : Int × List UInt8} (h : GoodT x) (r : List UInt8) : fstC (typeL x.1 x.2 ++ r) = (x, r, true) := by
  cases h <;> rfl

theorem head_good {x : Int × List UInt8} (h : GoodT x) (r : List UInt8) : ¬ (typeL x.1 x.2 ++ r = [] ∨ (typeL x.1 x.2 ++ r).take 1 = [41]) := by
  cases h <;> (intro h; rcases h with h | h <;> cases h)

theorem kind_good {x : Int × List UInt8} (h : GoodT x) : x.1 ≠ 5 ∧ x.2.length ≤ 2 := by
  cases h <;> exact ⟨by decide, by decide⟩

theorem go_good (t : List UInt8) : ∀ (l p : List (Int × List UInt8)) (f : Nat), (∀ x ∈ l, GoodT x) → l.length + 1 ≤ f → p.length + l.length ≤ 8 → goC f p ((l.flatMap fun x => typeL x.1 x.2) ++ 41 :: t) = (p ++ l, 41 :: t, true)
  | [], p, 0, _, hf, _ => by simp at hf
  | [], p, f + 1, _, _, _ => by
    rw [List.flatMap_nil, List.nil_append, goC, if_pos (.inr rfl), List.append_nil]
  | x :: l, p, 0, _, hf, _ => by simp at hf
  | x :: l, p, f + 1, hg, hf, hp => by
    have hx := hg x (by simp)
    simp only [List.length_cons] at hf hp
    rw [List.flatMap_cons, List.append_assoc, goC, if_neg (head_good hx _), fst_good hx, if_pos ⟨rfl, (kind_good hx).1, by omega⟩]
    show goC f (p ++ [x]) _ = _
    rw [go_good t l (p ++ [x]) f (fun y hy => hg y (by simp [hy])) (by omega) (by rw [List.length_append]; simp; omega), List.append_assoc]
    rfl

theorem parse_of {l : List (Int × List UInt8)} {x : Int × List UInt8} (hl : ∀ y ∈ l, GoodT y) (h8 : l.length ≤ 8) (hx : GoodT x) : parseC (ofL l x.1 x.2) = (l, x, true) := by
  have e : (ofL l x.1 x.2).drop 1 = (l.flatMap fun x => typeL x.1 x.2) ++ 41 :: typeL x.1 x.2 := by
    rw [ofL, ofP, List.take_length]; rfl
  have g := go_good (typeL x.1 x.2) l [] 9 hl (by omega) (by simp; omega)
  have o : oneC (typeL x.1 x.2) = (x, true) := by
    have := fst_good hx []
    rw [List.append_nil] at this
    rw [oneC, this, if_pos ⟨rfl, rfl⟩]
  have c : cpL (41 :: typeL x.1 x.2) 41 = typeL x.1 x.2 := rfl
  rw [parseC, e, g]
  simp only [c, o]
  rw [if_pos ⟨rfl, trivial, rfl, trivial⟩]
  rfl

set_option maxHeartbeats 8000000 in
set_option maxRecDepth 100000 in
theorem of_n_ok {H : Heap} {m : Nat} (hm : m ≤ 255) : CallC TT O 28 [.int .u8 (m : Int)] H fun v H' => v = typW (ofT m) ∧ Ext H H' := by
  refine call_pureM rfl rfl rfl rfl rfl ?_
  repeat (first
      | refine exec_seq ?_
      | refine exec_region ?_
      | refine exec_block ?_
      | refine exec_skip ?_
      | refine exec_exit ?_
      | refine exec_ret ?_
      | refine exec_true rfl ?_
      | refine exec_false rfl ?_
      | refine ops_nil ?_
      | (apply ops_pl rfl rfl rfl ?_ rfl ?_; rotate_left; focus first | exact (.bld rfl rfl rfl rfl) | exact (.cat rfl rfl rfl (by first | (simp; done) | (simp; omega))) | exact (.neSelf rfl rfl rfl rfl) | exact (.eqSelf rfl rfl rfl rfl) | exact (.wr64 rfl rfl (by omega) (by omega)) | exact (.wr8 rfl rfl (by omega) (by omega)) | exact (.num rfl rfl (and127_u8N (by omega))) | exact (.num rfl rfl (or128_u8N (by omega))) | exact (.orU8 rfl rfl rfl (by omega) (by omega)) | exact (.num rfl rfl (and127_i64N (by omega))) | exact (.num rfl rfl (and1_i64N (by omega))) | exact (.p rfl rfl) | exact (.max2 rfl rfl rfl) | exact (.min2 rfl rfl rfl) | exact (.numL rfl (fun _ => rfl) (byte_wrap _)) | exact (.cv64 rfl (fun _ => rfl) (by omega) (by omega)) | exact (.cv8 rfl (fun _ => rfl) (by omega) (by omega)) | exact (.l rfl (fun _ _ => rfl)) | exact (.l rfl (look_own 0 rfl rfl rfl rfl)) | exact (.l rfl (look_own 1 rfl rfl rfl rfl)) | exact (.l rfl (look_own 2 rfl rfl rfl rfl)) | exact (.l rfl (look_own 3 rfl rfl rfl rfl)) | exact (.l rfl (look_own 4 rfl rfl rfl rfl)) | exact (.l rfl (look_own 5 rfl rfl rfl rfl)) | exact (.l rfl (look_own 6 rfl rfl rfl rfl)) | exact (.l rfl (look_own 7 rfl rfl rfl rfl)) | exact (.l rfl (look_agg 0 rfl rfl rfl rfl)) | exact (.l rfl (look_agg 1 rfl rfl rfl rfl)) | exact (.l rfl (look_agg 2 rfl rfl rfl rfl)) | exact (.l rfl (look_agg 3 rfl rfl rfl rfl)) | exact (.l rfl (look_agg 4 rfl rfl rfl rfl)) | exact (.l rfl (look_agg 5 rfl rfl rfl rfl)) | exact (.l rfl (look_agg 6 rfl rfl rfl rfl)) | exact (.l rfl (look_agg 7 rfl rfl rfl rfl)) | exact (.l rfl (look_str 0 rfl rfl rfl rfl rfl rfl rfl)) | exact (.l rfl (look_str 1 rfl rfl rfl rfl rfl rfl rfl)) | exact (.l rfl (look_str 2 rfl rfl rfl rfl rfl rfl rfl)) | exact (.l rfl (look_str 3 rfl rfl rfl rfl rfl rfl rfl)))
      | refine ops_skip rfl rfl rfl ?_
      | (refine ops_step rfl rfl rfl ?_; first | (refine step_box rfl rfl rfl (fun _ => ?_)) | (refine step_alloc rfl rfl rfl rfl (fun _ => ?_)) | (refine step_buildSlice rfl rfl rfl rfl rfl (fun _ => ?_)) | (refine step_map rfl (fun _ => ?_)) | (refine step_store 0 rfl rfl rfl rfl rfl rfl rfl rfl rfl ?_) | (refine step_store 1 rfl rfl rfl rfl rfl rfl rfl rfl rfl ?_) | (refine step_store 2 rfl rfl rfl rfl rfl rfl rfl rfl rfl ?_) | (refine step_store 3 rfl rfl rfl rfl rfl rfl rfl rfl rfl ?_) | (refine step_store 4 rfl rfl rfl rfl rfl rfl rfl rfl rfl ?_) | (refine step_store 5 rfl rfl rfl rfl rfl rfl rfl rfl rfl ?_) | (refine step_store 6 rfl rfl rfl rfl rfl rfl rfl rfl rfl ?_) | (refine step_store 7 rfl rfl rfl rfl rfl rfl rfl rfl rfl ?_)))
  cases h : decide ((m : Int) ≥ 120)
  · have hlt := of_decide_eq_false h
    have hn0 : (m : Int).tmod 3 = ((m % 3 : Nat) : Int) := tmodN (by omega) (by omega)
    have e : ofT m = (((m % 3 + 1 : Nat) : Int), []) := by rw [ofT, if_neg (by omega)]
    rw [e]
    repeat (first
        | refine exec_seq ?_
        | refine exec_region ?_
        | refine exec_block ?_
        | refine exec_skip ?_
        | refine exec_exit ?_
        | refine exec_ret ?_
        | refine exec_true rfl ?_
        | refine exec_false rfl ?_
        | refine ops_nil ?_
        | (apply ops_pl rfl rfl rfl ?_ rfl ?_; rotate_left; focus first | exact (.bld rfl rfl rfl rfl) | exact (.cat rfl rfl rfl (by first | (simp; done) | (simp; omega))) | exact (.neSelf rfl rfl rfl rfl) | exact (.eqSelf rfl rfl rfl rfl) | exact (.wr64 rfl rfl (by omega) (by omega)) | exact (.wr8 rfl rfl (by omega) (by omega)) | exact (.num rfl rfl (and127_u8N (by omega))) | exact (.num rfl rfl (or128_u8N (by omega))) | exact (.orU8 rfl rfl rfl (by omega) (by omega)) | exact (.num rfl rfl (and127_i64N (by omega))) | exact (.num rfl rfl (and1_i64N (by omega))) | exact (.p rfl rfl) | exact (.max2 rfl rfl rfl) | exact (.min2 rfl rfl rfl) | exact (.numL rfl (fun _ => rfl) (byte_wrap _)) | exact (.cv64 rfl (fun _ => rfl) (by omega) (by omega)) | exact (.cv8 rfl (fun _ => rfl) (by omega) (by omega)) | exact (.l rfl (fun _ _ => rfl)) | exact (.l rfl (look_own 0 rfl rfl rfl rfl)) | exact (.l rfl (look_own 1 rfl rfl rfl rfl)) | exact (.l rfl (look_own 2 rfl rfl rfl rfl)) | exact (.l rfl (look_own 3 rfl rfl rfl rfl)) | exact (.l rfl (look_own 4 rfl rfl rfl rfl)) | exact (.l rfl (look_own 5 rfl rfl rfl rfl)) | exact (.l rfl (look_own 6 rfl rfl rfl rfl)) | exact (.l rfl (look_own 7 rfl rfl rfl rfl)) | exact (.l rfl (look_agg 0 rfl rfl rfl rfl)) | exact (.l rfl (look_agg 1 rfl rfl rfl rfl)) | exact (.l rfl (look_agg 2 rfl rfl rfl rfl)) | exact (.l rfl (look_agg 3 rfl rfl rfl rfl)) | exact (.l rfl (look_agg 4 rfl rfl rfl rfl)) | exact (.l rfl (look_agg 5 rfl rfl rfl rfl)) | exact (.l rfl (look_agg 6 rfl rfl rfl rfl)) | exact (.l rfl (look_agg 7 rfl rfl rfl rfl)) | exact (.l rfl (look_str 0 rfl rfl rfl rfl rfl rfl rfl)) | exact (.l rfl (look_str 1 rfl rfl rfl rfl rfl rfl rfl)) | exact (.l rfl (look_str 2 rfl rfl rfl rfl rfl rfl rfl)) | exact (.l rfl (look_str 3 rfl rfl rfl rfl rfl rfl rfl)))
        | refine ops_skip rfl rfl rfl ?_
        | (refine ops_step rfl rfl rfl ?_; first | (refine step_box rfl rfl rfl (fun _ => ?_)) | (refine step_alloc rfl rfl rfl rfl (fun _ => ?_)) | (refine step_buildSlice rfl rfl rfl rfl rfl (fun _ => ?_)) | (refine step_map rfl (fun _ => ?_)) | (refine step_store 0 rfl rfl rfl rfl rfl rfl rfl rfl rfl ?_) | (refine step_store 1 rfl rfl rfl rfl rfl rfl rfl rfl rfl ?_) | (refine step_store 2 rfl rfl rfl rfl rfl rfl rfl rfl rfl ?_) | (refine step_store 3 rfl rfl rfl rfl rfl rfl rfl rfl rfl ?_) | (refine step_store 4 rfl rfl rfl rfl rfl rfl rfl rfl rfl ?_) | (refine step_store 5 rfl rfl rfl rfl rfl rfl rfl rfl rfl ?_) | (refine step_store 6 rfl rfl rfl rfl rfl rfl rfl rfl rfl ?_) | (refine step_store 7 rfl rfl rfl rfl rfl rfl rfl rfl rfl ?_)))
    rw [hn0]
    have h3 : m % 3 = 0 ∨ m % 3 = 1 ∨ m % 3 = 2 := by omega
    rcases h3 with h | h | h <;> rw [h]
    · repeat (first
          | refine exec_seq ?_
          | refine exec_region ?_
          | refine exec_block ?_
          | refine exec_skip ?_
          | refine exec_exit ?_
          | refine exec_ret ?_
          | refine exec_true rfl ?_
          | refine exec_false rfl ?_
          | refine ops_nil ?_
          | (apply ops_pl rfl rfl rfl ?_ rfl ?_; rotate_left; focus first | exact (.bld rfl rfl rfl rfl) | exact (.cat rfl rfl rfl (by first | (simp; done) | (simp; omega))) | exact (.neSelf rfl rfl rfl rfl) | exact (.eqSelf rfl rfl rfl rfl) | exact (.wr64 rfl rfl (by omega) (by omega)) | exact (.wr8 rfl rfl (by omega) (by omega)) | exact (.num rfl rfl (and127_u8N (by omega))) | exact (.num rfl rfl (or128_u8N (by omega))) | exact (.orU8 rfl rfl rfl (by omega) (by omega)) | exact (.num rfl rfl (and127_i64N (by omega))) | exact (.num rfl rfl (and1_i64N (by omega))) | exact (.p rfl rfl) | exact (.max2 rfl rfl rfl) | exact (.min2 rfl rfl rfl) | exact (.numL rfl (fun _ => rfl) (byte_wrap _)) | exact (.cv64 rfl (fun _ => rfl) (by omega) (by omega)) | exact (.cv8 rfl (fun _ => rfl) (by omega) (by omega)) | exact (.l rfl (fun _ _ => rfl)) | exact (.l rfl (look_own 0 rfl rfl rfl rfl)) | exact (.l rfl (look_own 1 rfl rfl rfl rfl)) | exact (.l rfl (look_own 2 rfl rfl rfl rfl)) | exact (.l rfl (look_own 3 rfl rfl rfl rfl)) | exact (.l rfl (look_own 4 rfl rfl rfl rfl)) | exact (.l rfl (look_own 5 rfl rfl rfl rfl)) | exact (.l rfl (look_own 6 rfl rfl rfl rfl)) | exact (.l rfl (look_own 7 rfl rfl rfl rfl)) | exact (.l rfl (look_agg 0 rfl rfl rfl rfl)) | exact (.l rfl (look_agg 1 rfl rfl rfl rfl)) | exact (.l rfl (look_agg 2 rfl rfl rfl rfl)) | exact (.l rfl (look_agg 3 rfl rfl rfl rfl)) | exact (.l rfl (look_agg 4 rfl rfl rfl rfl)) | exact (.l rfl (look_agg 5 rfl rfl rfl rfl)) | exact (.l rfl (look_agg 6 rfl rfl rfl rfl)) | exact (.l rfl (look_agg 7 rfl rfl rfl rfl)) | exact (.l rfl (look_str 0 rfl rfl rfl rfl rfl rfl rfl)) | exact (.l rfl (look_str 1 rfl rfl rfl rfl rfl rfl rfl)) | exact (.l rfl (look_str 2 rfl rfl rfl rfl rfl rfl rfl)) | exact (.l rfl (look_str 3 rfl rfl rfl rfl rfl rfl rfl)))
          | refine ops_skip rfl rfl rfl ?_
          | (refine ops_step rfl rfl rfl ?_; first | (refine step_box rfl rfl rfl (fun _ => ?_)) | (refine step_alloc rfl rfl rfl rfl (fun _ => ?_)) | (refine step_buildSlice rfl rfl rfl rfl rfl (fun _ => ?_)) | (refine step_map rfl (fun _ => ?_)) | (refine step_store 0 rfl rfl rfl rfl rfl rfl rfl rfl rfl ?_) | (refine step_store 1 rfl rfl rfl rfl rfl rfl rfl rfl rfl ?_) | (refine step_store 2 rfl rfl rfl rfl rfl rfl rfl rfl rfl ?_) | (refine step_store 3 rfl rfl rfl rfl rfl rfl rfl rfl rfl ?_) | (refine step_store 4 rfl rfl rfl rfl rfl rfl rfl rfl rfl ?_) | (refine step_store 5 rfl rfl rfl rfl rfl rfl rfl rfl rfl ?_) | (refine step_store 6 rfl rfl rfl rfl rfl rfl rfl rfl rfl ?_) | (refine step_store 7 rfl rfl rfl rfl rfl rfl rfl rfl rfl ?_)))
      refine ⟨trivial, [_], ⟨look_agg 1 rfl rfl rfl rfl, trivial⟩, rfl⟩
    · repeat (first
          | refine exec_seq ?_
          | refine exec_region ?_
          | refine exec_block ?_
          | refine exec_skip ?_
          | refine exec_exit ?_
          | refine exec_ret ?_
          | refine exec_true rfl ?_
          | refine exec_false rfl ?_
          | refine ops_nil ?_
          | (apply ops_pl rfl rfl rfl ?_ rfl ?_; rotate_left; focus first | exact (.bld rfl rfl rfl rfl) | exact (.cat rfl rfl rfl (by first | (simp; done) | (simp; omega))) | exact (.neSelf rfl rfl rfl rfl) | exact (.eqSelf rfl rfl rfl rfl) | exact (.wr64 rfl rfl (by omega) (by omega)) | exact (.wr8 rfl rfl (by omega) (by omega)) | exact (.num rfl rfl (and127_u8N (by omega))) | exact (.num rfl rfl (or128_u8N (by omega))) | exact (.orU8 rfl rfl rfl (by omega) (by omega)) | exact (.num rfl rfl (and127_i64N (by omega))) | exact (.num rfl rfl (and1_i64N (by omega))) | exact (.p rfl rfl) | exact (.max2 rfl rfl rfl) | exact (.min2 rfl rfl rfl) | exact (.numL rfl (fun _ => rfl) (byte_wrap _)) | exact (.cv64 rfl (fun _ => rfl) (by omega) (by omega)) | exact (.cv8 rfl (fun _ => rfl) (by omega) (by omega)) | exact (.l rfl (fun _ _ => rfl)) | exact (.l rfl (look_own 0 rfl rfl rfl rfl)) | exact (.l rfl (look_own 1 rfl rfl rfl rfl)) | exact (.l rfl (look_own 2 rfl rfl rfl rfl)) | exact (.l rfl (look_own 3 rfl rfl rfl rfl)) | exact (.l rfl (look_own 4 rfl rfl rfl rfl)) | exact (.l rfl (look_own 5 rfl rfl rfl rfl)) | exact (.l rfl (look_own 6 rfl rfl rfl rfl)) | exact (.l rfl (look_own 7 rfl rfl rfl rfl)) | exact (.l rfl (look_agg 0 rfl rfl rfl rfl)) | exact (.l rfl (look_agg 1 rfl rfl rfl rfl)) | exact (.l rfl (look_agg 2 rfl rfl rfl rfl)) | exact (.l rfl (look_agg 3 rfl rfl rfl rfl)) | exact (.l rfl (look_agg 4 rfl rfl rfl rfl)) | exact (.l rfl (look_agg 5 rfl rfl rfl rfl)) | exact (.l rfl (look_agg 6 rfl rfl rfl rfl)) | exact (.l rfl (look_agg 7 rfl rfl rfl rfl)) | exact (.l rfl (look_str 0 rfl rfl rfl rfl rfl rfl rfl)) | exact (.l rfl (look_str 1 rfl rfl rfl rfl rfl rfl rfl)) | exact (.l rfl (look_str 2 rfl rfl rfl rfl rfl rfl rfl)) | exact (.l rfl (look_str 3 rfl rfl rfl rfl rfl rfl rfl)))
          | refine ops_skip rfl rfl rfl ?_
          | (refine ops_step rfl rfl rfl ?_; first | (refine step_box rfl rfl rfl (fun _ => ?_)) | (refine step_alloc rfl rfl rfl rfl (fun _ => ?_)) | (refine step_buildSlice rfl rfl rfl rfl rfl (fun _ => ?_)) | (refine step_map rfl (fun _ => ?_)) | (refine step_store 0 rfl rfl rfl rfl rfl rfl rfl rfl rfl ?_) | (refine step_store 1 rfl rfl rfl rfl rfl rfl rfl rfl rfl ?_) | (refine step_store 2 rfl rfl rfl rfl rfl rfl rfl rfl rfl ?_) | (refine step_store 3 rfl rfl rfl rfl rfl rfl rfl rfl rfl ?_) | (refine step_store 4 rfl rfl rfl rfl rfl rfl rfl rfl rfl ?_) | (refine step_store 5 rfl rfl rfl rfl rfl rfl rfl rfl rfl ?_) | (refine step_store 6 rfl rfl rfl rfl rfl rfl rfl rfl rfl ?_) | (refine step_store 7 rfl rfl rfl rfl rfl rfl rfl rfl rfl ?_)))
      refine ⟨trivial, [_], ⟨look_agg 1 rfl rfl rfl rfl, trivial⟩, rfl⟩
    · repeat (first
          | refine exec_seq ?_
          | refine exec_region ?_
          | refine exec_block ?_
          | refine exec_skip ?_
          | refine exec_exit ?_
          | refine exec_ret ?_
          | refine exec_true rfl ?_
          | refine exec_false rfl ?_
          | refine ops_nil ?_
          | (apply ops_pl rfl rfl rfl ?_ rfl ?_; rotate_left; focus first | exact (.bld rfl rfl rfl rfl) | exact (.cat rfl rfl rfl (by first | (simp; done) | (simp; omega))) | exact (.neSelf rfl rfl rfl rfl) | exact (.eqSelf rfl rfl rfl rfl) | exact (.wr64 rfl rfl (by omega) (by omega)) | exact (.wr8 rfl rfl (by omega) (by omega)) | exact (.num rfl rfl (and127_u8N (by omega))) | exact (.num rfl rfl (or128_u8N (by omega))) | exact (.orU8 rfl rfl rfl (by omega) (by omega)) | exact (.num rfl rfl (and127_i64N (by omega))) | exact (.num rfl rfl (and1_i64N (by omega))) | exact (.p rfl rfl) | exact (.max2 rfl rfl rfl) | exact (.min2 rfl rfl rfl) | exact (.numL rfl (fun _ => rfl) (byte_wrap _)) | exact (.cv64 rfl (fun _ => rfl) (by omega) (by omega)) | exact (.cv8 rfl (fun _ => rfl) (by omega) (by omega)) | exact (.l rfl (fun _ _ => rfl)) | exact (.l rfl (look_own 0 rfl rfl rfl rfl)) | exact (.l rfl (look_own 1 rfl rfl rfl rfl)) | exact (.l rfl (look_own 2 rfl rfl rfl rfl)) | exact (.l rfl (look_own 3 rfl rfl rfl rfl)) | exact (.l rfl (look_own 4 rfl rfl rfl rfl)) | exact (.l rfl (look_own 5 rfl rfl rfl rfl)) | exact (.l rfl (look_own 6 rfl rfl rfl rfl)) | exact (.l rfl (look_own 7 rfl rfl rfl rfl)) | exact (.l rfl (look_agg 0 rfl rfl rfl rfl)) | exact (.l rfl (look_agg 1 rfl rfl rfl rfl)) | exact (.l rfl (look_agg 2 rfl rfl rfl rfl)) | exact (.l rfl (look_agg 3 rfl rfl rfl rfl)) | exact (.l rfl (look_agg 4 rfl rfl rfl rfl)) | exact (.l rfl (look_agg 5 rfl rfl rfl rfl)) | exact (.l rfl (look_agg 6 rfl rfl rfl rfl)) | exact (.l rfl (look_agg 7 rfl rfl rfl rfl)) | exact (.l rfl (look_str 0 rfl rfl rfl rfl rfl rfl rfl)) | exact (.l rfl (look_str 1 rfl rfl rfl rfl rfl rfl rfl)) | exact (.l rfl (look_str 2 rfl rfl rfl rfl rfl rfl rfl)) | exact (.l rfl (look_str 3 rfl rfl rfl rfl rfl rfl rfl)))
          | refine ops_skip rfl rfl rfl ?_
          | (refine ops_step rfl rfl rfl ?_; first | (refine step_box rfl rfl rfl (fun _ => ?_)) | (refine step_alloc rfl rfl rfl rfl (fun _ => ?_)) | (refine step_buildSlice rfl rfl rfl rfl rfl (fun _ => ?_)) | (refine step_map rfl (fun _ => ?_)) | (refine step_store 0 rfl rfl rfl rfl rfl rfl rfl rfl rfl ?_) | (refine step_store 1 rfl rfl rfl rfl rfl rfl rfl rfl rfl ?_) | (refine step_store 2 rfl rfl rfl rfl rfl rfl rfl rfl rfl ?_) | (refine step_store 3 rfl rfl rfl rfl rfl rfl rfl rfl rfl ?_) | (refine step_store 4 rfl rfl rfl rfl rfl rfl rfl rfl rfl ?_) | (refine step_store 5 rfl rfl rfl rfl rfl rfl rfl rfl rfl ?_) | (refine step_store 6 rfl rfl rfl rfl rfl rfl rfl rfl rfl ?_) | (refine step_store 7 rfl rfl rfl rfl rfl rfl rfl rfl rfl ?_)))
      refine ⟨trivial, [_], ⟨look_agg 1 rfl rfl rfl rfl, trivial⟩, rfl⟩
  · have hge := of_decide_eq_true h
    have hn0 : (m : Int).tmod 5 = ((m % 5 : Nat) : Int) := tmodN (by omega) (by omega)
    have e : ofT m = (4, clsT (m % 5)) := by rw [ofT, if_pos (by omega)]
    rw [e]
    repeat (first
        | refine exec_seq ?_
        | refine exec_region ?_
        | refine exec_block ?_
        | refine exec_skip ?_
        | refine exec_exit ?_
        | refine exec_ret ?_
        | refine exec_true rfl ?_
        | refine exec_false rfl ?_
        | refine ops_nil ?_
        | (apply ops_pl rfl rfl rfl ?_ rfl ?_; rotate_left; focus first | exact (.bld rfl rfl rfl rfl) | exact (.cat rfl rfl rfl (by first | (simp; done) | (simp; omega))) | exact (.neSelf rfl rfl rfl rfl) | exact (.eqSelf rfl rfl rfl rfl) | exact (.wr64 rfl rfl (by omega) (by omega)) | exact (.wr8 rfl rfl (by omega) (by omega)) | exact (.num rfl rfl (and127_u8N (by omega))) | exact (.num rfl rfl (or128_u8N (by omega))) | exact (.orU8 rfl rfl rfl (by omega) (by omega)) | exact (.num rfl rfl (and127_i64N (by omega))) | exact (.num rfl rfl (and1_i64N (by omega))) | exact (.p rfl rfl) | exact (.max2 rfl rfl rfl) | exact (.min2 rfl rfl rfl) | exact (.numL rfl (fun _ => rfl) (byte_wrap _)) | exact (.cv64 rfl (fun _ => rfl) (by omega) (by omega)) | exact (.cv8 rfl (fun _ => rfl) (by omega) (by omega)) | exact (.l rfl (fun _ _ => rfl)) | exact (.l rfl (look_own 0 rfl rfl rfl rfl)) | exact (.l rfl (look_own 1 rfl rfl rfl rfl)) | exact (.l rfl (look_own 2 rfl rfl rfl rfl)) | exact (.l rfl (look_own 3 rfl rfl rfl rfl)) | exact (.l rfl (look_own 4 rfl rfl rfl rfl)) | exact (.l rfl (look_own 5 rfl rfl rfl rfl)) | exact (.l rfl (look_own 6 rfl rfl rfl rfl)) | exact (.l rfl (look_own 7 rfl rfl rfl rfl)) | exact (.l rfl (look_agg 0 rfl rfl rfl rfl)) | exact (.l rfl (look_agg 1 rfl rfl rfl rfl)) | exact (.l rfl (look_agg 2 rfl rfl rfl rfl)) | exact (.l rfl (look_agg 3 rfl rfl rfl rfl)) | exact (.l rfl (look_agg 4 rfl rfl rfl rfl)) | exact (.l rfl (look_agg 5 rfl rfl rfl rfl)) | exact (.l rfl (look_agg 6 rfl rfl rfl rfl)) | exact (.l rfl (look_agg 7 rfl rfl rfl rfl)) | exact (.l rfl (look_str 0 rfl rfl rfl rfl rfl rfl rfl)) | exact (.l rfl (look_str 1 rfl rfl rfl rfl rfl rfl rfl)) | exact (.l rfl (look_str 2 rfl rfl rfl rfl rfl rfl rfl)) | exact (.l rfl (look_str 3 rfl rfl rfl rfl rfl rfl rfl)))
        | refine ops_skip rfl rfl rfl ?_
        | (refine ops_step rfl rfl rfl ?_; first | (refine step_box rfl rfl rfl (fun _ => ?_)) | (refine step_alloc rfl rfl rfl rfl (fun _ => ?_)) | (refine step_buildSlice rfl rfl rfl rfl rfl (fun _ => ?_)) | (refine step_map rfl (fun _ => ?_)) | (refine step_store 0 rfl rfl rfl rfl rfl rfl rfl rfl rfl ?_) | (refine step_store 1 rfl rfl rfl rfl rfl rfl rfl rfl rfl ?_) | (refine step_store 2 rfl rfl rfl rfl rfl rfl rfl rfl rfl ?_) | (refine step_store 3 rfl rfl rfl rfl rfl rfl rfl rfl rfl ?_) | (refine step_store 4 rfl rfl rfl rfl rfl rfl rfl rfl rfl ?_) | (refine step_store 5 rfl rfl rfl rfl rfl rfl rfl rfl rfl ?_) | (refine step_store 6 rfl rfl rfl rfl rfl rfl rfl rfl rfl ?_) | (refine step_store 7 rfl rfl rfl rfl rfl rfl rfl rfl rfl ?_)))
    rw [hn0]
    have h3 : m % 5 = 0 ∨ m % 5 = 1 ∨ m % 5 = 2 ∨ m % 5 = 3 ∨ m % 5 = 4 := by omega
    rcases h3 with h | h | h | h | h <;> rw [h]
    · repeat (first
          | refine exec_seq ?_
          | refine exec_region ?_
          | refine exec_block ?_
          | refine exec_skip ?_
          | refine exec_exit ?_
          | refine exec_ret ?_
          | refine exec_true rfl ?_
          | refine exec_false rfl ?_
          | refine ops_nil ?_
          | (apply ops_pl rfl rfl rfl ?_ rfl ?_; rotate_left; focus first | exact (.bld rfl rfl rfl rfl) | exact (.cat rfl rfl rfl (by first | (simp; done) | (simp; omega))) | exact (.neSelf rfl rfl rfl rfl) | exact (.eqSelf rfl rfl rfl rfl) | exact (.wr64 rfl rfl (by omega) (by omega)) | exact (.wr8 rfl rfl (by omega) (by omega)) | exact (.num rfl rfl (and127_u8N (by omega))) | exact (.num rfl rfl (or128_u8N (by omega))) | exact (.orU8 rfl rfl rfl (by omega) (by omega)) | exact (.num rfl rfl (and127_i64N (by omega))) | exact (.num rfl rfl (and1_i64N (by omega))) | exact (.p rfl rfl) | exact (.max2 rfl rfl rfl) | exact (.min2 rfl rfl rfl) | exact (.numL rfl (fun _ => rfl) (byte_wrap _)) | exact (.cv64 rfl (fun _ => rfl) (by omega) (by omega)) | exact (.cv8 rfl (fun _ => rfl) (by omega) (by omega)) | exact (.l rfl (fun _ _ => rfl)) | exact (.l rfl (look_own 0 rfl rfl rfl rfl)) | exact (.l rfl (look_own 1 rfl rfl rfl rfl)) | exact (.l rfl (look_own 2 rfl rfl rfl rfl)) | exact (.l rfl (look_own 3 rfl rfl rfl rfl)) | exact (.l rfl (look_own 4 rfl rfl rfl rfl)) | exact (.l rfl (look_own 5 rfl rfl rfl rfl)) | exact (.l rfl (look_own 6 rfl rfl rfl rfl)) | exact (.l rfl (look_own 7 rfl rfl rfl rfl)) | exact (.l rfl (look_agg 0 rfl rfl rfl rfl)) | exact (.l rfl (look_agg 1 rfl rfl rfl rfl)) | exact (.l rfl (look_agg 2 rfl rfl rfl rfl)) | exact (.l rfl (look_agg 3 rfl rfl rfl rfl)) | exact (.l rfl (look_agg 4 rfl rfl rfl rfl)) | exact (.l rfl (look_agg 5 rfl rfl rfl rfl)) | exact (.l rfl (look_agg 6 rfl rfl rfl rfl)) | exact (.l rfl (look_agg 7 rfl rfl rfl rfl)) | exact (.l rfl (look_str 0 rfl rfl rfl rfl rfl rfl rfl)) | exact (.l rfl (look_str 1 rfl rfl rfl rfl rfl rfl rfl)) | exact (.l rfl (look_str 2 rfl rfl rfl rfl rfl rfl rfl)) | exact (.l rfl (look_str 3 rfl rfl rfl rfl rfl rfl rfl)))
          | refine ops_skip rfl rfl rfl ?_
          | (refine ops_step rfl rfl rfl ?_; first | (refine step_box rfl rfl rfl (fun _ => ?_)) | (refine step_alloc rfl rfl rfl rfl (fun _ => ?_)) | (refine step_buildSlice rfl rfl rfl rfl rfl (fun _ => ?_)) | (refine step_map rfl (fun _ => ?_)) | (refine step_store 0 rfl rfl rfl rfl rfl rfl rfl rfl rfl ?_) | (refine step_store 1 rfl rfl rfl rfl rfl rfl rfl rfl rfl ?_) | (refine step_store 2 rfl rfl rfl rfl rfl rfl rfl rfl rfl ?_) | (refine step_store 3 rfl rfl rfl rfl rfl rfl rfl rfl rfl ?_) | (refine step_store 4 rfl rfl rfl rfl rfl rfl rfl rfl rfl ?_) | (refine step_store 5 rfl rfl rfl rfl rfl rfl rfl rfl rfl ?_) | (refine step_store 6 rfl rfl rfl rfl rfl rfl rfl rfl rfl ?_) | (refine step_store 7 rfl rfl rfl rfl rfl rfl rfl rfl rfl ?_)))
      refine ⟨trivial, [_], ⟨look_agg 1 rfl rfl rfl rfl, trivial⟩, rfl⟩
    · repeat (first
          | refine exec_seq ?_
          | refine exec_region ?_
          | refine exec_block ?_
          | refine exec_skip ?_
          | refine exec_exit ?_
          | refine exec_ret ?_
          | refine exec_true rfl ?_
          | refine exec_false rfl ?_
          | refine ops_nil ?_
          | (apply ops_pl rfl rfl rfl ?_ rfl ?_; rotate_left; focus first | exact (.bld rfl rfl rfl rfl) | exact (.cat rfl rfl rfl (by first | (simp; done) | (simp; omega))) | exact (.neSelf rfl rfl rfl rfl) | exact (.eqSelf rfl rfl rfl rfl) | exact (.wr64 rfl rfl (by omega) (by omega)) | exact (.wr8 rfl rfl (by omega) (by omega)) | exact (.num rfl rfl (and127_u8N (by omega))) | exact (.num rfl rfl (or128_u8N (by omega))) | exact (.orU8 rfl rfl rfl (by omega) (by omega)) | exact (.num rfl rfl (and127_i64N (by omega))) | exact (.num rfl rfl (and1_i64N (by omega))) | exact (.p rfl rfl) | exact (.max2 rfl rfl rfl) | exact (.min2 rfl rfl rfl) | exact (.numL rfl (fun _ => rfl) (byte_wrap _)) | exact (.cv64 rfl (fun _ => rfl) (by omega) (by omega)) | exact (.cv8 rfl (fun _ => rfl) (by omega) (by omega)) | exact (.l rfl (fun _ _ => rfl)) | exact (.l rfl (look_own 0 rfl rfl rfl rfl)) | exact (.l rfl (look_own 1 rfl rfl rfl rfl)) | exact (.l rfl (look_own 2 rfl rfl rfl rfl)) | exact (.l rfl (look_own 3 rfl rfl rfl rfl)) | exact (.l rfl (look_own 4 rfl rfl rfl rfl)) | exact (.l rfl (look_own 5 rfl rfl rfl rfl)) | exact (.l rfl (look_own 6 rfl rfl rfl rfl)) | exact (.l rfl (look_own 7 rfl rfl rfl rfl)) | exact (.l rfl (look_agg 0 rfl rfl rfl rfl)) | exact (.l rfl (look_agg 1 rfl rfl rfl rfl)) | exact (.l rfl (look_agg 2 rfl rfl rfl rfl)) | exact (.l rfl (look_agg 3 rfl rfl rfl rfl)) | exact (.l rfl (look_agg 4 rfl rfl rfl rfl)) | exact (.l rfl (look_agg 5 rfl rfl rfl rfl)) | exact (.l rfl (look_agg 6 rfl rfl rfl rfl)) | exact (.l rfl (look_agg 7 rfl rfl rfl rfl)) | exact (.l rfl (look_str 0 rfl rfl rfl rfl rfl rfl rfl)) | exact (.l rfl (look_str 1 rfl rfl rfl rfl rfl rfl rfl)) | exact (.l rfl (look_str 2 rfl rfl rfl rfl rfl rfl rfl)) | exact (.l rfl (look_str 3 rfl rfl rfl rfl rfl rfl rfl)))
          | refine ops_skip rfl rfl rfl ?_
          | (refine ops_step rfl rfl rfl ?_; first | (refine step_box rfl rfl rfl (fun _ => ?_)) | (refine step_alloc rfl rfl rfl rfl (fun _ => ?_)) | (refine step_buildSlice rfl rfl rfl rfl rfl (fun _ => ?_)) | (refine step_map rfl (fun _ => ?_)) | (refine step_store 0 rfl rfl rfl rfl rfl rfl rfl rfl rfl ?_) | (refine step_store 1 rfl rfl rfl rfl rfl rfl rfl rfl rfl ?_) | (refine step_store 2 rfl rfl rfl rfl rfl rfl rfl rfl rfl ?_) | (refine step_store 3 rfl rfl rfl rfl rfl rfl rfl rfl rfl ?_) | (refine step_store 4 rfl rfl rfl rfl rfl rfl rfl rfl rfl ?_) | (refine step_store 5 rfl rfl rfl rfl rfl rfl rfl rfl rfl ?_) | (refine step_store 6 rfl rfl rfl rfl rfl rfl rfl rfl rfl ?_) | (refine step_store 7 rfl rfl rfl rfl rfl rfl rfl rfl rfl ?_)))
      refine ⟨trivial, [_], ⟨look_agg 1 rfl rfl rfl rfl, trivial⟩, rfl⟩
    · repeat (first
          | refine exec_seq ?_
          | refine exec_region ?_
          | refine exec_block ?_
          | refine exec_skip ?_
          | refine exec_exit ?_
          | refine exec_ret ?_
          | refine exec_true rfl ?_
          | refine exec_false rfl ?_
          | refine ops_nil ?_
          | (apply ops_pl rfl rfl rfl ?_ rfl ?_; rotate_left; focus first | exact (.bld rfl rfl rfl rfl) | exact (.cat rfl rfl rfl (by first | (simp; done) | (simp; omega))) | exact (.neSelf rfl rfl rfl rfl) | exact (.eqSelf rfl rfl rfl rfl) | exact (.wr64 rfl rfl (by omega) (by omega)) | exact (.wr8 rfl rfl (by omega) (by omega)) | exact (.num rfl rfl (and127_u8N (by omega))) | exact (.num rfl rfl (or128_u8N (by omega))) | exact (.orU8 rfl rfl rfl (by omega) (by omega)) | exact (.num rfl rfl (and127_i64N (by omega))) | exact (.num rfl rfl (and1_i64N (by omega))) | exact (.p rfl rfl) | exact (.max2 rfl rfl rfl) | exact (.min2 rfl rfl rfl) | exact (.numL rfl (fun _ => rfl) (byte_wrap _)) | exact (.cv64 rfl (fun _ => rfl) (by omega) (by omega)) | exact (.cv8 rfl (fun _ => rfl) (by omega) (by omega)) | exact (.l rfl (fun _ _ => rfl)) | exact (.l rfl (look_own 0 rfl rfl rfl rfl)) | exact (.l rfl (look_own 1 rfl rfl rfl rfl)) | exact (.l rfl (look_own 2 rfl rfl rfl rfl)) | exact (.l rfl (look_own 3 rfl rfl rfl rfl)) | exact (.l rfl (look_own 4 rfl rfl rfl rfl)) | exact (.l rfl (look_own 5 rfl rfl rfl rfl)) | exact (.l rfl (look_own 6 rfl rfl rfl rfl)) | exact (.l rfl (look_own 7 rfl rfl rfl rfl)) | exact (.l rfl (look_agg 0 rfl rfl rfl rfl)) | exact (.l rfl (look_agg 1 rfl rfl rfl rfl)) | exact (.l rfl (look_agg 2 rfl rfl rfl rfl)) | exact (.l rfl (look_agg 3 rfl rfl rfl rfl)) | exact (.l rfl (look_agg 4 rfl rfl rfl rfl)) | exact (.l rfl (look_agg 5 rfl rfl rfl rfl)) | exact (.l rfl (look_agg 6 rfl rfl rfl rfl)) | exact (.l rfl (look_agg 7 rfl rfl rfl rfl)) | exact (.l rfl (look_str 0 rfl rfl rfl rfl rfl rfl rfl)) | exact (.l rfl (look_str 1 rfl rfl rfl rfl rfl rfl rfl)) | exact (.l rfl (look_str 2 rfl rfl rfl rfl rfl rfl rfl)) | exact (.l rfl (look_str 3 rfl rfl rfl rfl rfl rfl rfl)))
          | refine ops_skip rfl rfl rfl ?_
          | (refine ops_step rfl rfl rfl ?_; first | (refine step_box rfl rfl rfl (fun _ => ?_)) | (refine step_alloc rfl rfl rfl rfl (fun _ => ?_)) | (refine step_buildSlice rfl rfl rfl rfl rfl (fun _ => ?_)) | (refine step_map rfl (fun _ => ?_)) | (refine step_store 0 rfl rfl rfl rfl rfl rfl rfl rfl rfl ?_) | (refine step_store 1 rfl rfl rfl rfl rfl rfl rfl rfl rfl ?_) | (refine step_store 2 rfl rfl rfl rfl rfl rfl rfl rfl rfl ?_) | (refine step_store 3 rfl rfl rfl rfl rfl rfl rfl rfl rfl ?_) | (refine step_store 4 rfl rfl rfl rfl rfl rfl rfl rfl rfl ?_) | (refine step_store 5 rfl rfl rfl rfl rfl rfl rfl rfl rfl ?_) | (refine step_store 6 rfl rfl rfl rfl rfl rfl rfl rfl rfl ?_) | (refine step_store 7 rfl rfl rfl rfl rfl rfl rfl rfl rfl ?_)))
      refine ⟨trivial, [_], ⟨look_agg 1 rfl rfl rfl rfl, trivial⟩, rfl⟩
    · repeat (first
          | refine exec_seq ?_
          | refine exec_region ?_
          | refine exec_block ?_
          | refine exec_skip ?_
          | refine exec_exit ?_
          | refine exec_ret ?_
          | refine exec_true rfl ?_
          | refine exec_false rfl ?_
          | refine ops_nil ?_
          | (apply ops_pl rfl rfl rfl ?_ rfl ?_; rotate_left; focus first | exact (.bld rfl rfl rfl rfl) | exact (.cat rfl rfl rfl (by first | (simp; done) | (simp; omega))) | exact (.neSelf rfl rfl rfl rfl) | exact (.eqSelf rfl rfl rfl rfl) | exact (.wr64 rfl rfl (by omega) (by omega)) | exact (.wr8 rfl rfl (by omega) (by omega)) | exact (.num rfl rfl (and127_u8N (by omega))) | exact (.num rfl rfl (or128_u8N (by omega))) | exact (.orU8 rfl rfl rfl (by omega) (by omega)) | exact (.num rfl rfl (and127_i64N (by omega))) | exact (.num rfl rfl (and1_i64N (by omega))) | exact (.p rfl rfl) | exact (.max2 rfl rfl rfl) | exact (.min2 rfl rfl rfl) | exact (.numL rfl (fun _ => rfl) (byte_wrap _)) | exact (.cv64 rfl (fun _ => rfl) (by omega) (by omega)) | exact (.cv8 rfl (fun _ => rfl) (by omega) (by omega)) | exact (.l rfl (fun _ _ => rfl)) | exact (.l rfl (look_own 0 rfl rfl rfl rfl)) | exact (.l rfl (look_own 1 rfl rfl rfl rfl)) | exact (.l rfl (look_own 2 rfl rfl rfl rfl)) | exact (.l rfl (look_own 3 rfl rfl rfl rfl)) | exact (.l rfl (look_own 4 rfl rfl rfl rfl)) | exact (.l rfl (look_own 5 rfl rfl rfl rfl)) | exact (.l rfl (look_own 6 rfl rfl rfl rfl)) | exact (.l rfl (look_own 7 rfl rfl rfl rfl)) | exact (.l rfl (look_agg 0 rfl rfl rfl rfl)) | exact (.l rfl (look_agg 1 rfl rfl rfl rfl)) | exact (.l rfl (look_agg 2 rfl rfl rfl rfl)) | exact (.l rfl (look_agg 3 rfl rfl rfl rfl)) | exact (.l rfl (look_agg 4 rfl rfl rfl rfl)) | exact (.l rfl (look_agg 5 rfl rfl rfl rfl)) | exact (.l rfl (look_agg 6 rfl rfl rfl rfl)) | exact (.l rfl (look_agg 7 rfl rfl rfl rfl)) | exact (.l rfl (look_str 0 rfl rfl rfl rfl rfl rfl rfl)) | exact (.l rfl (look_str 1 rfl rfl rfl rfl rfl rfl rfl)) | exact (.l rfl (look_str 2 rfl rfl rfl rfl rfl rfl rfl)) | exact (.l rfl (look_str 3 rfl rfl rfl rfl rfl rfl rfl)))
          | refine ops_skip rfl rfl rfl ?_
          | (refine ops_step rfl rfl rfl ?_; first | (refine step_box rfl rfl rfl (fun _ => ?_)) | (refine step_alloc rfl rfl rfl rfl (fun _ => ?_)) | (refine step_buildSlice rfl rfl rfl rfl rfl (fun _ => ?_)) | (refine step_map rfl (fun _ => ?_)) | (refine step_store 0 rfl rfl rfl rfl rfl rfl rfl rfl rfl ?_) | (refine step_store 1 rfl rfl rfl rfl rfl rfl rfl rfl rfl ?_) | (refine step_store 2 rfl rfl rfl rfl rfl rfl rfl rfl rfl ?_) | (refine step_store 3 rfl rfl rfl rfl rfl rfl rfl rfl rfl ?_) | (refine step_store 4 rfl rfl rfl rfl rfl rfl rfl rfl rfl ?_) | (refine step_store 5 rfl rfl rfl rfl rfl rfl rfl rfl rfl ?_) | (refine step_store 6 rfl rfl rfl rfl rfl rfl rfl rfl rfl ?_) | (refine step_store 7 rfl rfl rfl rfl rfl rfl rfl rfl rfl ?_)))
      refine ⟨trivial, [_], ⟨look_agg 1 rfl rfl rfl rfl, trivial⟩, rfl⟩
    · repeat (first
          | refine exec_seq ?_
          | refine exec_region ?_
          | refine exec_block ?_
          | refine exec_skip ?_
          | refine exec_exit ?_
          | refine exec_ret ?_
          | refine exec_true rfl ?_
          | refine exec_false rfl ?_
          | refine ops_nil ?_
          | (apply ops_pl rfl rfl rfl ?_ rfl ?_; rotate_left; focus first | exact (.bld rfl rfl rfl rfl) | exact (.cat rfl rfl rfl (by first | (simp; done) | (simp; omega))) | exact (.neSelf rfl rfl rfl rfl) | exact (.eqSelf rfl rfl rfl rfl) | exact (.wr64 rfl rfl (by omega) (by omega)) | exact (.wr8 rfl rfl (by omega) (by omega)) | exact (.num rfl rfl (and127_u8N (by omega))) | exact (.num rfl rfl (or128_u8N (by omega))) | exact (.orU8 rfl rfl rfl (by omega) (by omega)) | exact (.num rfl rfl (and127_i64N (by omega))) | exact (.num rfl rfl (and1_i64N (by omega))) | exact (.p rfl rfl) | exact (.max2 rfl rfl rfl) | exact (.min2 rfl rfl rfl) | exact (.numL rfl (fun _ => rfl) (byte_wrap _)) | exact (.cv64 rfl (fun _ => rfl) (by omega) (by omega)) | exact (.cv8 rfl (fun _ => rfl) (by omega) (by omega)) | exact (.l rfl (fun _ _ => rfl)) | exact (.l rfl (look_own 0 rfl rfl rfl rfl)) | exact (.l rfl (look_own 1 rfl rfl rfl rfl)) | exact (.l rfl (look_own 2 rfl rfl rfl rfl)) | exact (.l rfl (look_own 3 rfl rfl rfl rfl)) | exact (.l rfl (look_own 4 rfl rfl rfl rfl)) | exact (.l rfl (look_own 5 rfl rfl rfl rfl)) | exact (.l rfl (look_own 6 rfl rfl rfl rfl)) | exact (.l rfl (look_own 7 rfl rfl rfl rfl)) | exact (.l rfl (look_agg 0 rfl rfl rfl rfl)) | exact (.l rfl (look_agg 1 rfl rfl rfl rfl)) | exact (.l rfl (look_agg 2 rfl rfl rfl rfl)) | exact (.l rfl (look_agg 3 rfl rfl rfl rfl)) | exact (.l rfl (look_agg 4 rfl rfl rfl rfl)) | exact (.l rfl (look_agg 5 rfl rfl rfl rfl)) | exact (.l rfl (look_agg 6 rfl rfl rfl rfl)) | exact (.l rfl (look_agg 7 rfl rfl rfl rfl)) | exact (.l rfl (look_str 0 rfl rfl rfl rfl rfl rfl rfl)) | exact (.l rfl (look_str 1 rfl rfl rfl rfl rfl rfl rfl)) | exact (.l rfl (look_str 2 rfl rfl rfl rfl rfl rfl rfl)) | exact (.l rfl (look_str 3 rfl rfl rfl rfl rfl rfl rfl)))
          | refine ops_skip rfl rfl rfl ?_
          | (refine ops_step rfl rfl rfl ?_; first | (refine step_box rfl rfl rfl (fun _ => ?_)) | (refine step_alloc rfl rfl rfl rfl (fun _ => ?_)) | (refine step_buildSlice rfl rfl rfl rfl rfl (fun _ => ?_)) | (refine step_map rfl (fun _ => ?_)) | (refine step_store 0 rfl rfl rfl rfl rfl rfl rfl rfl rfl ?_) | (refine step_store 1 rfl rfl rfl rfl rfl rfl rfl rfl rfl ?_) | (refine step_store 2 rfl rfl rfl rfl rfl rfl rfl rfl rfl ?_) | (refine step_store 3 rfl rfl rfl rfl rfl rfl rfl rfl rfl ?_) | (refine step_store 4 rfl rfl rfl rfl rfl rfl rfl rfl rfl ?_) | (refine step_store 5 rfl rfl rfl rfl rfl rfl rfl rfl rfl ?_) | (refine step_store 6 rfl rfl rfl rfl rfl rfl rfl rfl rfl ?_) | (refine step_store 7 rfl rfl rfl rfl rfl rfl rfl rfl rfl ?_)))
      refine ⟨trivial, [_], ⟨look_agg 1 rfl rfl rfl rfl, trivial⟩, rfl⟩
end Go.Proofs.Ytceoheliineobaa

