/-
  Lemmas for the laws of this seat.
-/
import Derived.Test.YtlhkndjloeoodaaGreatK11
set_option linter.unusedVariables false
set_option linter.unusedSimpArgs false
namespace Go.Proofs.YtlhkndjloeoodaaGreat
abbrev pushS (s : List UInt8) : Ins := ⟨2, 0, 0, s, [], [], []⟩
abbrev printS : Ins := ⟨41, 0, 0, [], [], [], []⟩
def prS (s : List UInt8) : Nat → List Ins
  | 0 => []
  | i + 1 => prS s i ++ [pushS s, printS]
theorem prS_len (s : List UInt8) : ∀ i, (prS s i).length = 2 * i
  | 0 => rfl
  | i + 1 => by rw [prS, List.length_append, prS_len s i]; simp only [List.length_cons, List.length_nil]; omega
theorem prS_mem {s : List UInt8} {x : Ins} : ∀ {i : Nat}, x ∈ prS s i → x = pushS s ∨ x = printS
  | 0, h => by cases h
  | i + 1, h => by
    rw [prS, List.mem_append] at h
    rcases h with h | h
    · exact prS_mem h
    · simpa using h
abbrev poolM (s : List UInt8) (k : Nat) : PM := ⟨[109], [], 5, [], true, false, 0, prS s k, []⟩
abbrev poolC (s : List UInt8) (k : Nat) : PC := ⟨[67], [79, 98, 106, 101, 99, 116], [], 1, [], [poolM s k]⟩
theorem wIns_push (w : WS) (s : List UInt8) : wIns w (pushS s) = wText1 (wNum [2] w) s := rfl
theorem wIns_print (w : WS) : wIns w printS = wNum [41] w := rfl
theorem one_num (n : Nat) (h : n < 128) (w : WS) : (wNum [(n : Int)] w).1.length = w.1.length + 1 := by
  have : enc n = [UInt8.ofNat n] := enc_lt h
  simp [wNum, encL, this]
theorem putT_twice (ts : List (List UInt8)) (s : List UInt8) : putT (putT ts s) s = putT ts s := by
  rw [putT, if_pos]
  unfold putT; split
  · assumption
  · simp
theorem prS_fold (s : List UInt8) (w : WS) : ∀ i : Nat, ((prS s i).foldl wIns w).1.length = w.1.length + 4 * i ∧ ((prS s i).foldl wIns w).2 = if i = 0 then w.2 else putT w.2 s
  | 0 => ⟨by simp [prS], by simp [prS]⟩
  | i + 1 => by
    obtain ⟨h1, h2⟩ := prS_fold s w i
    rw [prS, List.foldl_append]
    generalize (prS s i).foldl wIns w = w1 at h1 h2
    simp only [List.foldl_cons, List.foldl_nil, wIns_push, wIns_print]
    refine ⟨?_, ?_⟩
    · have e1 := one_num 41 (by omega) (wText1 (wNum [2] w1) s)
      have e2 := one_num 2 (by omega) w1
      have e3 : (wText1 (wNum [2] w1) s).1.length = (wNum [2] w1).1.length + 2 := by simp [wText1, twoB]
      have e1' : (wNum [41] (wText1 (wNum [2] w1) s)).1.length = (wText1 (wNum [2] w1) s).1.length + 1 := e1
      have e2' : (wNum [2] w1).1.length = w1.1.length + 1 := e2
      omega
    · show putT w1.2 s = _
      rw [h2, if_neg (Nat.succ_ne_zero i)]
      split
      · rfl
      · exact putT_twice _ _
def hdW : WS := wText [[109], [40, 41, 86]] (wNum [1] (wNum [1, 0] (wNum [0] (wText [[67], [79, 98, 106, 101, 99, 116]] (wNum [1] ([], []))))))
theorem wArc_pool (s : List UInt8) (k : Nat) : wArc [poolC s k] = wNum [0] ((prS s k).foldl wIns (wNum [1, 0, ((2 * k : Nat) : Int)] hdW)) := by
  have : ((prS s k).length : Int) = ((2 * k : Nat) : Int) := by rw [prS_len]
  rw [← this]
  rfl
theorem rt_pool {s : List UInt8} {k : Nat} (hs : s.length ≤ 60) (hk : k ≤ 100) : RtC (poolC s k) := by
  refine ⟨(by decide : nameL [67] = true), (by decide : nameL [79, 98, 106, 101, 99, 116] = true), by simp, (fun _ h => by cases h), by simp, by simp, (fun _ h => by cases h), by simp, fun m hm => ?_⟩
  cases List.mem_singleton.1 hm
  refine ⟨(by decide : nameL [109] = true), by simp, (fun _ h => by cases h), (by decide : rightL 5 [] = true), by simp, by simp only [prS_len]; omega, fun i hi => ?_, by simp, (fun _ h => by cases h)⟩
  rcases prS_mem hi with rfl | rfl
  · have : s.length ≤ 1000 := by omega
    simp [rightI, usedI, usesZ, this]
  · decide
theorem wf_pool {s : List UInt8} {k : Nat} (hs : s.length ≤ 60) (hk : k ≤ 100) : WfC (poolC s k) := by
  refine ⟨by simp, by simp, (fun _ h => by cases h), (fun _ h => by cases h), fun m hm => ?_, by simp, by simp, by simp⟩
  cases List.mem_singleton.1 hm
  refine ⟨by simp, (fun _ h => by cases h), by simp, fun i hi => ?_, (fun _ h => by cases h), by simp, by simp only [prS_len]; omega, by simp⟩
  rcases prS_mem hi with rfl | rfl
  · exact ⟨by simp, by simp only; omega, by simp, by simp, by simp⟩
  · exact ⟨by simp, by simp, by simp, by simp, by simp⟩
theorem cnt_pool (s : List UInt8) (k : Nat) : cntA [poolC s k] = 2 + 2 * k := by simp [cntA, cntC, cntM, prS_len]; omega
theorem right_pool {s : List UInt8} {k : Nat} (hs : s.length ≤ 60) (hk : k ≤ 100) : rightA [poolC s k] = true :=
  rightA_of (fun c h => by cases List.mem_singleton.1 h; exact rt_pool hs hk) (fun c h => by cases List.mem_singleton.1 h; exact wf_pool hs hk) (by simp) (by rw [cnt_pool]; omega)
theorem enc_two {n : Nat} (h : n ≤ 200) : (enc n).length = if n < 128 then 1 else 2 := by
  split
  · rename_i h; rw [enc_lt h]; rfl
  · rename_i h; rw [enc_ge h, List.length_cons, enc_lt (by omega)]; rfl
theorem put_pool {s : List UInt8} {k : Nat} (hs : s.length ≤ 60) (hk : k ≤ 100) : (putA [poolC s k]).length = 4 + (poolB (if k = 0 then hdW.2 else putT hdW.2 s)).length + (hdW.1.length + 2 + (enc (2 * k)).length + 4 * k + 1) := by
  have h1 := prS_fold s (wNum [1, 0, ((2 * k : Nat) : Int)] hdW) k
  have h6 : magicB.length = 4 := rfl
  have h7 : (wNum [1, 0, ((2 * k : Nat) : Int)] hdW).1.length = hdW.1.length + 2 + (enc (2 * k)).length := by
    have e : encL [1, 0, ((2 * k : Nat) : Int)] = enc 1 ++ (enc 0 ++ (enc (2 * k) ++ [])) := rfl
    have e1 : enc 1 = [1] := enc_lt (by omega)
    have e0 : enc 0 = [0] := enc_lt (by omega)
    rw [wNum, e, e1, e0]
    simp only [List.length_append, List.length_cons, List.length_nil]; omega
  have h8 : (wNum [1, 0, ((2 * k : Nat) : Int)] hdW).2 = hdW.2 := rfl
  rw [putA, if_pos (right_pool hs hk), wArc_pool]
  have h9 := one_num 0 (by omega) ((prS s k).foldl wIns (wNum [1, 0, ((2 * k : Nat) : Int)] hdW))
  have h9' : (wNum [0] ((prS s k).foldl wIns (wNum [1, 0, ((2 * k : Nat) : Int)] hdW))).1.length = ((prS s k).foldl wIns (wNum [1, 0, ((2 * k : Nat) : Int)] hdW)).1.length + 1 := h9
  have h10 : (wNum [0] ((prS s k).foldl wIns (wNum [1, 0, ((2 * k : Nat) : Int)] hdW))).2 = ((prS s k).foldl wIns (wNum [1, 0, ((2 * k : Nat) : Int)] hdW)).2 := rfl
  rw [List.length_append, List.length_append, h9', h10, h1.2, h8, h1.1, h7, h6]
theorem poolB_put (s : List UInt8) : (poolB hdW.2).length ≤ (poolB (putT hdW.2 s)).length := by
  have e : hdW.2 = [[67], [79, 98, 106, 101, 99, 116], [109], [40, 41, 86]] := by decide
  unfold putT
  split
  · exact Nat.le_refl _
  · rw [e]
    have e4 : enc 4 = [4] := enc_lt (by omega)
    have e5 : enc 5 = [5] := enc_lt (by omega)
    simp only [poolB, List.length_append, List.length_cons, List.length_nil, Nat.zero_add, Nat.reduceAdd, e4, e5, List.cons_append, List.nil_append, textsB]
    omega
theorem pools_one {s : List UInt8} (hs : s.length ≤ 60) : (putA [poolC s 0]).length < (putA [poolC s 1]).length := by
  rw [put_pool hs (by omega), put_pool hs (by omega)]
  have h := poolB_put s
  have e2 := enc_two (n := 2 * 1) (by omega)
  have e0 := enc_two (n := 2 * 0) (by omega)
  simp only [if_true, if_neg (show ¬ (1 = 0) by omega)]
  rw [e2, e0]
  simp only [Nat.mul_one, Nat.mul_zero, if_pos (show 2 < 128 by omega), if_pos (show 0 < 128 by omega)]
  omega
theorem pools_more {s : List UInt8} {k : Nat} (hs : s.length ≤ 60) (hk : k ≤ 100) (h2 : 2 ≤ k) : (putA [poolC s k]).length = (putA [poolC s (k - 1)]).length + 4 ∨ (putA [poolC s k]).length = (putA [poolC s (k - 1)]).length + 5 ∧ 128 ≤ 2 * k ∧ 2 * k - 2 < 128 := by
  rw [put_pool hs hk, put_pool hs (show k - 1 ≤ 100 by omega), if_neg (show ¬ k = 0 by omega), if_neg (show ¬ k - 1 = 0 by omega), enc_two (n := 2 * k) (by omega), enc_two (n := 2 * (k - 1)) (by omega)]
  by_cases h : 2 * k < 128
  · rw [if_pos h, if_pos (by omega)]; omega
  · rw [if_neg h]
    by_cases h' : 2 * (k - 1) < 128
    · rw [if_pos h']; omega
    · rw [if_neg h']; omega
end Go.Proofs.YtlhkndjloeoodaaGreat
