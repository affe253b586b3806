/-
  Lemmas for the laws of this seat.
-/
import Derived.Test.YtlhkndjloeoodaaGreatK11
import Derived.Test.YtlhkndjloeoodaaGreatAPure
set_option linter.unusedVariables false
set_option linter.unusedSimpArgs false
namespace Go.Proofs.YtlhkndjloeoodaaGreat
open Go.Ev Go.Ev.Wk
variable {O : Old}
abbrev poolL (a : Option Addr) (n c : Nat) : List Value := [str [109], .slice none 0 0, .int .i64 5, str [], .bool true, .bool false, .int .i64 0, .slice a n c, .slice none 0 0]
abbrev poolMV (s : List UInt8) (k : Nat) (a : Option Addr) (c : Nat) : MV := ⟨poolM s k, none, 0, a, c, none, 0⟩
abbrev poolCV (s : List UInt8) (k : Nat) (a : Option Addr) (c : Nat) (ma : Option Addr) : CV := ⟨[67], [79, 98, 106, 101, 99, 116], [], 1, [], [poolMV s k a c], none, 0, none, 0, ma, 1⟩
theorem pool_g {s : List UInt8} {k : Nat} {a : Option Addr} {c : Nat} {ma aa : Option Addr} {Z : Atoms} (hs : s.length ≤ 60) (hk : k ≤ 100)
    (h1 : Rd Z fun H => Sl O H (.slice a (prS s k).length c) 7 (prS s k).length ((prS s k).flatMap insL)) (h2 : Rd Z fun H => Sl O H (.slice ma 1 1) 9 1 (poolMV s k a c).cells) (h3 : Rd Z fun H => Sl O H (.slice aa 1 1) 6 1 (poolCV s k a c ma).cells) : ArcG O Z aa 1 [poolCV s k a c ma] := by
  refine ⟨fun X H0 H hst => ⟨h3 X H0 H hst, fun x hx => ?_⟩, fun x hx => ?_, by simp, ?_⟩
  · cases List.mem_singleton.1 hx
    refine ⟨Sl.nil, Sl.nil, h2 X H0 H hst, fun m hm => ?_⟩
    cases List.mem_singleton.1 hm
    exact ⟨Sl.nil, h1 X H0 H hst, Sl.nil⟩
  · cases List.mem_singleton.1 hx
    exact wf_pool hs hk
  · have := cnt_pool s k
    show cntA [poolC s k] ≤ _
    omega
set_option maxHeartbeats 64000000 in
set_option maxRecDepth 100000 in
theorem arcPools_walk {n : Int} {s : List UInt8} (hn : 0 ≤ n ∧ n ≤ 255) : CallC TT O 8 [.int .u8 n, str s] .empty fun v H' => v = .bool true ∧ Ext .empty H' := by
  refine call_pure rfl rfl rfl rfl rfl ?_
  repeat (first | refine zrb ?_ | (refine zn ?_; intro _))
  refine ops_step rfl rfl rfl (step_call_pure rfl rfl rfl (fun H hs => known_walk) ?_)
  repeat (first | refine zrb ?_ | (refine zn ?_; intro _))
  refine exec_cond rfl (fun h => ?_) (fun h => ?_)
  · repeat (first | refine zrb ?_ | (refine zn ?_; intro _))
    exact ⟨trivial, _, rfl, rfl⟩
  have hs : s.length ≤ 60 := by simp at h; omega
  clear h
  obtain ⟨k, hk⟩ : ∃ k : Nat, k = n.toNat % 100 + 1 := ⟨_, rfl⟩
  have hk1 : 1 ≤ k ∧ k ≤ 100 := by omega
  have hm : n.tmod 100 = ((n.toNat % 100 : Nat) : Int) := tmodN (m := 100) (by omega) (by omega)
  repeat (first | refine zrb ?_ | (refine zn ?_; intro _))
  rename_i mb
  rw [hm, show ((n.toNat % 100 : Nat) : Int) + 1 = (k : Int) from by omega]
  refine ExecS.ghost ?_
  refine ExecS.weak (E' := [(1, str s), (5, ptr mb), (6, .int .i64 (k : Int)), (7, .int .i64 ((0 : Nat) : Int))]) ⟨rfl, rfl, rfl, rfl, trivial⟩ (.refl _) ?_
  refine exec_loop (fun q E L => ∃ (i : Nat) (a : Option Addr) (c : Nat) (p : Option Nat × Cont), i + q = k ∧ OwnA 7 61 a (prS s i).length c ((prS s i).flatMap insL) p ∧ E = [(1, str s), (5, ptr mb), (6, .int .i64 (k : Int)), (7, .int .i64 (i : Int))] ∧ L = [p, (some mb, .cells 0 (poolL a (prS s i).length c) 0 59)]) ?_ k _ _ ⟨0, none, 0, _, by omega, .nil _, rfl, rfl⟩
  rintro q E L ⟨i, a, c, p, hiq, own, rfl, rfl⟩
  have hl := prS_len s i
  repeat (first | refine zrb ?_ | (refine zn ?_; intro _))
  refine exec_cond rfl (fun hlt => ?_) (fun hge => ?_)
  · have hi : i < k := by simp at hlt; omega
    have e1 : (prS s (i + 1)).length = (prS s i).length + 2 := by rw [prS_len, prS_len]; omega
    repeat (first | refine zrb ?_ | (refine zn ?_; intro _))
    refine ops_step rfl rfl rfl (step_append 1 7 rfl rfl rfl rfl rfl rfl rfl rfl own (fun H hs => src_own (j := 0) hs rfl rfl 2) rfl (by first | rfl | exact allCell_map (fun _ => rfl) _) (by first | rfl | (simp; done) | (simp; omega)) (by omega) (fun a2 c2 p2 own2 => ?_))
    repeat (first | refine zrb ?_ | (refine zn ?_; intro _))
    refine ⟨q - 1, by omega, _, _, ?_, .cons _ (.refl _), i + 1, a2, c2, p2, by omega, ?_, rfl, ?_⟩
    · exact ⟨rfl, rfl, rfl, rfl, trivial⟩
    · rw [e1, prS, List.flatMap_append]; exact own2
    · rw [e1]
  have hi : i = k := by simp at hge; omega
  subst hi
  clear hge hiq
  repeat (first | refine zrb ?_ | (refine zn ?_; intro _))
  rename_i b36 b38 b8
  have r1 := Rd.own (O := O) (Z := [(some b8, .cells 0 [.slice (some ⟨b38, 0, some 0⟩) 1 1] 0 24), (some b38, .cells 0 (poolCV s i a c (some ⟨b36, 0, some 0⟩)).cells 6 52), (some b36, .cells 0 (poolMV s i a c).cells 9 59), p, (some mb, .cells 0 (poolL a (prS s i).length c) 0 59)]) own (by simp)
  have g1 := pool_g (O := O) (aa := some ⟨b38, 0, some 0⟩) (ma := some ⟨b36, 0, some 0⟩) hs hk1.2 r1 (Rd.sl (i := 2) rfl rfl 1) (Rd.sl (i := 1) rfl rfl 1)
  refine ops_step rfl rfl rfl (step_call_fp [] _ rfl rfl rfl (List.Perm.refl _) (fun H hs hst => putG g1 hs) (fun v2 F2 h2 => ?_))
  obtain ⟨pa, pn, pc, rfl, hpn, -⟩ := h2
  refine OpsS.weakL (List.sublist_append_right F2 _) ?_
  clear g1 r1
  repeat (first | refine zrb ?_ | (refine zn ?_; intro _))
  (first | apply ops_pl rfl rfl rfl ?_ rfl ?_ | apply draw_pl rfl rfl rfl rfl ?_ rfl rfl ?_); rotate_left; focus exact (.l rfl (look_cut0 (h := 2 * i - 2) rfl rfl rfl rfl (by omega) rfl (by omega) (fun H hs => (OwnA.slM own hs (by simp))) rfl rfl (by omega)))
  have r2 : Rd [p] fun H => Sl O H (.slice (cutAddr a 7 c 0) (prS s (i - 1)).length (cutCap' a c 0)) 7 (prS s (i - 1)).length ((prS s (i - 1)).flatMap insL) := fun X H0 H hst => by
    have h1 := (OwnA.slM (O := O) own hst (by simp)).cut (l := 0) (h := 2 * i - 2) (by omega) (by omega)
    have e : (prS s (i - 1)).length = 2 * i - 2 - 0 := by rw [prS_len]; omega
    rw [e]
    refine h1.cast ?_ rfl
    have e2 : prS s i = prS s (i - 1) ++ [pushS s, printS] := by obtain ⟨j, rfl⟩ : ∃ j, i = j + 1 := ⟨i - 1, by omega⟩; rfl
    rw [Nat.zero_mul, List.drop_zero, ← e, e2, List.flatMap_append]
    exact List.take_left' (flat_len (f := insL) (z := 7) (fun _ => rfl) _)
  rw [show 2 * i - 2 = (prS s (i - 1)).length from by rw [prS_len]; omega]
  generalize cutAddr a 7 c 0 = a3 at r2 ⊢
  generalize cutCap' a c 0 = c3 at r2 ⊢
  repeat (first | refine zrb ?_ | (refine zn ?_; intro _))
  rename_i b52
  have g2 := pool_g (O := O) (Z := [(some b52, .cells 0 (poolMV s (i - 1) a3 c3).cells 9 59), (some b8, .cells 0 [.slice (some ⟨b38, 0, some 0⟩) 1 1] 0 24), (some b38, .cells 0 (poolCV s (i - 1) a3 c3 (some ⟨b52, 0, some 0⟩)).cells 6 52), (some b36, .cells 0 (poolMV s i a c).cells 9 59), p, (some mb, .cells 0 (poolL a3 (prS s (i - 1)).length c3) 0 59)]) (aa := some ⟨b38, 0, some 0⟩) (ma := some ⟨b52, 0, some 0⟩) hs (show i - 1 ≤ 100 by omega) (r2.mono (.cons _ (.cons _ (.cons _ (.cons _ (.cons_cons _ (.cons _ (.refl _)))))))) (Rd.sl (i := 0) rfl rfl 1) (Rd.sl (i := 2) rfl rfl 1)
  refine ops_step rfl rfl rfl (step_call_fp [] _ rfl rfl rfl (List.Perm.refl _) (fun H hs hst => putG g2 hs) (fun v2 F2 h2 => ?_))
  obtain ⟨qa, qn, qc, rfl, hqn, -⟩ := h2
  refine OpsS.weakL (List.sublist_append_right F2 _) ?_
  clear g2
  have hpn' : pn = (putA [poolC s i]).length := hpn
  have hqn' : qn = (putA [poolC s (i - 1)]).length := hqn
  repeat (first | refine zrb ?_ | (refine zn ?_; intro _))
  refine exec_cond rfl (fun h1 => ?_) (fun h1 => ?_)
  · have hi1 : i = 1 := by simp at h1; omega
    subst hi1
    have hlt := pools_one hs
    simp only [Nat.sub_self] at hqn'
    repeat (first | refine zrb ?_ | (refine zn ?_; intro _))
    refine ⟨trivial, _, rfl, ?_⟩
    rw [show decide ((pn : Int) > (qn : Int)) = true from decide_eq_true (by omega)]
    rfl
  have hi1 : 2 ≤ i := by simp at h1; omega
  have hm := pools_more hs hk1.2 hi1
  rcases hm with hm | ⟨hm, h3, h4⟩
  · repeat (first | refine zrb ?_ | (refine zn ?_; intro _))
    rw [show ((pn : Int) - (qn : Int) == 4) = true from by simp; omega]
    repeat (first | refine zrb ?_ | (refine zn ?_; intro _))
    exact ⟨trivial, _, rfl, rfl⟩
  · repeat (first | refine zrb ?_ | (refine zn ?_; intro _))
    rw [show ((pn : Int) - (qn : Int) == 4) = false from by simp; omega]
    repeat (first | refine zrb ?_ | (refine zn ?_; intro _))
    rw [show ((pn : Int) - (qn : Int) == 5) = true from by simp; omega]
    repeat (first | refine zrb ?_ | (refine zn ?_; intro _))
    rw [show decide (2 * (i : Int) ≥ 128) = true from decide_eq_true (by omega)]
    repeat (first | refine zrb ?_ | (refine zn ?_; intro _))
    refine ⟨trivial, _, rfl, ?_⟩
    rw [show decide (2 * (i : Int) - 2 < 128) = true from decide_eq_true (by omega)]
    rfl
end Go.Proofs.YtlhkndjloeoodaaGreat
