/-
  Walks: the reference: what is known of values, in a tree.
-/
import Derived.Test.YthifbkjkiijkoaaRTree2
namespace Go.Proofs.Ythifbkjkiijkoaa
open Go.Ev Go.Ev.Wk
set_option linter.unusedVariables false
set_option linter.unusedSimpArgs false
variable {O : Old}


set_option maxHeartbeats 8000000 in
set_option maxRecDepth 100000 in
theorem rrefers_ok {H : Heap} {a : Typ} : CallC TT O 22 [typV a] H fun v H' => v = .bool (refersB a) ∧ Ext H H' := by
  refine call_pure rfl rfl rfl rfl rfl ?_
  repeat (first | refine zr ?_ | (refine zn ?_; intro _))
  cases h3 : (a.1 == 3)
  · repeat (first | refine zr ?_ | (refine zn ?_; intro _))
    cases h4 : (a.1 == 4)
    · repeat (first | refine zr ?_ | (refine zn ?_; intro _))
      refine ⟨trivial, _, rfl, ?_⟩
      rw [refersB, ← beqI, ← beqI, ← beqI, h3, h4]
      rfl
    · repeat (first | refine zr ?_ | (refine zn ?_; intro _))
      refine ⟨trivial, _, rfl, ?_⟩
      rw [refersB, ← beqI, ← beqI, ← beqI, h3, h4]
      rfl
  · repeat (first | refine zr ?_ | (refine zn ?_; intro _))
    refine ⟨trivial, _, rfl, ?_⟩
    rw [refersB, ← beqI, ← beqI, ← beqI, h3]
    rfl

set_option maxHeartbeats 16000000 in
set_option maxRecDepth 100000 in
theorem rjoin_ok {H : Heap} {wb : Nat} {aa : Option Addr} {an ac : Nat} {cl : List CV} {m : TM} {a b : Typ} (ht : RefK O H wb aa an ac cl) (hN : an ≤ 1000000) (hm : TMok (gOf cl) m) :
    CallC TT O 18 [ptr wb, typV a, typV b] H fun v H' => v = typV (joinT m a b) ∧ Ext H H' := by
  refine call_pureM rfl rfl rfl rfl rfl ?_
  repeat (first | refine zr ?_ | (refine zn ?_; intro _))
  rename_i ab bb rb nb
  first | refine ops_pl rfl rfl rfl (PL.eqlTyp (a := a) (b := b) rfl rfl rfl) rfl ?_ | refine draw_pl rfl rfl rfl rfl (PL.eqlTyp (a := a) (b := b) rfl rfl rfl) rfl rfl ?_
  cases hab : decide (a = b)
  rotate_left
  · repeat (first | refine zr ?_ | (refine zn ?_; intro _))
    refine ⟨trivial, [_], ⟨look_agg 1 rfl rfl rfl rfl, trivial⟩, ?_⟩
    rw [joinT, if_pos (of_decide_eq_true hab)]
    rfl
  have nab := of_decide_eq_false hab
  repeat (first | refine zr ?_ | (refine zn ?_; intro _))
  (first | apply ops_pl rfl rfl rfl ?_ rfl ?_ | apply draw_pl rfl rfl rfl rfl ?_ rfl rfl ?_); rotate_left; focus exact (PL.eqlTyp (a := a) (b := (6, [])) rfl rfl rfl)
  refine OpsS.mono (Q := fun E L => SubE [(0, ptr wb), (4, ptr ab), (5, ptr bb), (6, ptr rb), (7, ptr nb), (14, .bool (decide (a = (6, [])) && (decide (b.1 = 3) || decide (b.1 = 4))))] E ∧ L = [(some nb, .cells 0 [.int .i64 6, str []] 0 35), (some rb, .cells 0 [.int .i64 0, str []] 0 35), (some bb, .cells 0 [.int .i64 b.1, str b.2] 0 35), (some ab, .cells 0 [.int .i64 a.1, str a.2] 0 35)]) ?_ ?_
  · cases h0 : decide (a = (6, []))
    · repeat (first | refine zo ?_ | (refine zn ?_; intro _))
      exact ops_nil ⟨⟨rfl, rfl, rfl, rfl, rfl, rfl, trivial⟩, rfl⟩
    repeat (first | refine zo ?_ | (refine zn ?_; intro _))
    cases h3 : (b.1 == 3)
    · repeat (first | refine zo ?_ | (refine zn ?_; intro _))
      refine ops_nil ⟨⟨rfl, rfl, rfl, rfl, rfl, ?_, trivial⟩, rfl⟩
      rw [← beqI, ← beqI, h3]
      rfl
    · repeat (first | refine zo ?_ | (refine zn ?_; intro _))
      refine ops_nil ⟨⟨rfl, rfl, rfl, rfl, rfl, ?_, trivial⟩, rfl⟩
      rw [← beqI, ← beqI, h3]
      rfl
  rintro E L ⟨hE, rfl⟩
  refine ExecS.weak hE (List.Sublist.refl _) ?_
  cases q1 : (decide (a = (6, [])) && (decide (b.1 = 3) || decide (b.1 = 4)))
  rotate_left
  · have q1 : a = (6, []) ∧ (b.1 = 3 ∨ b.1 = 4) := by simpa using q1
    repeat (first | refine zr ?_ | (refine zn ?_; intro _))
    refine ⟨trivial, [_], ⟨look_agg 1 rfl rfl rfl rfl, trivial⟩, ?_⟩
    rw [joinT, if_neg nab, if_pos q1]
    rfl
  have q1 : ¬ (a = (6, []) ∧ (b.1 = 3 ∨ b.1 = 4)) := by
    intro h
    rw [decide_eq_true h.1] at q1
    rcases h.2 with h | h <;> rw [decide_eq_true h] at q1 <;> simp at q1
  repeat (first | refine zr ?_ | (refine zn ?_; intro _))
  (first | apply ops_pl rfl rfl rfl ?_ rfl ?_ | apply draw_pl rfl rfl rfl rfl ?_ rfl rfl ?_); rotate_left; focus exact (PL.eqlTyp (a := b) (b := (6, [])) rfl rfl rfl)
  refine OpsS.mono (Q := fun E L => SubE [(0, ptr wb), (4, ptr ab), (5, ptr bb), (6, ptr rb), (7, ptr nb), (29, .bool (decide (b = (6, [])) && (decide (a.1 = 3) || decide (a.1 = 4))))] E ∧ L = [(some nb, .cells 0 [.int .i64 6, str []] 0 35), (some rb, .cells 0 [.int .i64 0, str []] 0 35), (some bb, .cells 0 [.int .i64 b.1, str b.2] 0 35), (some ab, .cells 0 [.int .i64 a.1, str a.2] 0 35)]) ?_ ?_
  · cases h0 : decide (b = (6, []))
    · repeat (first | refine zo ?_ | (refine zn ?_; intro _))
      exact ops_nil ⟨⟨rfl, rfl, rfl, rfl, rfl, rfl, trivial⟩, rfl⟩
    repeat (first | refine zo ?_ | (refine zn ?_; intro _))
    cases h3 : (a.1 == 3)
    · repeat (first | refine zo ?_ | (refine zn ?_; intro _))
      refine ops_nil ⟨⟨rfl, rfl, rfl, rfl, rfl, ?_, trivial⟩, rfl⟩
      rw [← beqI, ← beqI, h3]
      rfl
    · repeat (first | refine zo ?_ | (refine zn ?_; intro _))
      refine ops_nil ⟨⟨rfl, rfl, rfl, rfl, rfl, ?_, trivial⟩, rfl⟩
      rw [← beqI, ← beqI, h3]
      rfl
  rintro E L ⟨hE, rfl⟩
  refine ExecS.weak hE (List.Sublist.refl _) ?_
  cases q2 : (decide (b = (6, [])) && (decide (a.1 = 3) || decide (a.1 = 4)))
  rotate_left
  · have q2 : b = (6, []) ∧ (a.1 = 3 ∨ a.1 = 4) := by simpa using q2
    repeat (first | refine zr ?_ | (refine zn ?_; intro _))
    refine ⟨trivial, [_], ⟨look_agg 1 rfl rfl rfl rfl, trivial⟩, ?_⟩
    rw [joinT, if_neg nab, if_neg q1, if_pos q2]
    rfl
  have q2 : ¬ (b = (6, []) ∧ (a.1 = 3 ∨ a.1 = 4)) := by
    intro h
    rw [decide_eq_true h.1] at q2
    rcases h.2 with h | h <;> rw [decide_eq_true h] at q2 <;> simp at q2
  repeat (first | refine zr ?_ | (refine zn ?_; intro _))
  cases ha4 : (a.1 == 4)
  · have n4 : ¬ (a.1 = 4 ∧ b.1 = 4) := fun h => (beq_eq_false_iff_ne.1 ha4) h.1
    repeat (first | refine zr ?_ | (refine zn ?_; intro _))
    refine ⟨trivial, [_], ⟨look_agg 1 rfl rfl rfl rfl, trivial⟩, ?_⟩
    rw [joinT, if_neg nab, if_neg q1, if_neg q2, if_neg n4]
    rfl
  repeat (first | refine zr ?_ | (refine zn ?_; intro _))
  cases hb4 : (b.1 == 4)
  · have n4 : ¬ (a.1 = 4 ∧ b.1 = 4) := fun h => (beq_eq_false_iff_ne.1 hb4) h.2
    repeat (first | refine zr ?_ | (refine zn ?_; intro _))
    refine ⟨trivial, [_], ⟨look_agg 1 rfl rfl rfl rfl, trivial⟩, ?_⟩
    rw [joinT, if_neg nab, if_neg q1, if_neg q2, if_neg n4]
    rfl
  have y4 : a.1 = 4 ∧ b.1 = 4 := ⟨eq_of_beq ha4, eq_of_beq hb4⟩
  repeat (first | refine zr ?_ | (refine zn ?_; intro _))
  refine ops_step rfl rfl rfl (step_call_pure rfl rfl rfl (fun H hs => rcommon_ok (a := a.2) (b := b.2) (ht.pure hs) hN hm) ?_)
  repeat (first | refine zr ?_ | (refine zn ?_; intro _))
  refine ⟨trivial, [_], ⟨look_agg 1 rfl rfl rfl rfl, trivial⟩, ?_⟩
  rw [joinT, if_neg nab, if_neg q1, if_neg q2, if_pos y4]
  rfl

theorem fitsR (m : TM) (a b : Typ) : fitsB m a b = if a.1 = 4 ∧ b.1 = 4 then (decide (a = b) || m.sub a.2 b.2) else if a.1 = 6 ∧ (b.1 = 3 ∨ b.1 = 4) then true else decide (a = b) && decide (a.1 ≠ 7) := by
  rw [fitsB]
  by_cases hab : a = b
  · subst hab
    rw [if_pos rfl, decide_eq_true rfl]
    by_cases h4 : a.1 = 4
    · rw [if_pos ⟨h4, h4⟩, h4]; rfl
    · rw [if_neg (fun h => h4 h.1)]
      by_cases h6 : a.1 = 6 ∧ (a.1 = 3 ∨ a.1 = 4)
      · exfalso; omega
      · rw [if_neg h6]; rfl
  · rw [if_neg hab, decide_eq_false hab]
    by_cases h4 : a.1 = 4 ∧ b.1 = 4
    · rw [if_pos h4, if_neg (by omega), decide_eq_true h4.1, decide_eq_true h4.2]; rfl
    · rw [if_neg h4]
      by_cases h6 : a.1 = 6
      · rw [if_pos h6]
        by_cases h3 : b.1 = 3 ∨ b.1 = 4
        · rw [if_pos ⟨h6, h3⟩]
          rcases h3 with h3 | h3 <;> rw [decide_eq_true h3] <;> simp
        · rw [if_neg (fun h => h3 h.2), decide_eq_false (fun h => h3 (.inl h)), decide_eq_false (fun h => h3 (.inr h))]; rfl
      · rw [if_neg h6, if_neg (fun h => h6 h.1)]
        by_cases ha : a.1 = 4
        · rw [decide_eq_true ha, decide_eq_false (fun h => h4 ⟨ha, h⟩)]; rfl
        · rw [decide_eq_false ha]; rfl

set_option maxHeartbeats 16000000 in
set_option maxRecDepth 100000 in
theorem rfits_ok {H : Heap} {wb : Nat} {aa : Option Addr} {an ac : Nat} {cl : List CV} {m : TM} {a b : Typ} (ht : RefK O H wb aa an ac cl) (hN : an ≤ 1000000) (hm : TMok (gOf cl) m) :
    CallC TT O 20 [ptr wb, typV a, typV b] H fun v H' => v = .bool (fitsB m a b) ∧ Ext H H' := by
  rw [fitsR]
  refine call_pure rfl rfl rfl rfl rfl ?_
  repeat (first | refine zr ?_ | (refine zn ?_; intro _))
  rename_i ab bb
  refine OpsS.mono (Q := fun E L => SubE [(0, ptr wb), (4, ptr ab), (5, ptr bb), (6, .bool false), (7, .bool (decide (a.1 = 4) && decide (b.1 = 4)))] E ∧ L = [(some bb, .cells 0 [.int .i64 b.1, str b.2] 0 35), (some ab, .cells 0 [.int .i64 a.1, str a.2] 0 35)]) ?_ ?_
  · cases h4 : (a.1 == 4)
    · repeat (first | refine zo ?_ | (refine zn ?_; intro _))
      refine ops_nil ⟨⟨rfl, rfl, rfl, rfl, ?_, trivial⟩, rfl⟩
      rw [← beqI, ← beqI, h4]; rfl
    · repeat (first | refine zo ?_ | (refine zn ?_; intro _))
      refine ops_nil ⟨⟨rfl, rfl, rfl, rfl, ?_, trivial⟩, rfl⟩
      rw [← beqI, ← beqI, h4]; rfl
  rintro E L ⟨hE, rfl⟩
  refine ExecS.weak hE (List.Sublist.refl _) ?_
  cases h4 : (decide (a.1 = 4) && decide (b.1 = 4))
  rotate_left
  · have y4 : a.1 = 4 ∧ b.1 = 4 := by simpa using h4
    rw [if_pos y4]
    repeat (first | refine zr ?_ | (refine zn ?_; intro _))
    first | refine ops_pl rfl rfl rfl (PL.eqlTyp (a := a) (b := b) rfl rfl rfl) rfl ?_ | refine draw_pl rfl rfl rfl rfl (PL.eqlTyp (a := a) (b := b) rfl rfl rfl) rfl rfl ?_
    cases hab : decide (a = b)
    rotate_left
    · repeat (first | refine zr ?_ | (refine zn ?_; intro _))
      exact ⟨trivial, _, rfl, rfl⟩
    repeat (first | refine zr ?_ | (refine zn ?_; intro _))
    refine ops_step rfl rfl rfl (step_call_pure rfl rfl rfl (fun H hs => rsub_ok (a := a.2) (b := b.2) (ht.pure hs) hN hm) ?_)
    repeat (first | refine zr ?_ | (refine zn ?_; intro _))
    exact ⟨trivial, _, rfl, rfl⟩
  have n4 : ¬ (a.1 = 4 ∧ b.1 = 4) := by
    intro h
    rw [decide_eq_true h.1, decide_eq_true h.2] at h4
    cases h4
  rw [if_neg n4]
  repeat (first | refine zr ?_ | (refine zn ?_; intro _))
  refine OpsS.mono (Q := fun E L => SubE [(0, ptr wb), (4, ptr ab), (5, ptr bb), (6, .bool false), (27, .bool (decide (a.1 = 6) && (decide (b.1 = 3) || decide (b.1 = 4))))] E ∧ L = [(some bb, .cells 0 [.int .i64 b.1, str b.2] 0 35), (some ab, .cells 0 [.int .i64 a.1, str a.2] 0 35)]) ?_ ?_
  · cases h6 : (a.1 == 6)
    · repeat (first | refine zo ?_ | (refine zn ?_; intro _))
      refine ops_nil ⟨⟨rfl, rfl, rfl, rfl, ?_, trivial⟩, rfl⟩
      rw [← beqI, h6]; rfl
    repeat (first | refine zo ?_ | (refine zn ?_; intro _))
    cases h3 : (b.1 == 3)
    · repeat (first | refine zo ?_ | (refine zn ?_; intro _))
      refine ops_nil ⟨⟨rfl, rfl, rfl, rfl, ?_, trivial⟩, rfl⟩
      rw [← beqI, ← beqI, ← beqI, h6, h3]; rfl
    · repeat (first | refine zo ?_ | (refine zn ?_; intro _))
      refine ops_nil ⟨⟨rfl, rfl, rfl, rfl, ?_, trivial⟩, rfl⟩
      rw [← beqI, ← beqI, ← beqI, h6, h3]; rfl
  rintro E L ⟨hE, rfl⟩
  refine ExecS.weak hE (List.Sublist.refl _) ?_
  cases h6 : (decide (a.1 = 6) && (decide (b.1 = 3) || decide (b.1 = 4)))
  rotate_left
  · have y6 : a.1 = 6 ∧ (b.1 = 3 ∨ b.1 = 4) := by simpa using h6
    rw [if_pos y6]
    repeat (first | refine zr ?_ | (refine zn ?_; intro _))
    exact ⟨trivial, _, rfl, rfl⟩
  have n6 : ¬ (a.1 = 6 ∧ (b.1 = 3 ∨ b.1 = 4)) := by
    intro h
    rw [decide_eq_true h.1] at h6
    rcases h.2 with h | h <;> rw [decide_eq_true h] at h6 <;> simp at h6
  rw [if_neg n6]
  repeat (first | refine zr ?_ | (refine zn ?_; intro _))
  first | refine ops_pl rfl rfl rfl (PL.eqlTyp (a := a) (b := b) rfl rfl rfl) rfl ?_ | refine draw_pl rfl rfl rfl rfl (PL.eqlTyp (a := a) (b := b) rfl rfl rfl) rfl rfl ?_
  cases hab : decide (a = b)
  · repeat (first | refine zr ?_ | (refine zn ?_; intro _))
    exact ⟨trivial, _, rfl, rfl⟩
  repeat (first | refine zr ?_ | (refine zn ?_; intro _))
  refine ⟨trivial, _, rfl, ?_⟩
  rw [← bneI]
  rfl

set_option maxHeartbeats 16000000 in
set_option maxRecDepth 100000 in
theorem rall_ok {H : Heap} {wb : Nat} {ra : Option Addr} {rn rc : Nat} {cl : List CV} {m : TM} {aa ab : Option Addr} {na ca nb cb : Nat} {l r : List Typ} (hst : St (blksOf []) H H []) (ht : RefK O H wb ra rn rc cl) (hN : rn ≤ 1000000) (hm : TMok (gOf cl) m) (ha : SlX [] O H (.slice aa na ca) 2 na (typC l)) (hb : SlX [] O H (.slice ab nb cb) 2 nb (typC r)) (hn : na ≤ 1000) :
    FpC TT O 24 [ptr wb, .slice aa na ca, .slice ab nb cb] H [] fun v F' => ∃ a n c pa, v = .tuple #[.slice a n c, .bool (decide (na = nb))] ∧ F' = [pa] ∧ OwnA 2 35 a n c (typC (if na = nb then allT m l r else [])) pa := by
  have ha0 := ha H (ExtBut.refl _ _)
  have hb0 := hb H (ExtBut.refl _ _)
  have hla : l.length = na := by have := ha0.1; rw [typC_length] at this; omega
  have hlb : r.length = nb := by have := hb0.1; rw [typC_length] at this; omega
  refine call_fp rfl rfl rfl rfl rfl hst ?_
  refine ExecS.ghost ?_
  repeat (first | refine zr ?_ | (refine zn ?_; intro _))
  refine exec_cond rfl (fun hne => ?_) (fun heq => ?_)
  · have hne : ¬ na = nb := by simp at hne; omega
    repeat (first | refine zr ?_ | (refine zn ?_; intro _))
    refine ⟨trivial, _, rfl, [(none, .map [])], [], List.Perm.refl _, none, 0, 0, _, ?_, rfl, ?_⟩
    · rw [decide_eq_false hne]; rfl
    · rw [if_neg hne]; exact .nil _
  have heq : na = nb := by simp at heq; omega
  subst heq
  repeat (first | refine zr ?_ | (refine zn ?_; intro _))
  refine ExecS.weak (E' := [(0, ptr wb), (1, .slice aa na ca), (2, .slice ab na cb), (8, .slice none 0 0), (9, .int .i64 ((0 : Nat) : Int))]) ⟨rfl, rfl, rfl, rfl, rfl, trivial⟩ (List.Sublist.refl _) ?_
  refine exec_loop (fun k E L => ∃ (i : Nat) (a : Option Addr) (n c : Nat) (pa : Option Nat × Cont), i + k = na ∧ E = [(0, ptr wb), (1, .slice aa na ca), (2, .slice ab na cb), (8, .slice a n c), (9, .int .i64 (i : Int))] ∧ L = [pa] ∧ OwnA 2 35 a n c (typC (allT m (l.take i) (r.take i))) pa) ?_ na _ _ ⟨0, none, 0, 0, _, by omega, rfl, rfl, .nil _⟩
  rintro k E L ⟨i, a, n, c, pa, hik, rfl, rfl, own⟩
  have hni : n = min i na := by
    have h1 := own.len
    rw [typC_length, allT_len (by rw [List.length_take, List.length_take, hla, hlb]), List.length_take] at h1
    omega
  repeat (first | refine zr ?_ | (refine zn ?_; intro _))
  refine exec_cond rfl (fun hlt => ?_) (fun hge => ?_)
  · have hi : i < na := by simp at hlt; omega
    obtain ⟨x, hx⟩ : ∃ x, l[i]? = some x := ⟨_, List.getElem?_eq_getElem (by omega)⟩
    obtain ⟨y, hy⟩ : ∃ y, r[i]? = some y := ⟨_, List.getElem?_eq_getElem (by omega)⟩
    repeat (first | refine zr ?_ | (refine zn ?_; intro _))
    refine exec_draw (lst := [(0, 0), (1, 0), (2, 0), (3, 0), (4, 12), (5, 28), (6, 0), (7, 0), (8, 192), (9, 448), (10, 1022), (11, 2046), (12, 4095), (13, 8191)]) (full := 16383) (by kernel_rfl) (by kernel_rfl) (by kernel_rfl) (by kernel_rfl) ?_
    skip
    repeat (first | refine zd ?_)
    try refine draw_nil ?_
    (first | apply ops_pl rfl rfl rfl ?_ rfl ?_ | apply draw_pl rfl rfl rfl rfl ?_ rfl rfl ?_); rotate_left; focus exact (.p rfl (opP_idx rfl rfl ha0 rfl rfl (by omega) (by omega)))
    (first | apply ops_pl rfl rfl rfl ?_ rfl ?_ | apply draw_pl rfl rfl rfl rfl ?_ rfl rfl ?_); rotate_left; focus exact (.l rfl (fun H hs => opL_load rfl ((ha.at hs).ldA rfl (by decide) hi (typC_at hx))))
    repeat (first | refine zd ?_)
    try refine draw_nil ?_
    (first | apply ops_pl rfl rfl rfl ?_ rfl ?_ | apply draw_pl rfl rfl rfl rfl ?_ rfl rfl ?_); rotate_left; focus exact (.p rfl (opP_idx rfl rfl hb0 rfl rfl (by omega) (by omega)))
    (first | apply ops_pl rfl rfl rfl ?_ rfl ?_ | apply draw_pl rfl rfl rfl rfl ?_ rfl rfl ?_); rotate_left; focus exact (.l rfl (fun H hs => opL_load rfl ((hb.at hs).ldA rfl (by decide) hi (typC_at hy))))
    repeat (first | refine zd ?_)
    try refine draw_nil ?_
    refine draw_w rfl rfl rfl rfl rfl rfl (step_call_pure rfl rfl rfl (fun H hs => rjoin_ok (a := x) (b := y) (ht.pure hs) hN hm) ⟨by repeat (first | exact True.intro | refine And.intro (.inr ⟨veq_refl rfl, (fun H hs => opL_load rfl ((ha.at hs).ldA rfl (by decide) hi (typC_at hx)))⟩) ?_ | refine And.intro (.inr ⟨veq_refl rfl, (fun H hs => opL_load rfl ((hb.at hs).ldA rfl (by decide) hi (typC_at hy)))⟩) ?_ | refine zs1 ?_), ?_⟩)
    repeat (first | refine zd ?_)
    try refine draw_nil ?_
    refine draw_a rfl rfl rfl rfl rfl (step_buildSliceF rfl rfl rfl rfl rfl rfl (fun sb => ⟨by repeat (first | exact True.intro | refine And.intro (.inr ⟨veq_refl rfl, (fun H hs => opL_load rfl ((ha.at hs).ldA rfl (by decide) hi (typC_at hx)))⟩) ?_ | refine And.intro (.inr ⟨veq_refl rfl, (fun H hs => opL_load rfl ((hb.at hs).ldA rfl (by decide) hi (typC_at hy)))⟩) ?_ | refine zs1 ?_), ?_⟩))
    repeat (first | refine zd ?_)
    try refine draw_nil ?_
    refine draw_w rfl rfl rfl rfl rfl rfl (step_append 1 2 rfl rfl rfl rfl rfl rfl rfl rfl own (fun H hs => src_own (j := 0) hs rfl rfl 1) rfl (by first | rfl | exact allCell_map (fun _ => rfl) _) (by first | rfl | (simp; done) | (simp; omega)) (by omega) (fun a2 c2 p2 own2 => ⟨by repeat (first | exact True.intro | refine And.intro (.inr ⟨veq_refl rfl, (fun H hs => opL_load rfl ((ha.at hs).ldA rfl (by decide) hi (typC_at hx)))⟩) ?_ | refine And.intro (.inr ⟨veq_refl rfl, (fun H hs => opL_load rfl ((hb.at hs).ldA rfl (by decide) hi (typC_at hy)))⟩) ?_ | refine zs1 ?_), ?_⟩))
    repeat (first | refine zd ?_)
    try refine draw_nil ?_
    repeat (first | refine zr ?_ | (refine zn ?_; intro _))
    have own3 : OwnA 2 35 a2 (n + 1) c2 (typC (allT m (l.take (i + 1)) (r.take (i + 1)))) p2 := by rw [allT_succ hx hy, typC_app]; exact own2
    refine ⟨k - 1, by omega, _, _, ?_, List.Sublist.cons _ (List.Sublist.refl _), i + 1, a2, n + 1, c2, p2, by omega, rfl, rfl, own3⟩
    exact ⟨rfl, rfl, rfl, rfl, rfl, trivial⟩
  · have hi : na ≤ i := by simp at hge; omega
    repeat (first | refine zr ?_ | (refine zn ?_; intro _))
    refine ⟨trivial, _, rfl, [pa], [], List.Perm.refl _, a, n, c, pa, ?_, rfl, ?_⟩
    · rw [decide_eq_true rfl]; rfl
    · rw [if_pos rfl]
      rwa [List.take_of_length_le (by omega), List.take_of_length_le (by omega)] at own


set_option maxHeartbeats 16000000 in
set_option maxRecDepth 100000 in
theorem sameTypes_ok {H : Heap} {aa ab : Option Addr} {na ca nb cb : Nat} {l r : List Typ} (ha : SlX [] O H (.slice aa na ca) 2 na (typC l)) (hb : SlX [] O H (.slice ab nb cb) 2 nb (typC r)) (hn : na ≤ 1000) (hlr : l = r) :
    CallC TT O 25 [.slice aa na ca, .slice ab nb cb] H fun v H' => v = .bool true ∧ Ext H H' := by
  subst hlr
  have ha0 := ha H (ExtBut.refl _ _)
  have hb0 := hb H (ExtBut.refl _ _)
  have hla : l.length = na := by have := ha0.1; rw [typC_length] at this; omega
  have hlb : l.length = nb := by have := hb0.1; rw [typC_length] at this; omega
  obtain rfl : na = nb := by omega
  refine call_pure rfl rfl rfl rfl rfl ?_
  repeat (first | refine zr ?_ | (refine zn ?_; intro _))
  rw [show ((na : Int) != (na : Int)) = false from by simp]
  repeat (first | refine zr ?_ | (refine zn ?_; intro _))
  refine ExecS.weak (E' := [(0, .slice aa na ca), (1, .slice ab na cb), (5, .int .i64 ((0 : Nat) : Int))]) ⟨rfl, rfl, rfl, trivial⟩ (List.Sublist.refl _) ?_
  refine exec_loop (fun k E L => ∃ i : Nat, i + k = na ∧ E = [(0, .slice aa na ca), (1, .slice ab na cb), (5, .int .i64 (i : Int))] ∧ L = []) ?_ na _ _ ⟨0, by omega, rfl, rfl⟩
  rintro k E L ⟨i, hik, rfl, rfl⟩
  repeat (first | refine zr ?_ | (refine zn ?_; intro _))
  refine exec_cond rfl (fun hlt => ?_) (fun hge => ?_)
  · have hi : i < na := by simp at hlt; omega
    obtain ⟨x, hx⟩ : ∃ x, l[i]? = some x := ⟨_, List.getElem?_eq_getElem (by omega)⟩
    repeat (first | refine zr ?_ | (refine zn ?_; intro _))
    refine exec_draw (lst := [(0, 0), (1, 0), (2, 3), (3, 7), (4, 0), (5, 0), (6, 48), (7, 112), (8, 255)]) (full := 511) (by kernel_rfl) (by kernel_rfl) (by kernel_rfl) (by kernel_rfl) ?_
    repeat (first | refine zd ?_)
    try refine draw_nil ?_
    (first | apply ops_pl rfl rfl rfl ?_ rfl ?_ | apply draw_pl rfl rfl rfl rfl ?_ rfl rfl ?_); rotate_left; focus exact (.p rfl (opP_idx rfl rfl ha0 rfl rfl (by omega) (by omega)))
    (first | apply ops_pl rfl rfl rfl ?_ rfl ?_ | apply draw_pl rfl rfl rfl rfl ?_ rfl rfl ?_); rotate_left; focus exact (.l rfl (fun H hs => opL_load rfl ((ha.at hs).ldA rfl (by decide) hi (typC_at hx))))
    repeat (first | refine zd ?_)
    try refine draw_nil ?_
    (first | apply ops_pl rfl rfl rfl ?_ rfl ?_ | apply draw_pl rfl rfl rfl rfl ?_ rfl rfl ?_); rotate_left; focus exact (.p rfl (opP_idx rfl rfl hb0 rfl rfl (by omega) (by omega)))
    (first | apply ops_pl rfl rfl rfl ?_ rfl ?_ | apply draw_pl rfl rfl rfl rfl ?_ rfl rfl ?_); rotate_left; focus exact (.l rfl (fun H hs => opL_load rfl ((hb.at hs).ldA rfl (by decide) hi (typC_at hx))))
    repeat (first | refine zd ?_)
    try refine draw_nil ?_
    first | refine ops_pl rfl rfl rfl (PL.neqTyp (a := x) (b := x) rfl rfl rfl) rfl ?_ | refine draw_pl rfl rfl rfl rfl (PL.neqTyp (a := x) (b := x) rfl rfl rfl) rfl rfl ?_
    rw [show (!decide (x = x)) = false from by rw [decide_eq_true rfl]; rfl]
    repeat (first | refine zd ?_)
    try refine draw_nil ?_
    repeat (first | refine zr ?_ | (refine zn ?_; intro _))
    refine ⟨k - 1, by omega, _, _, ?_, List.Sublist.refl _, i + 1, by omega, rfl, rfl⟩
    exact ⟨rfl, rfl, rfl, trivial⟩
  · repeat (first | refine zr ?_ | (refine zn ?_; intro _))
    exact ⟨trivial, _, rfl, rfl⟩
end Go.Proofs.Ythifbkjkiijkoaa

