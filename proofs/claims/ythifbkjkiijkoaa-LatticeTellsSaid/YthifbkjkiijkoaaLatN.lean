/-
  Walks: what is known of values, without a tree: that of no classes.
-/
import Derived.Test.YthifbkjkiijkoaaLat1
namespace Go.Proofs.Ythifbkjkiijkoaa
open Go.Ev Go.Ev.Wk
set_option linter.unusedVariables false
set_option linter.unusedSimpArgs false
variable {O : Old}


def chB (s : List UInt8) : List (List UInt8) := if s = objB then [objB] else if s = fauB then [fauB, objB] else if (biC s).isSome = true then [s, fauB, objB] else []
/-- what the tree of no classes says -/
def tmB : TM := ⟨fun s => (biC s).isSome, fun _ => false, chB, fun _ => []⟩

theorem biC_cases {s : List UInt8} {c : CV} (h : biC s = some c) : c.ifs = [] ∧ c.kd = 1 ∧ c.su = (if s = objB then [] else if s = fauB then objB else fauB) := by
  unfold biC at h
  split at h; · rename_i e; cases h; subst e; exact ⟨rfl, rfl, rfl⟩
  split at h; · rename_i e; cases h; subst e; exact ⟨rfl, rfl, rfl⟩
  split at h; · rename_i e; cases h; subst e; exact ⟨rfl, rfl, rfl⟩
  split at h; · rename_i e; cases h; subst e; exact ⟨rfl, rfl, rfl⟩
  split at h; · rename_i e; cases h; subst e; exact ⟨rfl, rfl, rfl⟩
  split at h; · rename_i e; cases h; subst e; exact ⟨rfl, rfl, rfl⟩
  split at h; · rename_i e; cases h; subst e; exact ⟨rfl, rfl, rfl⟩
  cases h

theorem getB_ifs (s : List UInt8) : (getC (gOf []) s).ifs = [] := by
  rw [getC, gOf_nil]
  cases h : biC s with
  | none => rfl
  | some c => exact (biC_cases h).1

theorem chB_obj : ChainOf (gOf []) objB [objB] := .cons (c := bi objB []) (by rw [gOf_nil]; rfl) (.none (by rw [gOf_nil]; rfl)) (by simp)
theorem chB_fau : ChainOf (gOf []) fauB [fauB, objB] := .cons (c := bi fauB objB) (by rw [gOf_nil]; rfl) chB_obj (by decide)

theorem tmB_ok : TMok (gOf []) tmB where
  known := fun s => by rw [gOf_nil]; rfl
  iface := fun s => by
    show _ ↔ false = true
    rw [getC, gOf_nil]
    cases h : biC s with
    | none => exact ⟨fun e => absurd e (by decide), fun e => absurd e (by decide)⟩
    | some c =>
      have := (biC_cases h).2.1
      show c.kd = 4 ↔ _
      rw [this]
      exact ⟨fun e => absurd e (by decide), fun e => absurd e (by decide)⟩
  ch := fun s => by
    show ChainOf (gOf []) s (chB s)
    unfold chB
    by_cases h1 : s = objB
    · rw [if_pos h1, h1]; exact chB_obj
    by_cases h2 : s = fauB
    · rw [if_neg h1, if_pos h2, h2]; exact chB_fau
    rw [if_neg h1, if_neg h2]
    cases h : biC s with
    | none => exact .none (by rw [gOf_nil]; exact h)
    | some c =>
      have h3 := (biC_cases h).2.2
      rw [if_neg h1, if_neg h2] at h3
      exact .cons (c := c) (by rw [gOf_nil]; exact h) (by rw [h3]; exact chB_fau) (by simp [h1, h2])
  chl := fun s => by
    show (chB s).length ≤ 1000
    unfold chB
    split
    · simp
    split
    · simp
    split <;> simp
  ifl := fun s => by
    refine ⟨1, ?_⟩
    have h : ∀ (l : List (List UInt8)) (o : List (List UInt8)), ifsF (gOf []) 1 l o = some o := by
      intro l
      induction l with
      | nil => intro o; rfl
      | cons x l ih =>
        intro o
        rw [ifsF, List.foldlM_cons, underF, getB_ifs]
        exact ih o
    exact h _ []
  ifll := fun s => Nat.zero_le _

set_option maxHeartbeats 8000000 in
set_option maxRecDepth 100000 in
theorem latOfN_ok {H : Heap} (hst : St (blksOf []) H H []) : FpC TT O 50 [.pointer none] H [] fun v F' => ∃ tb mb es, v = ptr tb ∧ F' = [(some tb, .cells 0 [.map (some mb), .slice none 0 0] 0 78), (some mb, .map es)] ∧ Says es fun s => (gOf [] s).map CV.val := by
  refine call_fp rfl rfl rfl rfl rfl hst ?_
  repeat (first | refine zr ?_ | (refine zn ?_; intro _))
  refine ops_step rfl rfl rfl (step_call_fp [] _ rfl rfl rfl (List.Perm.refl _) (fun H hs hst => new_ok (cl := []) hst rfl (by omega) (fun _ _ => ⟨Sl.nil, fun c hc => by cases hc⟩)) (fun v F' h => ?_))
  obtain ⟨tb, mb, es, rfl, rfl, hsay⟩ := h
  repeat (first | refine zr ?_ | (refine zn ?_; intro _))
  exact ⟨trivial, _, rfl, _, [], List.Perm.refl _, tb, mb, es, rfl, rfl, hsay⟩

theorem treeN {X : List Nat} {H0 H : Heap} {tb mb : Nat} {es : List (Value × Value)} {R : Atoms} (hst : St X H0 H ((some tb, .cells 0 [.map (some mb), .slice none 0 0] 0 78) :: (some mb, .map es) :: R)) (h : Says es fun s => (gOf [] s).map CV.val) : TreeK O H tb mb (.slice none 0 0) (gOf []) := fun H' e => by
  have h2 := hst.extend e
  exact ClsH.tree (cl := []) (v := .slice none 0 0) ⟨Sl.nil, fun c hc => by cases hc⟩ (fun c h => h) (h2.has _ _ (by simp)) (h2.has _ _ (by simp)) h

set_option maxHeartbeats 16000000 in
set_option maxRecDepth 100000 in
theorem joinN_ok {H : Heap} {a b : Typ} :
    CallC TT O 17 [(.pointer none), typV a, typV b] H fun v H' => v = typV (joinT tmB a b) ∧ Ext H H' := by
  refine call_pureM rfl rfl rfl rfl rfl ?_
  repeat (first | refine zr ?_ | (refine zn ?_; intro _))
  rename_i ab bb rb nb
  first | refine ops_pl rfl rfl rfl (PL.eqlTyp (a := a) (b := b) rfl rfl rfl) rfl ?_ | refine draw_pl rfl rfl rfl rfl (PL.eqlTyp (a := a) (b := b) rfl rfl rfl) rfl rfl ?_
  cases hab : decide (a = b)
  rotate_left
  · repeat (first | refine zr ?_ | (refine zn ?_; intro _))
    refine ⟨trivial, [_], ⟨look_agg 1 rfl rfl rfl rfl, trivial⟩, ?_⟩
    rw [joinT, if_pos (of_decide_eq_true hab)]
    rfl
  have nab := of_decide_eq_false hab
  repeat (first | refine zr ?_ | (refine zn ?_; intro _))
  (first | apply ops_pl rfl rfl rfl ?_ rfl ?_ | apply draw_pl rfl rfl rfl rfl ?_ rfl rfl ?_); rotate_left; focus exact (PL.eqlTyp (a := a) (b := (6, [])) rfl rfl rfl)
  refine OpsS.mono (Q := fun E L => SubE [(0, (.pointer none)), (4, ptr ab), (5, ptr bb), (6, ptr rb), (7, ptr nb), (14, .bool (decide (a = (6, [])) && (decide (b.1 = 3) || decide (b.1 = 4))))] E ∧ L = [(some nb, .cells 0 [.int .i64 6, str []] 0 35), (some rb, .cells 0 [.int .i64 0, str []] 0 35), (some bb, .cells 0 [.int .i64 b.1, str b.2] 0 35), (some ab, .cells 0 [.int .i64 a.1, str a.2] 0 35)]) ?_ ?_
  · cases h0 : decide (a = (6, []))
    · repeat (first | refine zo ?_ | (refine zn ?_; intro _))
      exact ops_nil ⟨⟨rfl, rfl, rfl, rfl, rfl, rfl, trivial⟩, rfl⟩
    repeat (first | refine zo ?_ | (refine zn ?_; intro _))
    cases h3 : (b.1 == 3)
    · repeat (first | refine zo ?_ | (refine zn ?_; intro _))
      refine ops_nil ⟨⟨rfl, rfl, rfl, rfl, rfl, ?_, trivial⟩, rfl⟩
      rw [← beqI, ← beqI, h3]
      rfl
    · repeat (first | refine zo ?_ | (refine zn ?_; intro _))
      refine ops_nil ⟨⟨rfl, rfl, rfl, rfl, rfl, ?_, trivial⟩, rfl⟩
      rw [← beqI, ← beqI, h3]
      rfl
  rintro E L ⟨hE, rfl⟩
  refine ExecS.weak hE (List.Sublist.refl _) ?_
  cases q1 : (decide (a = (6, [])) && (decide (b.1 = 3) || decide (b.1 = 4)))
  rotate_left
  · have q1 : a = (6, []) ∧ (b.1 = 3 ∨ b.1 = 4) := by simpa using q1
    repeat (first | refine zr ?_ | (refine zn ?_; intro _))
    refine ⟨trivial, [_], ⟨look_agg 1 rfl rfl rfl rfl, trivial⟩, ?_⟩
    rw [joinT, if_neg nab, if_pos q1]
    rfl
  have q1 : ¬ (a = (6, []) ∧ (b.1 = 3 ∨ b.1 = 4)) := by
    intro h
    rw [decide_eq_true h.1] at q1
    rcases h.2 with h | h <;> rw [decide_eq_true h] at q1 <;> simp at q1
  repeat (first | refine zr ?_ | (refine zn ?_; intro _))
  (first | apply ops_pl rfl rfl rfl ?_ rfl ?_ | apply draw_pl rfl rfl rfl rfl ?_ rfl rfl ?_); rotate_left; focus exact (PL.eqlTyp (a := b) (b := (6, [])) rfl rfl rfl)
  refine OpsS.mono (Q := fun E L => SubE [(0, (.pointer none)), (4, ptr ab), (5, ptr bb), (6, ptr rb), (7, ptr nb), (29, .bool (decide (b = (6, [])) && (decide (a.1 = 3) || decide (a.1 = 4))))] E ∧ L = [(some nb, .cells 0 [.int .i64 6, str []] 0 35), (some rb, .cells 0 [.int .i64 0, str []] 0 35), (some bb, .cells 0 [.int .i64 b.1, str b.2] 0 35), (some ab, .cells 0 [.int .i64 a.1, str a.2] 0 35)]) ?_ ?_
  · cases h0 : decide (b = (6, []))
    · repeat (first | refine zo ?_ | (refine zn ?_; intro _))
      exact ops_nil ⟨⟨rfl, rfl, rfl, rfl, rfl, rfl, trivial⟩, rfl⟩
    repeat (first | refine zo ?_ | (refine zn ?_; intro _))
    cases h3 : (a.1 == 3)
    · repeat (first | refine zo ?_ | (refine zn ?_; intro _))
      refine ops_nil ⟨⟨rfl, rfl, rfl, rfl, rfl, ?_, trivial⟩, rfl⟩
      rw [← beqI, ← beqI, h3]
      rfl
    · repeat (first | refine zo ?_ | (refine zn ?_; intro _))
      refine ops_nil ⟨⟨rfl, rfl, rfl, rfl, rfl, ?_, trivial⟩, rfl⟩
      rw [← beqI, ← beqI, h3]
      rfl
  rintro E L ⟨hE, rfl⟩
  refine ExecS.weak hE (List.Sublist.refl _) ?_
  cases q2 : (decide (b = (6, [])) && (decide (a.1 = 3) || decide (a.1 = 4)))
  rotate_left
  · have q2 : b = (6, []) ∧ (a.1 = 3 ∨ a.1 = 4) := by simpa using q2
    repeat (first | refine zr ?_ | (refine zn ?_; intro _))
    refine ⟨trivial, [_], ⟨look_agg 1 rfl rfl rfl rfl, trivial⟩, ?_⟩
    rw [joinT, if_neg nab, if_neg q1, if_pos q2]
    rfl
  have q2 : ¬ (b = (6, []) ∧ (a.1 = 3 ∨ a.1 = 4)) := by
    intro h
    rw [decide_eq_true h.1] at q2
    rcases h.2 with h | h <;> rw [decide_eq_true h] at q2 <;> simp at q2
  repeat (first | refine zr ?_ | (refine zn ?_; intro _))
  cases ha4 : (a.1 == 4)
  · have n4 : ¬ (a.1 = 4 ∧ b.1 = 4) := fun h => (beq_eq_false_iff_ne.1 ha4) h.1
    repeat (first | refine zr ?_ | (refine zn ?_; intro _))
    refine ⟨trivial, [_], ⟨look_agg 1 rfl rfl rfl rfl, trivial⟩, ?_⟩
    rw [joinT, if_neg nab, if_neg q1, if_neg q2, if_neg n4]
    rfl
  repeat (first | refine zr ?_ | (refine zn ?_; intro _))
  cases hb4 : (b.1 == 4)
  · have n4 : ¬ (a.1 = 4 ∧ b.1 = 4) := fun h => (beq_eq_false_iff_ne.1 hb4) h.2
    repeat (first | refine zr ?_ | (refine zn ?_; intro _))
    refine ⟨trivial, [_], ⟨look_agg 1 rfl rfl rfl rfl, trivial⟩, ?_⟩
    rw [joinT, if_neg nab, if_neg q1, if_neg q2, if_neg n4]
    rfl
  have y4 : a.1 = 4 ∧ b.1 = 4 := ⟨eq_of_beq ha4, eq_of_beq hb4⟩
  repeat (first | refine zr ?_ | (refine zn ?_; intro _))
  refine exec_draw (lst := [(0, 0), (2, 0), (3, 4), (4, 0), (5, 16), (1, 1), (6, 63), (7, 127), (8, 255)]) (full := 511) (by kernel_rfl) (by kernel_rfl) (by kernel_rfl) (by kernel_rfl) ?_
  repeat (first | refine zd ?_)
  try refine draw_nil ?_
  refine draw_w rfl rfl rfl rfl rfl rfl (step_call_fp [] _ rfl rfl rfl (List.Perm.refl _) (fun H hs hst => latOfN_ok hst) (fun v F' h => ?_))
  obtain ⟨tb, mb, es, rfl, rfl, hsay⟩ := h
  refine zst ?_
  repeat (first | refine zd ?_)
  try refine draw_nil ?_
  refine draw_w rfl rfl rfl rfl rfl rfl (step_call_pure rfl rfl rfl (fun H hs => commonM_ok (a := a.2) (b := b.2) tmB_ok (treeN hs hsay)) (zst ?_))
  repeat (first | refine zd ?_)
  try refine draw_nil ?_
  refine draw_w rfl rfl rfl rfl rfl rfl (step_storeZ 3 rfl rfl rfl rfl rfl rfl rfl rfl rfl (zst ?_))
  repeat (first | refine zd ?_)
  try refine draw_nil ?_
  repeat (first | refine zr ?_ | (refine zn ?_; intro _))
  refine ⟨trivial, [_], ⟨look_agg 3 rfl rfl rfl rfl, trivial⟩, ?_⟩
  rw [joinT, if_neg nab, if_neg q1, if_neg q2, if_pos y4]
  rfl

set_option maxHeartbeats 16000000 in
set_option maxRecDepth 100000 in
theorem fitsN_ok {H : Heap} {a b : Typ} :
    CallC TT O 19 [(.pointer none), typV a, typV b] H fun v H' => v = .bool (fitsB tmB a b) ∧ Ext H H' := by
  refine call_pure rfl rfl rfl rfl rfl ?_
  repeat (first | refine zr ?_ | (refine zn ?_; intro _))
  first | refine ops_pl rfl rfl rfl (PL.eqlTyp (a := a) (b := b) rfl rfl rfl) rfl ?_ | refine draw_pl rfl rfl rfl rfl (PL.eqlTyp (a := a) (b := b) rfl rfl rfl) rfl rfl ?_
  cases hab : decide (a = b)
  rotate_left
  · repeat (first | refine zr ?_ | (refine zn ?_; intro _))
    refine ⟨trivial, _, rfl, ?_⟩
    rw [fitsB, if_pos (of_decide_eq_true hab), ← bneI]
    rfl
  have nab := of_decide_eq_false hab
  repeat (first | refine zr ?_ | (refine zn ?_; intro _))
  cases h6 : (a.1 == 6)
  rotate_left
  · repeat (first | refine zr ?_ | (refine zn ?_; intro _))
    have e : fitsB tmB a b = (decide (b.1 = 3) || decide (b.1 = 4)) := by rw [fitsB, if_neg nab, if_pos (eq_of_beq h6)]
    rw [e, ← beqI, ← beqI]
    cases h3 : (b.1 == 3)
    · repeat (first | refine zr ?_ | (refine zn ?_; intro _))
      exact ⟨trivial, _, rfl, rfl⟩
    · repeat (first | refine zr ?_ | (refine zn ?_; intro _))
      exact ⟨trivial, _, rfl, rfl⟩
  have e : fitsB tmB a b = (decide (a.1 = 4) && (decide (b.1 = 4) && tmB.sub a.2 b.2)) := by rw [fitsB, if_neg nab, if_neg (beq_eq_false_iff_ne.1 h6)]
  rw [e, ← beqI, ← beqI]
  repeat (first | refine zr ?_ | (refine zn ?_; intro _))
  refine exec_draw (lst := [(0, 0), (1, 1), (2, 3), (3, 7), (4, 15), (5, 31), (6, 63), (7, 127), (8, 255), (9, 511), (11, 511), (12, 2559), (13, 511), (14, 8703), (10, 1023), (15, 32767), (16, 65535), (17, 131071)]) (full := 262143) (by kernel_rfl) (by kernel_rfl) (by kernel_rfl) (by kernel_rfl) ?_
  repeat (first | refine zd ?_)
  try refine draw_nil ?_
  cases ha4 : (a.1 == 4)
  · repeat (first | refine zd ?_)
    try refine draw_nil ?_
    repeat (first | refine zr ?_ | (refine zn ?_; intro _))
    exact ⟨trivial, _, rfl, rfl⟩
  repeat (first | refine zd ?_)
  try refine draw_nil ?_
  cases hb4 : (b.1 == 4)
  · repeat (first | refine zd ?_)
    try refine draw_nil ?_
    repeat (first | refine zr ?_ | (refine zn ?_; intro _))
    exact ⟨trivial, _, rfl, rfl⟩
  repeat (first | refine zd ?_)
  try refine draw_nil ?_
  refine draw_w rfl rfl rfl rfl rfl rfl (step_call_fp [] _ rfl rfl rfl (List.Perm.refl _) (fun H hs hst => latOfN_ok hst) (fun v F' h => ?_))
  obtain ⟨tb, mb, es, rfl, rfl, hsay⟩ := h
  refine zst ?_
  repeat (first | refine zd ?_)
  try refine draw_nil ?_
  refine draw_w rfl rfl rfl rfl rfl rfl (step_call_pure rfl rfl rfl (fun H hs => subM_ok (a := a.2) (b := b.2) tmB_ok (treeN hs hsay)) (zst ?_))
  repeat (first | refine zd ?_)
  try refine draw_nil ?_
  repeat (first | refine zr ?_ | (refine zn ?_; intro _))
  exact ⟨trivial, _, rfl, rfl⟩
end Go.Proofs.Ythifbkjkiijkoaa

