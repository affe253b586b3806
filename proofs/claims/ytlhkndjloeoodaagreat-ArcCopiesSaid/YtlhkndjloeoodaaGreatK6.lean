/-
  Lemmas for the laws of this seat.
-/
import Derived.Test.YtlhkndjloeoodaaGreatK5
set_option linter.unusedVariables false
set_option linter.unusedSimpArgs false
namespace Go.Proofs.YtlhkndjloeoodaaGreat
open Go.Ev Go.Ev.Wk
variable {O : Old}
structure Ins where
  op : Int
  n : Int
  k : Int
  s : List UInt8
  cl : List UInt8
  nm : List UInt8
  ds : List UInt8
deriving DecidableEq
abbrev insL (x : Ins) : List Value := [.int .i64 x.op, .int .i32 x.n, .int .i64 x.k, str x.s, str x.cl, str x.nm, str x.ds]
abbrev insV (x : Ins) : Value := .agg (insL x).toArray
theorem Ins.eq_iff (a b : Ins) : a = b ↔ a.op = b.op ∧ a.n = b.n ∧ a.k = b.k ∧ a.s = b.s ∧ a.cl = b.cl ∧ a.nm = b.nm ∧ a.ds = b.ds := by
  cases a; cases b; simp
theorem eqV_ins (a b : Ins) : eqV TT 61 (insV a) (insV b) = some (decide (a = b)) := by
  have h : eqV TT 61 (insV a) (insV b) = (match some (a.op == b.op) with | some true => (match some (a.n == b.n) with | some true => (match some (a.k == b.k) with | some true => (match some (a.s == b.s) with | some true => (match some (a.cl == b.cl) with | some true => (match some (a.nm == b.nm) with | some true => (match some (a.ds == b.ds) with | some true => some true | some false => some false | none => none) | some false => some false | none => none) | some false => some false | none => none) | some false => some false | none => none) | some false => some false | none => none) | some false => some false | none => none) | some false => some false | none => none) := rfl
  rw [h]
  simp only [Ins.eq_iff]
  cases h1 : (a.op == b.op)
  · have := beq_eq_false_iff_ne.1 h1; simp [this]
  have h1 := eq_of_beq h1
  cases h2 : (a.n == b.n)
  · have := beq_eq_false_iff_ne.1 h2; simp [this]
  have h2 := eq_of_beq h2
  cases h3 : (a.k == b.k)
  · have := beq_eq_false_iff_ne.1 h3; simp [this]
  have h3 := eq_of_beq h3
  cases h4 : (a.s == b.s)
  · have := beq_eq_false_iff_ne.1 h4; simp [this]
  have h4 := eq_of_beq h4
  cases h5 : (a.cl == b.cl)
  · have := beq_eq_false_iff_ne.1 h5; simp [this]
  have h5 := eq_of_beq h5
  cases h6 : (a.nm == b.nm)
  · have := beq_eq_false_iff_ne.1 h6; simp [this]
  have h6 := eq_of_beq h6
  cases h7 : (a.ds == b.ds)
  · have := beq_eq_false_iff_ne.1 h7; simp [this]
  have h7 := eq_of_beq h7
  simp [h1, h2, h3, h4, h5, h6, h7]
theorem PL.neqIns {X : List Nat} {H0 : Heap} {E : Env} {L : Atoms} {o : Oper} {x y : Operand} {yt : Nat} {a b : Ins} (ho : o.op = .binOp .neq 61 x y yt) (hx : lk E x = some (insV a)) (hy : lk E y = some (insV b)) : PL TT O X H0 E L o (.bool (!decide (a = b))) := by
  refine .p (by rw [ho]; rfl) ?_
  rw [ho]
  simp only [opP, hx, hy]
  show (match eqV TT 61 (insV a) (insV b) with | some b => some (Value.bool (!b)) | none => none) = _
  rw [eqV_ins]
def usedI (x : Ins) : Ins :=
  if usesZ x.op = 1 then ⟨x.op, x.n, 0, [], [], [], []⟩
  else if usesZ x.op = 2 then ⟨x.op, 0, 0, x.s, [], [], []⟩
  else if usesZ x.op = 3 then ⟨x.op, 0, x.k, [], [], [], []⟩
  else if usesZ x.op = 4 then ⟨x.op, 0, 0, [], x.cl, x.nm, []⟩
  else if usesZ x.op = 5 then ⟨x.op, 0, 0, [], x.cl, x.nm, x.ds⟩
  else if usesZ x.op = 6 then ⟨x.op, 0, 0, [], x.cl, [], []⟩
  else ⟨x.op, 0, 0, [], [], [], []⟩
set_option maxHeartbeats 16000000 in
set_option maxRecDepth 100000 in
theorem bare_ok {H : Heap} {x : Ins} : CallC TT O 185 [insV x] H fun v H' => v = insV (usedI x) ∧ Ext H H' := by
  refine call_pureM rfl rfl rfl rfl rfl ?_
  repeat (first | refine zr ?_ | (refine zn ?_; intro _))
  refine ops_step rfl rfl rfl (step_call_pure rfl rfl rfl (fun H hs => uses_ok) ?_)
  repeat (first | refine zr ?_ | (refine zn ?_; intro _))
  cases h1 : (usesZ x.op == 1)
  rotate_left
  · have e : usedI x = ⟨x.op, x.n, 0, [], [], [], []⟩ := by rw [usedI, if_pos (eq_of_beq h1)]
    rw [e]
    repeat (first | refine zr ?_ | (refine zn ?_; intro _))
    refine ⟨trivial, [_], ⟨look_agg 1 rfl rfl rfl rfl, trivial⟩, rfl⟩
  have h1 : ¬ usesZ x.op = 1 := beq_eq_false_iff_ne.1 h1
  repeat (first | refine zr ?_ | (refine zn ?_; intro _))
  cases h2 : (usesZ x.op == 2)
  rotate_left
  · have e : usedI x = ⟨x.op, 0, 0, x.s, [], [], []⟩ := by rw [usedI, if_neg h1, if_pos (eq_of_beq h2)]
    rw [e]
    repeat (first | refine zr ?_ | (refine zn ?_; intro _))
    refine ⟨trivial, [_], ⟨look_agg 1 rfl rfl rfl rfl, trivial⟩, rfl⟩
  have h2 : ¬ usesZ x.op = 2 := beq_eq_false_iff_ne.1 h2
  repeat (first | refine zr ?_ | (refine zn ?_; intro _))
  cases h3 : (usesZ x.op == 3)
  rotate_left
  · have e : usedI x = ⟨x.op, 0, x.k, [], [], [], []⟩ := by rw [usedI, if_neg h1, if_neg h2, if_pos (eq_of_beq h3)]
    rw [e]
    repeat (first | refine zr ?_ | (refine zn ?_; intro _))
    refine ⟨trivial, [_], ⟨look_agg 1 rfl rfl rfl rfl, trivial⟩, rfl⟩
  have h3 : ¬ usesZ x.op = 3 := beq_eq_false_iff_ne.1 h3
  repeat (first | refine zr ?_ | (refine zn ?_; intro _))
  cases h4 : (usesZ x.op == 4)
  rotate_left
  · have e : usedI x = ⟨x.op, 0, 0, [], x.cl, x.nm, []⟩ := by rw [usedI, if_neg h1, if_neg h2, if_neg h3, if_pos (eq_of_beq h4)]
    rw [e]
    repeat (first | refine zr ?_ | (refine zn ?_; intro _))
    refine exec_draw (lst := [(0, 0), (1, 1), (2, 0), (3, 4), (4, 3), (5, 19), (6, 63), (7, 127)]) (full := 255) (by kernel_rfl) (by kernel_rfl) (by kernel_rfl) (by kernel_rfl) ?_
    repeat (first | refine zd ?_)
    try refine draw_nil ?_
    refine draw_w rfl rfl rfl rfl rfl rfl (step_storeZ 0 rfl rfl rfl rfl rfl rfl rfl rfl rfl (zst ?_))
    repeat (first | refine zd ?_)
    try refine draw_nil ?_
    refine draw_w rfl rfl rfl rfl rfl rfl (step_storeZ 0 rfl rfl rfl rfl rfl rfl rfl rfl rfl (zst ?_))
    repeat (first | refine zd ?_)
    try refine draw_nil ?_
    repeat (first | refine zr ?_ | (refine zn ?_; intro _))
    refine ⟨trivial, [_], ⟨look_agg 1 rfl rfl rfl rfl, trivial⟩, rfl⟩
  have h4 : ¬ usesZ x.op = 4 := beq_eq_false_iff_ne.1 h4
  repeat (first | refine zr ?_ | (refine zn ?_; intro _))
  cases h5 : (usesZ x.op == 5)
  rotate_left
  · have e : usedI x = ⟨x.op, 0, 0, [], x.cl, x.nm, x.ds⟩ := by rw [usedI, if_neg h1, if_neg h2, if_neg h3, if_neg h4, if_pos (eq_of_beq h5)]
    rw [e]
    repeat (first | refine zr ?_ | (refine zn ?_; intro _))
    refine exec_draw (lst := [(0, 0), (1, 1), (2, 0), (3, 4), (4, 0), (5, 16), (6, 3), (7, 67), (8, 207), (9, 463), (10, 1023), (11, 2047)]) (full := 4095) (by kernel_rfl) (by kernel_rfl) (by kernel_rfl) (by kernel_rfl) ?_
    repeat (first | refine zd ?_)
    try refine draw_nil ?_
    refine draw_w rfl rfl rfl rfl rfl rfl (step_storeZ 0 rfl rfl rfl rfl rfl rfl rfl rfl rfl (zst ?_))
    repeat (first | refine zd ?_)
    try refine draw_nil ?_
    refine draw_w rfl rfl rfl rfl rfl rfl (step_storeZ 0 rfl rfl rfl rfl rfl rfl rfl rfl rfl (zst ?_))
    repeat (first | refine zd ?_)
    try refine draw_nil ?_
    refine draw_w rfl rfl rfl rfl rfl rfl (step_storeZ 0 rfl rfl rfl rfl rfl rfl rfl rfl rfl (zst ?_))
    repeat (first | refine zd ?_)
    try refine draw_nil ?_
    repeat (first | refine zr ?_ | (refine zn ?_; intro _))
    refine ⟨trivial, [_], ⟨look_agg 1 rfl rfl rfl rfl, trivial⟩, rfl⟩
  have h5 : ¬ usesZ x.op = 5 := beq_eq_false_iff_ne.1 h5
  repeat (first | refine zr ?_ | (refine zn ?_; intro _))
  cases h6 : (usesZ x.op == 6)
  rotate_left
  · have e : usedI x = ⟨x.op, 0, 0, [], x.cl, [], []⟩ := by rw [usedI, if_neg h1, if_neg h2, if_neg h3, if_neg h4, if_neg h5, if_pos (eq_of_beq h6)]
    rw [e]
    repeat (first | refine zr ?_ | (refine zn ?_; intro _))
    refine ⟨trivial, [_], ⟨look_agg 1 rfl rfl rfl rfl, trivial⟩, rfl⟩
  have h6 : ¬ usesZ x.op = 6 := beq_eq_false_iff_ne.1 h6
  repeat (first | refine zr ?_ | (refine zn ?_; intro _))
  have e : usedI x = ⟨x.op, 0, 0, [], [], [], []⟩ := by rw [usedI, if_neg h1, if_neg h2, if_neg h3, if_neg h4, if_neg h5, if_neg h6]
  rw [e]
  refine ⟨trivial, [_], ⟨look_agg 1 rfl rfl rfl rfl, trivial⟩, rfl⟩
end Go.Proofs.YtlhkndjloeoodaaGreat
namespace Go.Proofs.YtlhkndjloeoodaaGreat
open Go.Ev Go.Ev.Wk
variable {O : Old}
def typeL (k : Int) (cl : List UInt8) : List UInt8 :=
  if k = 1 then [73] else if k = 2 then [83] else if k = 3 then [65] else if k = 5 then [86] else if k = 4 then [76] ++ cl ++ [59] else []
set_option maxHeartbeats 8000000 in
set_option maxRecDepth 100000 in
theorem type_ok {H : Heap} {k : Int} {cl : List UInt8} (hl : cl.length ≤ 100000000) : CallC TT O 122 [.agg #[.int .i64 k, str cl]] H fun v H' => v = str (typeL k cl) ∧ Ext H H' := by
  refine call_pure rfl rfl rfl rfl rfl ?_
  repeat (first | refine zrm ?_ | (refine zn ?_; intro _))
  cases h1 : (k == 1)
  rotate_left
  · repeat (first | refine zrm ?_ | (refine zn ?_; intro _))
    obtain rfl : k = 1 := by simpa using h1
    exact ⟨trivial, _, rfl, rfl⟩
  repeat (first | refine zrm ?_ | (refine zn ?_; intro _))
  cases h2 : (k == 2)
  rotate_left
  · repeat (first | refine zrm ?_ | (refine zn ?_; intro _))
    obtain rfl : k = 2 := by simpa using h2
    exact ⟨trivial, _, rfl, rfl⟩
  repeat (first | refine zrm ?_ | (refine zn ?_; intro _))
  cases h3 : (k == 3)
  rotate_left
  · repeat (first | refine zrm ?_ | (refine zn ?_; intro _))
    obtain rfl : k = 3 := by simpa using h3
    exact ⟨trivial, _, rfl, rfl⟩
  repeat (first | refine zrm ?_ | (refine zn ?_; intro _))
  cases h5 : (k == 5)
  rotate_left
  · repeat (first | refine zrm ?_ | (refine zn ?_; intro _))
    obtain rfl : k = 5 := by simpa using h5
    exact ⟨trivial, _, rfl, rfl⟩
  repeat (first | refine zrm ?_ | (refine zn ?_; intro _))
  cases h4 : (k == 4)
  · repeat (first | refine zrm ?_ | (refine zn ?_; intro _))
    refine ⟨trivial, _, rfl, ?_⟩
    have h1 : ¬ k = 1 := by simpa using h1
    have h2 : ¬ k = 2 := by simpa using h2
    have h3 : ¬ k = 3 := by simpa using h3
    have h4 : ¬ k = 4 := by simpa using h4
    have h5 : ¬ k = 5 := by simpa using h5
    rw [typeL, if_neg h1, if_neg h2, if_neg h3, if_neg h5, if_neg h4]
    rfl
  · repeat (first | refine zrm ?_ | (refine zn ?_; intro _))
    obtain rfl : k = 4 := by simpa using h4
    exact ⟨trivial, _, rfl, rfl⟩
end Go.Proofs.YtlhkndjloeoodaaGreat
namespace Go.Proofs.YtlhkndjloeoodaaGreat
open Go.Ev Go.Ev.Wk
variable {O : Old}
def cpL (s : List UInt8) (c : UInt8) : List UInt8 := if s.take 1 = [c] then s.drop 1 else s
def cutL (s : List UInt8) : List UInt8 × List UInt8 × Bool := match s.findIdx? (· == 59) with
  | some i => (s.take i, s.drop (i + 1), true)
  | none => (s, [], false)
set_option maxHeartbeats 8000000 in
set_option maxRecDepth 100000 in
theorem lhasPrefix_ok {H : Heap} {s : List UInt8} {c : UInt8} : CallC TT O 199 [str s, str [c]] H fun v H' => v = .bool (decide (s.take 1 = [c])) ∧ Ext H H' := by
  refine call_pure rfl rfl rfl rfl rfl ?_
  cases s with
  | nil =>
    repeat (first | refine zrb ?_ | (refine zn ?_; intro _))
    exact ⟨trivial, _, rfl, rfl⟩
  | cons a r =>
    repeat (first | refine zrb ?_ | (refine zn ?_; intro _))
    cases h : decide (((a :: r).length : Int) ≥ 1)
    · have := of_decide_eq_false h
      simp at this
      omega
    · repeat (first | refine zrb ?_ | (refine zn ?_; intro _))
      have hl : 1 ≤ (a :: r).length := by simp
      (first | apply ops_pl rfl rfl rfl ?_ rfl ?_ | apply draw_pl rfl rfl rfl rfl ?_ rfl rfl ?_); rotate_left; focus exact (.l rfl (look_scut (l := 0) (h := 1) rfl rfl rfl rfl (by first | rfl | omega | exact hw) rfl (by first | rfl | omega | exact hw) rfl (by omega) (by omega)))
      repeat (first | refine zrb ?_ | (refine zn ?_; intro _))
      refine ⟨trivial, _, rfl, ?_⟩
      show Value.bool ([a] == [c]) = Value.bool (decide ([a] = [c]))
      by_cases h : [a] = [c]
      · rw [h]; simp
      · rw [decide_eq_false h, beq_eq_false_iff_ne.2 h]
set_option maxHeartbeats 8000000 in
set_option maxRecDepth 100000 in
theorem hasPrefix_ok {H : Heap} {s : List UInt8} {c : UInt8} : CallC TT O 192 [str s, str [c]] H fun v H' => v = .bool (decide (s.take 1 = [c])) ∧ Ext H H' := by
  refine call_pure rfl rfl rfl rfl rfl ?_
  repeat (first | refine zrb ?_ | (refine zn ?_; intro _))
  refine ops_step rfl rfl rfl (step_call_pure rfl rfl rfl (fun H hs => lhasPrefix_ok) ?_)
  repeat (first | refine zrb ?_ | (refine zn ?_; intro _))
  exact ⟨trivial, _, rfl, rfl⟩
set_option maxHeartbeats 8000000 in
set_option maxRecDepth 100000 in
theorem lcutPrefix_ok {H : Heap} {s : List UInt8} {c : UInt8} : CallC TT O 194 [str s, str [c]] H fun v H' => v = .tuple #[str (cpL s c), .bool (decide (s.take 1 = [c]))] ∧ Ext H H' := by
  refine call_pure rfl rfl rfl rfl rfl ?_
  repeat (first | refine zrb ?_ | (refine zn ?_; intro _))
  refine ops_step rfl rfl rfl (step_call_pure rfl rfl rfl (fun H hs => lhasPrefix_ok) ?_)
  cases h : decide (s.take 1 = [c])
  · repeat (first | refine zrb ?_ | (refine zn ?_; intro _))
    refine ⟨trivial, _, rfl, ?_⟩
    rw [cpL, if_neg (of_decide_eq_false h)]
    rfl
  · have h1 := of_decide_eq_true h
    have hl : 1 ≤ s.length := by
      cases s with
      | nil => cases h1
      | cons a r => simp
    repeat (first | refine zrb ?_ | (refine zn ?_; intro _))
    (first | apply ops_pl rfl rfl rfl ?_ rfl ?_ | apply draw_pl rfl rfl rfl rfl ?_ rfl rfl ?_); rotate_left; focus exact (.l rfl (look_scut (l := 1) (h := s.length) rfl rfl rfl rfl (by first | rfl | omega | exact hw) rfl (by first | rfl | omega | exact hw) rfl (by omega) (by omega)))
    repeat (first | refine zrb ?_ | (refine zn ?_; intro _))
    refine ⟨trivial, _, rfl, ?_⟩
    rw [cpL, if_pos h1, List.take_length]
    rfl
set_option maxHeartbeats 8000000 in
set_option maxRecDepth 100000 in
theorem cutPrefix_ok {H : Heap} {s : List UInt8} {c : UInt8} : CallC TT O 174 [str s, str [c]] H fun v H' => v = .tuple #[str (cpL s c), .bool (decide (s.take 1 = [c]))] ∧ Ext H H' := by
  refine call_pure rfl rfl rfl rfl rfl ?_
  repeat (first | refine zrb ?_ | (refine zn ?_; intro _))
  refine ops_step rfl rfl rfl (step_call_pure rfl rfl rfl (fun H hs => lcutPrefix_ok) ?_)
  repeat (first | refine zrb ?_ | (refine zn ?_; intro _))
  exact ⟨trivial, _, rfl, rfl⟩
abbrev ixV (s : List UInt8) : Value := .int .i64 (match s.findIdx? (· == 59) with | some i => (i : Int) | none => -1)
set_option maxHeartbeats 8000000 in
set_option maxRecDepth 100000 in
theorem indexByte_ok {H : Heap} {s : List UInt8} {n : Int} (hn : n = 59) : CallC TT O 203 [str s, .int .u8 n] H fun v H' => v = ixV s ∧ Ext H H' := by
  refine call_pure rfl rfl rfl rfl rfl ?_
  repeat (first | refine zrb ?_ | (refine zn ?_; intro _))
  refine ops_step rfl rfl rfl (step_call_pure rfl rfl rfl (fun H hs => call_ibs (c := 59) rfl hn) ?_)
  repeat (first | refine zrb ?_ | (refine zn ?_; intro _))
  exact ⟨trivial, _, rfl, rfl⟩
set_option maxHeartbeats 8000000 in
set_option maxRecDepth 100000 in
theorem index_ok {H : Heap} {s : List UInt8} : CallC TT O 202 [str s, str [59]] H fun v H' => v = ixV s ∧ Ext H H' := by
  refine call_pure rfl rfl rfl rfl rfl ?_
  repeat (first | refine zrb ?_ | (refine zn ?_; intro _))
  refine exec_cond rfl (fun h => ?_) (fun h => ?_)
  · repeat (first | refine zrb ?_ | (refine zn ?_; intro _))
    have h : ([59] : List UInt8) = s := by simpa using h
    subst h
    exact ⟨trivial, _, rfl, rfl⟩
  · repeat (first | refine zrb ?_ | (refine zn ?_; intro _))
    refine ops_step rfl rfl rfl (step_call_pure rfl rfl rfl (fun H hs => indexByte_ok rfl) ?_)
    repeat (first | refine zrb ?_ | (refine zn ?_; intro _))
    exact ⟨trivial, _, rfl, rfl⟩
set_option maxHeartbeats 8000000 in
set_option maxRecDepth 100000 in
theorem lcut_ok {H : Heap} {s : List UInt8} (hs0 : s.length ≤ 100000000) : CallC TT O 200 [str s, str [59]] H fun v H' => v = .tuple #[str (cutL s).1, str (cutL s).2.1, .bool (cutL s).2.2] ∧ Ext H H' := by
  refine call_pure rfl rfl rfl rfl rfl ?_
  repeat (first | refine zrb ?_ | (refine zn ?_; intro _))
  refine ops_step rfl rfl rfl (step_call_pure rfl rfl rfl (fun H hs => index_ok) ?_)
  cases h : s.findIdx? (· == 59) with
  | none =>
    have e : ixV s = .int .i64 (-1) := by rw [ixV, h]
    rw [e]
    repeat (first | refine zrb ?_ | (refine zn ?_; intro _))
    refine ⟨trivial, _, rfl, ?_⟩
    rw [cutL, h]
    rfl
  | some i =>
    have e : ixV s = .int .i64 (i : Int) := by rw [ixV, h]
    rw [e]
    obtain ⟨hi, _, _⟩ := List.findIdx?_eq_some_iff_getElem.1 h
    repeat (first | refine zrb ?_ | (refine zn ?_; intro _))
    cases h0 : decide ((i : Int) ≥ 0)
    · have := of_decide_eq_false h0
      omega
    · repeat (first | refine zrb ?_ | (refine zn ?_; intro _))
      refine exec_draw (lst := [(0, 0), (1, 0), (2, 3), (3, 0), (4, 0), (5, 0), (6, 32), (7, 112), (8, 248), (9, 7), (10, 1023), (11, 2047)]) (full := 4095) (by kernel_rfl) (by kernel_rfl) (by kernel_rfl) (by kernel_rfl) ?_
      repeat (first | refine zdb ?_)
      try refine draw_nil ?_
      (first | apply ops_pl rfl rfl rfl ?_ rfl ?_ | apply draw_pl rfl rfl rfl rfl ?_ rfl rfl ?_); rotate_left; focus exact (.l rfl (look_scut (l := 0) (h := i) rfl rfl rfl rfl (by first | rfl | omega | exact hw) rfl (by first | rfl | omega | exact hw) rfl (by omega) (by omega)))
      repeat (first | refine zdb ?_)
      try refine draw_nil ?_
      have hw : IntKind.i64.wrap ((i : Int) + (([59] : List UInt8).length : Int)) = ((i + 1 : Nat) : Int) := w64 (by rfl) (by omega) (by omega)
      (first | apply ops_pl rfl rfl rfl ?_ rfl ?_ | apply draw_pl rfl rfl rfl rfl ?_ rfl rfl ?_); rotate_left; focus exact (.l rfl (look_scut (l := i + 1) (h := s.length) rfl rfl rfl rfl (by first | rfl | omega | exact hw) rfl (by first | rfl | omega | exact hw) rfl (by omega) (by omega)))
      repeat (first | refine zdb ?_)
      try refine draw_nil ?_
      repeat (first | refine zrb ?_ | (refine zn ?_; intro _))
      refine ⟨trivial, _, rfl, ?_⟩
      rw [cutL, h]
      simp only [List.take_length, List.drop_zero]
      rfl
set_option maxHeartbeats 8000000 in
set_option maxRecDepth 100000 in
theorem cut_ok {H : Heap} {s : List UInt8} (hs0 : s.length ≤ 100000000) : CallC TT O 193 [str s, str [59]] H fun v H' => v = .tuple #[str (cutL s).1, str (cutL s).2.1, .bool (cutL s).2.2] ∧ Ext H H' := by
  refine call_pure rfl rfl rfl rfl rfl ?_
  repeat (first | refine zrb ?_ | (refine zn ?_; intro _))
  refine ops_step rfl rfl rfl (step_call_pure rfl rfl rfl (fun H hs => lcut_ok hs0) ?_)
  repeat (first | refine zrb ?_ | (refine zn ?_; intro _))
  exact ⟨trivial, _, rfl, rfl⟩
end Go.Proofs.YtlhkndjloeoodaaGreat
namespace Go.Proofs.YtlhkndjloeoodaaGreat
open Go.Ev Go.Ev.Wk
variable {O : Old}
abbrev typW (x : Int × List UInt8) : Value := .agg #[.int .i64 x.1, str x.2]
def fstC (s : List UInt8) : (Int × List UInt8) × List UInt8 × Bool :=
  if s.take 1 = [73] then ((1, []), s.drop 1, true)
  else if s.take 1 = [83] then ((2, []), s.drop 1, true)
  else if s.take 1 = [65] then ((3, []), s.drop 1, true)
  else if s.take 1 = [86] then ((5, []), s.drop 1, true)
  else ((4, cpL (cutL s).1 76), (cutL s).2.1, (cutL s).2.2 && (decide ((cutL s).1.take 1 = [76]) && nameL (cpL (cutL s).1 76)))
theorem len1 {s : List UInt8} {c : UInt8} (h : s.take 1 = [c]) : 1 ≤ s.length := by
  cases s with
  | nil => cases h
  | cons a r => simp
set_option maxHeartbeats 8000000 in
set_option maxRecDepth 100000 in
theorem first_ok {H : Heap} {s : List UInt8} (hs0 : s.length ≤ 100000000) : CallC TT O 173 [str s] H fun v H' => v = .tuple #[typW (fstC s).1, str (fstC s).2.1, .bool (fstC s).2.2] ∧ Ext H H' := by
  refine call_pureM rfl rfl rfl rfl rfl ?_
  repeat (first | refine zrb ?_ | (refine zn ?_; intro _))
  refine exec_loop_step ?_
  repeat (first | refine zrb ?_ | (refine zn ?_; intro _))
  refine ops_step rfl rfl rfl (step_call_pure rfl rfl rfl (fun H hs => type_ok (k := 1) (cl := []) (by simp)) ?_)
  refine ops_step rfl rfl rfl (step_call_pure rfl rfl rfl (fun H hs => hasPrefix_ok (s := s) (c := 73)) ?_)
  cases h1 : decide (s.take 1 = [73])
  rotate_left
  · have e1 := of_decide_eq_true h1
    have hl := len1 e1
    repeat (first | refine zrb ?_ | (refine zn ?_; intro _))
    refine exec_draw (lst := [(0, 0), (1, 0), (2, 2), (3, 1), (4, 15), (5, 31)]) (full := 63) (by kernel_rfl) (by kernel_rfl) (by kernel_rfl) (by kernel_rfl) ?_
    repeat (first | refine zdb ?_)
    try refine draw_nil ?_
    (first | apply ops_pl rfl rfl rfl ?_ rfl ?_ | apply draw_pl rfl rfl rfl rfl ?_ rfl rfl ?_); rotate_left; focus exact (.l rfl (look_scut (l := 1) (h := s.length) rfl rfl rfl rfl (by first | rfl | omega | exact hw) rfl (by first | rfl | omega | exact hw) rfl (by omega) (by omega)))
    repeat (first | refine zdb ?_)
    try refine draw_nil ?_
    refine draw_w rfl rfl rfl rfl rfl rfl (step_store 2 rfl rfl rfl rfl rfl rfl rfl rfl rfl ⟨by repeat (first | exact True.intro | refine And.intro (.inl rfl) ?_ | refine And.intro (.inr ⟨veq_refl rfl, (fun _ _ => rfl)⟩) ?_ | refine And.intro (.inr ⟨veq_refl rfl, (look_scut (l := 1) (h := s.length) rfl rfl rfl rfl rfl rfl rfl rfl (by omega) (by omega))⟩) ?_ | refine And.intro (.inr ⟨veq_refl rfl, (look_agg 0 rfl rfl rfl rfl)⟩) ?_ | refine And.intro (.inr ⟨veq_refl rfl, (look_agg 1 rfl rfl rfl rfl)⟩) ?_), ?_⟩)
    repeat (first | refine zdb ?_)
    try refine draw_nil ?_
    repeat (first | refine zrb ?_ | (refine zn ?_; intro _))
    refine ⟨trivial, [_, _, _], ⟨look_agg 2 rfl rfl rfl rfl, rfl, rfl, trivial⟩, ?_⟩
    rw [show fstC s = ((1, []), s.drop 1, true) from by rw [fstC, if_pos e1], List.take_length]
    rfl
  have h1 := of_decide_eq_false h1
  repeat (first | refine zrb ?_ | (refine zn ?_; intro _))
  refine exec_loop_step ?_
  repeat (first | refine zrb ?_ | (refine zn ?_; intro _))
  refine ops_step rfl rfl rfl (step_call_pure rfl rfl rfl (fun H hs => type_ok (k := 2) (cl := []) (by simp)) ?_)
  refine ops_step rfl rfl rfl (step_call_pure rfl rfl rfl (fun H hs => hasPrefix_ok (s := s) (c := 83)) ?_)
  cases h2 : decide (s.take 1 = [83])
  rotate_left
  · have e1 := of_decide_eq_true h2
    have hl := len1 e1
    repeat (first | refine zrb ?_ | (refine zn ?_; intro _))
    refine exec_draw (lst := [(0, 0), (1, 0), (2, 2), (3, 1), (4, 15), (5, 31)]) (full := 63) (by kernel_rfl) (by kernel_rfl) (by kernel_rfl) (by kernel_rfl) ?_
    repeat (first | refine zdb ?_)
    try refine draw_nil ?_
    (first | apply ops_pl rfl rfl rfl ?_ rfl ?_ | apply draw_pl rfl rfl rfl rfl ?_ rfl rfl ?_); rotate_left; focus exact (.l rfl (look_scut (l := 1) (h := s.length) rfl rfl rfl rfl (by first | rfl | omega | exact hw) rfl (by first | rfl | omega | exact hw) rfl (by omega) (by omega)))
    repeat (first | refine zdb ?_)
    try refine draw_nil ?_
    refine draw_w rfl rfl rfl rfl rfl rfl (step_store 3 rfl rfl rfl rfl rfl rfl rfl rfl rfl ⟨by repeat (first | exact True.intro | refine And.intro (.inl rfl) ?_ | refine And.intro (.inr ⟨veq_refl rfl, (fun _ _ => rfl)⟩) ?_ | refine And.intro (.inr ⟨veq_refl rfl, (look_scut (l := 1) (h := s.length) rfl rfl rfl rfl rfl rfl rfl rfl (by omega) (by omega))⟩) ?_ | refine And.intro (.inr ⟨veq_refl rfl, (look_agg 0 rfl rfl rfl rfl)⟩) ?_ | refine And.intro (.inr ⟨veq_refl rfl, (look_agg 1 rfl rfl rfl rfl)⟩) ?_), ?_⟩)
    repeat (first | refine zdb ?_)
    try refine draw_nil ?_
    repeat (first | refine zrb ?_ | (refine zn ?_; intro _))
    refine ⟨trivial, [_, _, _], ⟨look_agg 3 rfl rfl rfl rfl, rfl, rfl, trivial⟩, ?_⟩
    rw [show fstC s = ((2, []), s.drop 1, true) from by rw [fstC, if_neg h1, if_pos e1], List.take_length]
    rfl
  have h2 := of_decide_eq_false h2
  repeat (first | refine zrb ?_ | (refine zn ?_; intro _))
  refine exec_loop_step ?_
  repeat (first | refine zrb ?_ | (refine zn ?_; intro _))
  refine ops_step rfl rfl rfl (step_call_pure rfl rfl rfl (fun H hs => type_ok (k := 3) (cl := []) (by simp)) ?_)
  refine ops_step rfl rfl rfl (step_call_pure rfl rfl rfl (fun H hs => hasPrefix_ok (s := s) (c := 65)) ?_)
  cases h3 : decide (s.take 1 = [65])
  rotate_left
  · have e1 := of_decide_eq_true h3
    have hl := len1 e1
    repeat (first | refine zrb ?_ | (refine zn ?_; intro _))
    refine exec_draw (lst := [(0, 0), (1, 0), (2, 2), (3, 1), (4, 15), (5, 31)]) (full := 63) (by kernel_rfl) (by kernel_rfl) (by kernel_rfl) (by kernel_rfl) ?_
    repeat (first | refine zdb ?_)
    try refine draw_nil ?_
    (first | apply ops_pl rfl rfl rfl ?_ rfl ?_ | apply draw_pl rfl rfl rfl rfl ?_ rfl rfl ?_); rotate_left; focus exact (.l rfl (look_scut (l := 1) (h := s.length) rfl rfl rfl rfl (by first | rfl | omega | exact hw) rfl (by first | rfl | omega | exact hw) rfl (by omega) (by omega)))
    repeat (first | refine zdb ?_)
    try refine draw_nil ?_
    refine draw_w rfl rfl rfl rfl rfl rfl (step_store 4 rfl rfl rfl rfl rfl rfl rfl rfl rfl ⟨by repeat (first | exact True.intro | refine And.intro (.inl rfl) ?_ | refine And.intro (.inr ⟨veq_refl rfl, (fun _ _ => rfl)⟩) ?_ | refine And.intro (.inr ⟨veq_refl rfl, (look_scut (l := 1) (h := s.length) rfl rfl rfl rfl rfl rfl rfl rfl (by omega) (by omega))⟩) ?_ | refine And.intro (.inr ⟨veq_refl rfl, (look_agg 0 rfl rfl rfl rfl)⟩) ?_ | refine And.intro (.inr ⟨veq_refl rfl, (look_agg 1 rfl rfl rfl rfl)⟩) ?_), ?_⟩)
    repeat (first | refine zdb ?_)
    try refine draw_nil ?_
    repeat (first | refine zrb ?_ | (refine zn ?_; intro _))
    refine ⟨trivial, [_, _, _], ⟨look_agg 4 rfl rfl rfl rfl, rfl, rfl, trivial⟩, ?_⟩
    rw [show fstC s = ((3, []), s.drop 1, true) from by rw [fstC, if_neg h1, if_neg h2, if_pos e1], List.take_length]
    rfl
  have h3 := of_decide_eq_false h3
  repeat (first | refine zrb ?_ | (refine zn ?_; intro _))
  refine exec_loop_step ?_
  repeat (first | refine zrb ?_ | (refine zn ?_; intro _))
  refine ops_step rfl rfl rfl (step_call_pure rfl rfl rfl (fun H hs => type_ok (k := 5) (cl := []) (by simp)) ?_)
  refine ops_step rfl rfl rfl (step_call_pure rfl rfl rfl (fun H hs => hasPrefix_ok (s := s) (c := 86)) ?_)
  cases h4 : decide (s.take 1 = [86])
  rotate_left
  · have e1 := of_decide_eq_true h4
    have hl := len1 e1
    repeat (first | refine zrb ?_ | (refine zn ?_; intro _))
    refine exec_draw (lst := [(0, 0), (1, 0), (2, 2), (3, 1), (4, 15), (5, 31)]) (full := 63) (by kernel_rfl) (by kernel_rfl) (by kernel_rfl) (by kernel_rfl) ?_
    repeat (first | refine zdb ?_)
    try refine draw_nil ?_
    (first | apply ops_pl rfl rfl rfl ?_ rfl ?_ | apply draw_pl rfl rfl rfl rfl ?_ rfl rfl ?_); rotate_left; focus exact (.l rfl (look_scut (l := 1) (h := s.length) rfl rfl rfl rfl (by first | rfl | omega | exact hw) rfl (by first | rfl | omega | exact hw) rfl (by omega) (by omega)))
    repeat (first | refine zdb ?_)
    try refine draw_nil ?_
    refine draw_w rfl rfl rfl rfl rfl rfl (step_store 5 rfl rfl rfl rfl rfl rfl rfl rfl rfl ⟨by repeat (first | exact True.intro | refine And.intro (.inl rfl) ?_ | refine And.intro (.inr ⟨veq_refl rfl, (fun _ _ => rfl)⟩) ?_ | refine And.intro (.inr ⟨veq_refl rfl, (look_scut (l := 1) (h := s.length) rfl rfl rfl rfl rfl rfl rfl rfl (by omega) (by omega))⟩) ?_ | refine And.intro (.inr ⟨veq_refl rfl, (look_agg 0 rfl rfl rfl rfl)⟩) ?_ | refine And.intro (.inr ⟨veq_refl rfl, (look_agg 1 rfl rfl rfl rfl)⟩) ?_), ?_⟩)
    repeat (first | refine zdb ?_)
    try refine draw_nil ?_
    repeat (first | refine zrb ?_ | (refine zn ?_; intro _))
    refine ⟨trivial, [_, _, _], ⟨look_agg 5 rfl rfl rfl rfl, rfl, rfl, trivial⟩, ?_⟩
    rw [show fstC s = ((5, []), s.drop 1, true) from by rw [fstC, if_neg h1, if_neg h2, if_neg h3, if_pos e1], List.take_length]
    rfl
  have h4 := of_decide_eq_false h4
  repeat (first | refine zrb ?_ | (refine zn ?_; intro _))
  refine exec_loop_step ?_
  repeat (first | refine zrb ?_ | (refine zn ?_; intro _))
  refine ops_step rfl rfl rfl (step_call_pure rfl rfl rfl (fun H hs => cut_ok hs0) ?_)
  repeat (first | refine zrb ?_ | (refine zn ?_; intro _))
  refine ops_step rfl rfl rfl (step_call_pure rfl rfl rfl (fun H hs => cutPrefix_ok (s := (cutL s).1) (c := 76)) ?_)
  repeat (first | refine zrb ?_ | (refine zn ?_; intro _))
  cases hf : (cutL s).2.2
  · repeat (first | refine zrb ?_ | (refine zn ?_; intro _))
    refine ⟨trivial, [_, _, _], ⟨look_agg 5 rfl rfl rfl rfl, rfl, rfl, trivial⟩, ?_⟩
    rw [show fstC s = ((4, cpL (cutL s).1 76), (cutL s).2.1, (cutL s).2.2 && (decide ((cutL s).1.take 1 = [76]) && nameL (cpL (cutL s).1 76))) from by rw [fstC, if_neg h1, if_neg h2, if_neg h3, if_neg h4], hf]
    rfl
  repeat (first | refine zrb ?_ | (refine zn ?_; intro _))
  cases hg : decide ((cutL s).1.take 1 = [76])
  · repeat (first | refine zrb ?_ | (refine zn ?_; intro _))
    refine ⟨trivial, [_, _, _], ⟨look_agg 5 rfl rfl rfl rfl, rfl, rfl, trivial⟩, ?_⟩
    rw [show fstC s = ((4, cpL (cutL s).1 76), (cutL s).2.1, (cutL s).2.2 && (decide ((cutL s).1.take 1 = [76]) && nameL (cpL (cutL s).1 76))) from by rw [fstC, if_neg h1, if_neg h2, if_neg h3, if_neg h4], hf, hg]
    rfl
  repeat (first | refine zrb ?_ | (refine zn ?_; intro _))
  refine ops_step rfl rfl rfl (step_call_pure rfl rfl rfl (fun H hs => name_ok) ?_)
  repeat (first | refine zrb ?_ | (refine zn ?_; intro _))
  refine ⟨trivial, [_, _, _], ⟨look_agg 5 rfl rfl rfl rfl, rfl, rfl, trivial⟩, ?_⟩
  rw [show fstC s = ((4, cpL (cutL s).1 76), (cutL s).2.1, (cutL s).2.2 && (decide ((cutL s).1.take 1 = [76]) && nameL (cpL (cutL s).1 76))) from by rw [fstC, if_neg h1, if_neg h2, if_neg h3, if_neg h4], hf, hg]
  rfl
def oneC (s : List UInt8) : (Int × List UInt8) × Bool := if (fstC s).2.2 = true ∧ (fstC s).2.1 = [] then ((fstC s).1, true) else ((0, []), false)
set_option maxHeartbeats 8000000 in
set_option maxRecDepth 100000 in
theorem one_ok {H : Heap} {s : List UInt8} (hs0 : s.length ≤ 100000000) : CallC TT O 138 [str s] H fun v H' => v = .tuple #[typW (oneC s).1, .bool (oneC s).2] ∧ Ext H H' := by
  refine call_pureM rfl rfl rfl rfl rfl ?_
  repeat (first | refine zrb ?_ | (refine zn ?_; intro _))
  refine ops_step rfl rfl rfl (step_call_pure rfl rfl rfl (fun H hs => first_ok hs0) ?_)
  repeat (first | refine zrb ?_ | (refine zn ?_; intro _))
  cases hf : (fstC s).2.2
  · repeat (first | refine zrb ?_ | (refine zn ?_; intro _))
    refine ⟨trivial, [_, _], ⟨look_agg 1 rfl rfl rfl rfl, rfl, trivial⟩, ?_⟩
    rw [oneC, if_neg (by rw [hf]; simp)]
    rfl
  · repeat (first | refine zrb ?_ | (refine zn ?_; intro _))
    refine exec_cond rfl (fun hne => ?_) (fun heq => ?_)
    · repeat (first | refine zrb ?_ | (refine zn ?_; intro _))
      refine ⟨trivial, [_, _], ⟨look_agg 1 rfl rfl rfl rfl, rfl, trivial⟩, ?_⟩
      have hne : ¬ (fstC s).2.1 = [] := by intro h; rw [h] at hne; simp at hne
      rw [oneC, if_neg (fun h => hne h.2)]
      rfl
    · repeat (first | refine zrb ?_ | (refine zn ?_; intro _))
      refine ⟨trivial, [_, _], ⟨look_agg 1 rfl rfl rfl rfl, rfl, trivial⟩, ?_⟩
      have heq : (fstC s).2.1 = [] := by simpa using heq
      rw [oneC, if_pos ⟨hf, heq⟩]
      rfl
end Go.Proofs.YtlhkndjloeoodaaGreat
namespace Go.Proofs.YtlhkndjloeoodaaGreat
open Go.Ev Go.Ev.Wk
variable {O : Old}
abbrev typV (x : Int × List UInt8) : Value := .agg #[.int .i64 x.1, str x.2]
def typC : List (Int × List UInt8) → List Value
  | [] => []
  | p :: l => .int .i64 p.1 :: str p.2 :: typC l
theorem typC_length : ∀ l, (typC l).length = l.length * 2
  | [] => rfl
  | p :: l => by simp only [typC, List.length_cons, typC_length l]; omega
theorem typC_drop : ∀ (l : List (Int × List UInt8)) (i : Nat), (typC l).drop (i * 2) = typC (l.drop i)
  | l, 0 => by simp
  | [], i + 1 => by simp [typC]
  | p :: l, i + 1 => by
    rw [show (i + 1) * 2 = i * 2 + 1 + 1 from by omega]
    simp only [typC, List.drop_succ_cons]
    exact typC_drop l i
theorem typC_at {l : List (Int × List UInt8)} {i : Nat} {p : Int × List UInt8} (h : l[i]? = some p) : ((typC l).drop (i * 2)).take 2 = [.int .i64 p.1, str p.2] := by
  rw [typC_drop]
  obtain ⟨hi, rfl⟩ := List.getElem?_eq_some_iff.1 h
  rw [List.drop_eq_getElem_cons hi]
  rfl
theorem typC_app : ∀ a b, typC (a ++ b) = typC a ++ typC b
  | [], b => rfl
  | p :: a, b => by simp only [List.cons_append, typC, typC_app a b]
theorem eqV_typ (a b : Int × List UInt8) : eqV TT 55 (typV a) (typV b) = some (decide (a = b)) := by
  have h : eqV TT 55 (typV a) (typV b) = (match some (a.1 == b.1) with | some true => (match some (a.2 == b.2) with | some true => some true | some false => some false | none => none) | some false => some false | none => none) := rfl
  rw [h]
  obtain ⟨a1, a2⟩ := a
  obtain ⟨b1, b2⟩ := b
  by_cases h1 : a1 = b1
  · subst h1
    by_cases h2 : a2 = b2
    · subst h2; simp
    · have e : (a2 == b2) = false := beq_eq_false_iff_ne.2 h2
      simp [h2, e]
  · have e : (a1 == b1) = false := beq_eq_false_iff_ne.2 h1
    simp [h1, e]
theorem PL.neqTyp {X : List Nat} {H0 : Heap} {E : Env} {L : Atoms} {o : Oper} {x y : Operand} {yt : Nat} {a b : Int × List UInt8} (ho : o.op = .binOp .neq 55 x y yt) (hx : lk E x = some (typV a)) (hy : lk E y = some (typV b)) : PL TT O X H0 E L o (.bool (!decide (a = b))) := by
  refine .p (by rw [ho]; rfl) ?_
  rw [ho]
  simp only [opP, hx, hy]
  show (match eqV TT 55 (typV a) (typV b) with | some b => some (Value.bool (!b)) | none => none) = _
  rw [eqV_typ]
set_option maxHeartbeats 8000000 in
set_option maxRecDepth 100000 in
theorem equalT_ok {H : Heap} {aa ab : Option Addr} {n m ca cb : Nat} {la lb : List (Int × List UInt8)} (ha : Sl O H (.slice aa n ca) 2 n (typC la)) (hb : Sl O H (.slice ab m cb) 2 m (typC lb)) (hn : n ≤ 1073741824) :
    CallC TT O 172 [.slice aa n ca, .slice ab m cb] H fun v H' => v = .bool (decide (la = lb)) ∧ Ext H H' := by
  have hla : la.length = n := by have := ha.1; rw [typC_length] at this; omega
  have hlb : lb.length = m := by have := hb.1; rw [typC_length] at this; omega
  refine call_pure rfl rfl rfl rfl rfl ?_
  repeat (first | refine zr ?_ | (refine zn ?_; intro _))
  refine exec_cond rfl (fun hne => ?_) (fun heq => ?_)
  · repeat (first | refine zr ?_ | (refine zn ?_; intro _))
    refine ⟨trivial, _, rfl, ?_⟩
    have : la ≠ lb := by
      rintro rfl
      simp at hne
      omega
    rw [decide_eq_false this]; rfl
  have hnm : n = m := by simp at heq; omega
  subst hnm
  repeat (first | refine zr ?_ | (refine zn ?_; intro _))
  refine ExecS.weak (E' := [(0, .slice aa n ca), (1, .slice ab n cb), (12, .int .i64 (n : Int)), (13, .int .i64 ((0 : Nat) : Int))]) ⟨rfl, rfl, rfl, rfl, trivial⟩ (List.Sublist.refl _) ?_
  refine exec_loop (fun k E L => ∃ i : Nat, i + k = n ∧ (∀ j, j < i → la[j]? = lb[j]?) ∧ E = [(0, .slice aa n ca), (1, .slice ab n cb), (12, .int .i64 (n : Int)), (13, .int .i64 (i : Int))] ∧ L = []) ?_ n _ _ ⟨0, by omega, fun j hj => by omega, rfl, rfl⟩
  rintro k E L ⟨i, hik, hpre, rfl, rfl⟩
  repeat (first | refine zr ?_ | (refine zn ?_; intro _))
  refine exec_cond rfl (fun hlt => ?_) (fun hge => ?_)
  · have hi : i < n := by simp at hlt; omega
    obtain ⟨x, hx⟩ : ∃ x, la[i]? = some x := ⟨_, List.getElem?_eq_getElem (by omega)⟩
    obtain ⟨y, hy⟩ : ∃ y, lb[i]? = some y := ⟨_, List.getElem?_eq_getElem (by omega)⟩
    repeat (first | refine zr ?_ | (refine zn ?_; intro _))
    refine exec_draw (lst := [(0, 0), (1, 0), (2, 3), (3, 7), (4, 0), (5, 0), (6, 48), (7, 112), (8, 255)]) (full := 511) (by kernel_rfl) (by kernel_rfl) (by kernel_rfl) (by kernel_rfl) ?_
    repeat (first | refine zd ?_)
    try refine draw_nil ?_
    (first | apply ops_pl rfl rfl rfl ?_ rfl ?_ | apply draw_pl rfl rfl rfl rfl ?_ rfl rfl ?_); rotate_left; focus exact (.p rfl (opP_idx rfl rfl ha rfl rfl (by omega) (by omega)))
    (first | apply ops_pl rfl rfl rfl ?_ rfl ?_ | apply draw_pl rfl rfl rfl rfl ?_ rfl rfl ?_); rotate_left; focus exact (.l rfl (fun H hs => opL_load rfl ((ha.at hs).ldA rfl (by decide) hi (typC_at hx))))
    repeat (first | refine zd ?_)
    try refine draw_nil ?_
    (first | apply ops_pl rfl rfl rfl ?_ rfl ?_ | apply draw_pl rfl rfl rfl rfl ?_ rfl rfl ?_); rotate_left; focus exact (.p rfl (opP_idx rfl rfl hb rfl rfl (by omega) (by omega)))
    (first | apply ops_pl rfl rfl rfl ?_ rfl ?_ | apply draw_pl rfl rfl rfl rfl ?_ rfl rfl ?_); rotate_left; focus exact (.l rfl (fun H hs => opL_load rfl ((hb.at hs).ldA rfl (by decide) hi (typC_at hy))))
    first | refine ops_pl rfl rfl rfl (PL.neqTyp (a := x) (b := y) rfl rfl rfl) rfl ?_ | refine draw_pl rfl rfl rfl rfl (PL.neqTyp (a := x) (b := y) rfl rfl rfl) rfl rfl ?_
    repeat (first | refine zd ?_)
    try refine draw_nil ?_
    cases hxy : decide (x = y)
    · repeat (first | refine zr ?_ | (refine zn ?_; intro _))
      refine ⟨trivial, _, rfl, ?_⟩
      have : la ≠ lb := by
        rintro rfl
        rw [hx] at hy
        exact of_decide_eq_false hxy (Option.some.inj hy)
      rw [decide_eq_false this]; rfl
    · repeat (first | refine zr ?_ | (refine zn ?_; intro _))
      refine ⟨k - 1, by omega, _, _, ?_, List.Sublist.refl _, i + 1, by omega, fun j hj => ?_, rfl, rfl⟩
      · exact ⟨rfl, rfl, rfl, rfl, trivial⟩
      · by_cases hji : j = i
        · subst hji
          rw [hx, hy, of_decide_eq_true hxy]
        · exact hpre j (by omega)
  · have hi : i = n := by simp at hge; omega
    subst hi
    repeat (first | refine zr ?_ | (refine zn ?_; intro _))
    refine ⟨trivial, _, rfl, ?_⟩
    have : la = lb := by
      apply List.ext_getElem?
      intro j
      by_cases hj : j < i
      · exact hpre j hj
      · rw [List.getElem?_eq_none (by omega), List.getElem?_eq_none (by omega)]
    rw [decide_eq_true this]; rfl
set_option maxHeartbeats 8000000 in
set_option maxRecDepth 100000 in
theorem same_ok {H : Heap} {aa ab : Option Addr} {n m ca cb : Nat} {la lb : List (Int × List UInt8)} (ha : Sl O H (.slice aa n ca) 2 n (typC la)) (hb : Sl O H (.slice ab m cb) 2 m (typC lb)) (hn : n ≤ 1073741824) :
    CallC TT O 131 [.slice aa n ca, .slice ab m cb] H fun v H' => v = .bool (decide (la = lb)) ∧ Ext H H' := by
  refine call_pure rfl rfl rfl rfl rfl ?_
  repeat (first | refine zr ?_ | (refine zn ?_; intro _))
  refine ops_step rfl rfl rfl (step_call_pure rfl rfl rfl (fun H hs => equalT_ok (ha.at hs) (hb.at hs) hn) ?_)
  repeat (first | refine zr ?_ | (refine zn ?_; intro _))
  exact ⟨trivial, _, rfl, rfl⟩
end Go.Proofs.YtlhkndjloeoodaaGreat
namespace Go.Proofs.YtlhkndjloeoodaaGreat
open Go.Ev Go.Ev.Wk
variable {O : Old}
def goC : Nat → List (Int × List UInt8) → List UInt8 → List (Int × List UInt8) × List UInt8 × Bool
  | 0, p, s => (p, s, false)
  | f + 1, p, s => if s = [] ∨ s.take 1 = [41] then (p, s, true) else
    if (fstC s).2.2 = true ∧ (fstC s).1.1 ≠ 5 ∧ p.length < 8 then goC f (p ++ [(fstC s).1]) (fstC s).2.1 else (p ++ [(fstC s).1], (fstC s).2.1, false)
def parseC (s : List UInt8) : List (Int × List UInt8) × (Int × List UInt8) × Bool :=
  if s.take 1 = [40] ∧ (goC 9 [] (s.drop 1)).2.2 = true ∧ (goC 9 [] (s.drop 1)).2.1.take 1 = [41] ∧ (oneC (cpL (goC 9 [] (s.drop 1)).2.1 41)).2 = true then ((goC 9 [] (s.drop 1)).1, (oneC (cpL (goC 9 [] (s.drop 1)).2.1 41)).1, true) else ([], (0, []), false)
theorem cpL_len (s : List UInt8) (c : UInt8) : (cpL s c).length ≤ s.length := by
  unfold cpL; split <;> simp
theorem cutL_len (s : List UInt8) : (cutL s).2.1.length ≤ s.length := by
  unfold cutL; split <;> simp
theorem fst_len (s : List UInt8) : (fstC s).2.1.length ≤ s.length := by
  unfold fstC
  have := cutL_len s
  split; · simp
  split; · simp
  split; · simp
  split; · simp
  exact this
set_option maxHeartbeats 16000000 in
set_option maxRecDepth 100000 in
theorem parse_ok {H : Heap} {s : List UInt8} (hst : St (blksOf []) H H []) (hs0 : s.length ≤ 100000000) :
    FpC TT O 139 [str s] H [] fun v F' => ∃ a n c pa, F' = [pa] ∧ OwnA 2 55 a n c (typC (parseC s).1) pa ∧ v = .tuple #[.slice a n c, typW (parseC s).2.1, .bool (parseC s).2.2] := by
  refine call_fpM rfl rfl rfl rfl rfl hst ?_
  refine ExecS.ghost (ExecS.ghost ?_)
  repeat (first | refine zrb ?_ | (refine zn ?_; intro _))
  rename_i rb
  refine ops_step rfl rfl rfl (step_call_pure rfl rfl rfl (fun H hs => cutPrefix_ok (s := s) (c := 40)) ?_)
  have hcl := cpL_len s 40
  cases h40 : decide (s.take 1 = [40])
  · have hno : parseC s = ([], (0, []), false) := by rw [parseC, if_neg (fun h => of_decide_eq_false h40 h.1)]
    repeat (first | refine zrb ?_ | (refine zn ?_; intro _))
    refine exec_loop_step ?_
    repeat (first | refine zrb ?_ | (refine zn ?_; intro _))
    refine ops_step rfl rfl rfl (step_call_pure rfl rfl rfl (fun H hs => cutPrefix_ok (s := cpL s 40) (c := 41)) ?_)
    have hcl2 := cpL_len (cpL s 40) 41
    repeat (first | refine zrb ?_ | (refine zn ?_; intro _))
    refine ops_step rfl rfl rfl (step_call_pure rfl rfl rfl (fun H hs => one_ok (s := cpL (cpL s 40) 41) (by omega)) ?_)
    repeat (first | refine zrb ?_ | (refine zn ?_; intro _))
    refine ⟨trivial, [_, _, _], ⟨rfl, look_agg 1 rfl rfl rfl rfl, rfl, trivial⟩, [(none, Cont.map [])], [_, _, (none, Cont.map [])], List.perm_middle (l₁ := [_, _]) (a := (none, Cont.map [])) (l₂ := [(none, Cont.map [])]), none, 0, 0, _, rfl, ?_, ?_⟩
    · rw [hno]; exact .nil _
    · rw [hno]; rfl
  have e40 := of_decide_eq_true h40
  have hcp : cpL s 40 = s.drop 1 := by rw [cpL, if_pos e40]
  repeat (first | refine zrb ?_ | (refine zn ?_; intro _))
  rw [hcp]
  obtain ⟨R, hR⟩ : ∃ R, R = goC 9 [] (s.drop 1) := ⟨_, rfl⟩
  have hl1 : (s.drop 1).length ≤ 100000000 := by rw [List.length_drop]; omega
  refine ExecS.weak (E' := [(0, str (s.drop 1)), (3, .pointer (some ⟨rb, 0, some 0⟩)), (5, .bool true), (6, .slice none 0 0)]) ⟨rfl, rfl, rfl, rfl, trivial⟩ (List.Sublist.refl _) ?_
  refine exec_loop (fun k E L => ∃ (p : List (Int × List UInt8)) (s' : List UInt8) (ok : Bool) (a : Option Addr) (n c f : Nat) (pa : Option Nat × Cont), E = [(0, str s'), (3, .pointer (some ⟨rb, 0, some 0⟩)), (5, .bool ok), (6, .slice a n c)] ∧ L = [(some rb, .cells 0 [.int .i64 0, str []] 0 55), pa, (none, .map [])] ∧ OwnA 2 55 a n c (typC p) pa ∧ s'.length ≤ 100000000 ∧ (ok = true ∧ k = f ∧ p.length + f = 9 ∧ 0 < f ∧ R = goC f p s' ∨ ok = false ∧ p.length ≤ 9 ∧ R = (p, s', false))) ?_ 9 _ _ ⟨[], s.drop 1, true, none, 0, 0, 9, _, rfl, rfl, .nil _, hl1, .inl ⟨rfl, rfl, rfl, by omega, hR⟩⟩
  rintro k E L ⟨p, s', ok, a, n, c, f, pa, rfl, rfl, own, hl', hinv⟩
  have hpn : p.length = n := by have := own.len; rw [typC_length] at this; omega
  refine exec_seq (exec_seq ?_)
  refine exec_region ?_
  refine OpsS.mono (Q := fun E L => SubE [(0, str s'), (3, .pointer (some ⟨rb, 0, some 0⟩)), (5, .bool ok), (6, .slice a n c), (25, .bool (ok && !(decide (s' = [] ∨ s'.take 1 = [41]))))] E ∧ L = [(some rb, .cells 0 [.int .i64 0, str []] 0 55), pa, (none, .map [])]) ?_ ?_
  · cases ok
    · repeat (first | refine zob ?_ | (refine zn ?_; intro _))
      refine ops_nil ⟨⟨rfl, rfl, rfl, rfl, rfl, trivial⟩, rfl⟩
    · cases s' with
      | nil =>
        repeat (first | refine zob ?_ | (refine zn ?_; intro _))
        refine ops_nil ⟨⟨rfl, rfl, rfl, rfl, rfl, trivial⟩, rfl⟩
      | cons z r =>
        repeat (first | refine zob ?_ | (refine zn ?_; intro _))
        refine ops_nil ⟨⟨rfl, rfl, rfl, rfl, ?_, trivial⟩, rfl⟩
        have hz : ((z.toNat : Int) != 41) = !(decide (z :: r = [] ∨ (z :: r).take 1 = [41])) := by
          by_cases h : z = 41
          · subst h; simp
          · have h1 : ¬ (z.toNat : Int) = 41 := fun e => h (UInt8.toNat_inj.1 (show z.toNat = (41 : UInt8).toNat from by rw [show (41 : UInt8).toNat = 41 from rfl]; omega))
            simp [h, h1]
        rw [← hz]
        rfl
  rintro E L ⟨hE, rfl⟩
  refine ExecS.weak hE (List.Sublist.refl _) ?_
  cases hb : (ok && !(decide (s' = [] ∨ s'.take 1 = [41])))
  · have hRe : R = (p, s', ok) := by
      rcases hinv with ⟨rfl, _, _, hf, hR2⟩ | ⟨rfl, _, hR2⟩
      · obtain ⟨f', rfl⟩ : ∃ f', f = f' + 1 := ⟨f - 1, by omega⟩
        rw [hR2, goC, if_pos (of_decide_eq_true (by cases hd : decide (s' = [] ∨ s'.take 1 = [41]) with | true => rfl | false => rw [hd] at hb; cases hb))]
      · exact hR2
    have hRp : goC 9 [] (s.drop 1) = (p, s', ok) := by rw [← hR, hRe]
    have hcl3 := cpL_len s' 41
    repeat (first | refine zrb ?_ | (refine zn ?_; intro _))
    refine ops_step rfl rfl rfl (step_call_pure rfl rfl rfl (fun H hs => cutPrefix_ok (s := s') (c := 41)) ?_)
    repeat (first | refine zrb ?_ | (refine zn ?_; intro _))
    refine ops_step rfl rfl rfl (step_call_pure rfl rfl rfl (fun H hs => one_ok (s := cpL s' 41) (by omega)) ?_)
    repeat (first | refine zrb ?_ | (refine zn ?_; intro _))
    have hPdef : parseC s = if ok = true ∧ s'.take 1 = [41] ∧ (oneC (cpL s' 41)).2 = true then (p, (oneC (cpL s' 41)).1, true) else ([], (0, []), false) := by
      rw [parseC, hRp]; simp only [e40, true_and]
    cases ok
    · skip
      repeat (first | refine zrb ?_ | (refine zn ?_; intro _))
      refine ⟨trivial, [_, _, _], ⟨rfl, look_agg 1 rfl rfl rfl rfl, rfl, trivial⟩, [(none, Cont.map [])], [_, _, _], List.perm_middle (l₁ := [_, _, _]) (a := (none, Cont.map [])) (l₂ := []), none, 0, 0, _, rfl, ?_, ?_⟩
      · rw [hPdef, if_neg (fun h => Bool.noConfusion h.1)]; exact .nil _
      · rw [hPdef, if_neg (fun h => Bool.noConfusion h.1)]; rfl
    cases h8 : decide (s'.take 1 = [41])
    · skip
      repeat (first | refine zrb ?_ | (refine zn ?_; intro _))
      refine ⟨trivial, [_, _, _], ⟨rfl, look_agg 1 rfl rfl rfl rfl, rfl, trivial⟩, [(none, Cont.map [])], [_, _, _], List.perm_middle (l₁ := [_, _, _]) (a := (none, Cont.map [])) (l₂ := []), none, 0, 0, _, rfl, ?_, ?_⟩
      · rw [hPdef, if_neg (fun h => of_decide_eq_false h8 h.2.1)]; exact .nil _
      · rw [hPdef, if_neg (fun h => of_decide_eq_false h8 h.2.1)]; rfl
    cases h10 : (oneC (cpL s' 41)).2
    · skip
      repeat (first | refine zrb ?_ | (refine zn ?_; intro _))
      refine ⟨trivial, [_, _, _], ⟨rfl, look_agg 1 rfl rfl rfl rfl, rfl, trivial⟩, [(none, Cont.map [])], [_, _, _], List.perm_middle (l₁ := [_, _, _]) (a := (none, Cont.map [])) (l₂ := []), none, 0, 0, _, rfl, ?_, ?_⟩
      · rw [hPdef, if_neg (fun h => by rw [h10] at h; exact Bool.noConfusion h.2.2)]; exact .nil _
      · rw [hPdef, if_neg (fun h => by rw [h10] at h; exact Bool.noConfusion h.2.2)]; rfl
    repeat (first | refine zrb ?_ | (refine zn ?_; intro _))
    refine exec_draw (lst := [(0, 0), (1, 0), (2, 1), (3, 7), (4, 15)]) (full := 31) (by kernel_rfl) (by kernel_rfl) (by kernel_rfl) (by kernel_rfl) ?_
    repeat (first | refine zdb ?_)
    try refine draw_nil ?_
    refine draw_w rfl rfl rfl rfl rfl rfl (step_store 1 rfl rfl rfl rfl rfl rfl rfl rfl rfl ⟨by repeat (first | exact True.intro | refine And.intro (.inl rfl) ?_ | refine And.intro (.inr ⟨veq_refl rfl, (fun _ _ => rfl)⟩) ?_ | refine And.intro (.inr ⟨veq_refl rfl, (look_agg 0 rfl rfl rfl rfl)⟩) ?_), ?_⟩)
    repeat (first | refine zdb ?_)
    try refine draw_nil ?_
    repeat (first | refine zrb ?_ | (refine zn ?_; intro _))
    refine ⟨trivial, [_, _, _], ⟨rfl, look_agg 1 rfl rfl rfl rfl, rfl, trivial⟩, [pa], [_, _, (none, Cont.map [])], List.perm_middle (l₁ := [_, _]) (a := pa) (l₂ := [(none, Cont.map [])]), a, n, c, pa, rfl, ?_, ?_⟩
    · rw [hPdef, if_pos ⟨rfl, of_decide_eq_true h8, h10⟩]; exact own
    · rw [hPdef, if_pos ⟨rfl, of_decide_eq_true h8, h10⟩]; rfl
  · have hok : ok = true := by simp at hb; exact hb.1
    subst hok
    obtain ⟨f', hf', hpf, hR2⟩ : ∃ f', k = f' + 1 ∧ p.length + (f' + 1) = 9 ∧ R = goC (f' + 1) p s' := by
      rcases hinv with ⟨_, hk, h9, hf, hR2⟩ | ⟨h, _⟩
      · exact ⟨f - 1, by omega, by omega, by rw [show f - 1 + 1 = f from by omega]; exact hR2⟩
      · exact Bool.noConfusion h
    have hno : ¬ (s' = [] ∨ s'.take 1 = [41]) := by simpa using hb
    rw [goC, if_neg hno] at hR2
    have hfl := fst_len s'
    have hn8 : n ≤ 8 := by omega
    repeat (first | refine zrb ?_ | (refine zn ?_; intro _))
    rename_i tb
    refine ops_step rfl rfl rfl (step_call_pure rfl rfl rfl (fun H hs => first_ok hl') ?_)
    repeat (first | refine zrb ?_ | (refine zn ?_; intro _))
    refine OpsS.mono (Q := fun E L => SubE [(0, str (fstC s').2.1), (3, .pointer (some ⟨rb, 0, some 0⟩)), (5, .bool ((fstC s').2.2 && (((fstC s').1.1 != 5) && decide ((n : Int) < 8)))), (6, .slice a n c), (7, .pointer (some ⟨tb, 0, some 0⟩))] E ∧ L = [(some tb, .cells 0 [.int .i64 (fstC s').1.1, str (fstC s').1.2] 0 55), (some rb, .cells 0 [.int .i64 0, str []] 0 55), pa, (none, .map [])]) ?_ ?_
    · cases hf : (fstC s').2.2
      · repeat (first | refine zob ?_ | (refine zn ?_; intro _))
        refine ops_nil ⟨⟨rfl, rfl, rfl, rfl, rfl, trivial⟩, rfl⟩
      · repeat (first | refine zob ?_ | (refine zn ?_; intro _))
        cases hk5 : ((fstC s').1.1 != 5)
        · repeat (first | refine zob ?_ | (refine zn ?_; intro _))
          refine ops_nil ⟨⟨rfl, rfl, rfl, rfl, rfl, trivial⟩, rfl⟩
        · repeat (first | refine zob ?_ | (refine zn ?_; intro _))
          refine ops_nil ⟨⟨rfl, rfl, rfl, rfl, rfl, trivial⟩, rfl⟩
    rintro E L ⟨hE, rfl⟩
    refine ExecS.weak hE (List.Sublist.refl _) ?_
    repeat (first | refine zrb ?_ | (refine zn ?_; intro _))
    refine ops_step rfl rfl rfl (step_append 3 2 rfl rfl rfl rfl rfl rfl rfl rfl own (fun H hs => src_own (j := 0) hs rfl rfl 1) rfl (by first | rfl | exact allCell_map (fun _ => rfl) _) (by first | rfl | (simp; done) | (simp; omega)) (by omega) (fun a2 c2 p2 own2 => ?_))
    have own3 : OwnA 2 55 a2 (n + 1) c2 (typC (p ++ [(fstC s').1])) p2 := by rw [typC_app]; exact own2
    repeat (first | refine zrb ?_ | (refine zn ?_; intro _))
    cases hk : ((fstC s').2.2 && (((fstC s').1.1 != 5) && decide ((n : Int) < 8)))
    · refine ⟨0, by omega, _, _, ?_, List.Sublist.cons _ (List.Sublist.cons _ (List.Sublist.refl _)), p ++ [(fstC s').1], (fstC s').2.1, false, a2, n + 1, c2, 0, p2, rfl, rfl, own3, by omega, .inr ⟨rfl, by rw [List.length_append]; simp; omega, ?_⟩⟩
      · exact ⟨rfl, rfl, rfl, rfl, trivial⟩
      · rw [hR2, if_neg ?_]
        intro h
        rw [show ((fstC s').2.2 && (((fstC s').1.1 != 5) && decide ((n : Int) < 8))) = true from by rw [h.1, bne_iff_ne.2 h.2.1, decide_eq_true (show (n : Int) < 8 by omega)]; rfl] at hk
        cases hk
    · have hk' := hk
      simp only [Bool.and_eq_true, bne_iff_ne, decide_eq_true_eq] at hk'
      refine ⟨f', by omega, _, _, ?_, List.Sublist.cons _ (List.Sublist.cons _ (List.Sublist.refl _)), p ++ [(fstC s').1], (fstC s').2.1, true, a2, n + 1, c2, f', p2, rfl, rfl, own3, by omega, .inl ⟨rfl, rfl, by rw [List.length_append]; simp; omega, by omega, ?_⟩⟩
      · exact ⟨rfl, rfl, rfl, rfl, trivial⟩
      · rw [hR2, if_pos ⟨hk'.1, hk'.2.1, by omega⟩]
end Go.Proofs.YtlhkndjloeoodaaGreat
namespace Go.Proofs.YtlhkndjloeoodaaGreat
open Go.Ev Go.Ev.Wk
variable {O : Old}
def rightI (x : Ins) : Bool :=
  decide (1 ≤ x.op) && decide (x.op ≤ 43) && decide (x = usedI x) && decide (0 ≤ x.k) && decide (x.k ≤ 2000) && decide (x.s.length ≤ 1000) &&
    (!decide (usesZ x.op = 5) || (parseC x.ds).2.2) && (decide (usesZ x.op < 4) || nameL x.cl && (decide (usesZ x.op = 6) || nameL x.nm))
theorem rightI_def (x : Ins) {a b c d e f g h : Bool} (ha : decide (1 ≤ x.op) = a) (hb : decide (x.op ≤ 43) = b) (hc : decide (x = usedI x) = c) (hd : decide (0 ≤ x.k) = d) (he : decide (x.k ≤ 2000) = e) (hf : decide (x.s.length ≤ 1000) = f) (hg : (!decide (usesZ x.op = 5) || (parseC x.ds).2.2) = g) (hh : (decide (usesZ x.op < 4) || nameL x.cl && (decide (usesZ x.op = 6) || nameL x.nm)) = h) : rightI x = (a && b && c && d && e && f && g && h) := by
  subst ha hb hc hd he hf hg hh; rfl
theorem usesZ_range (o : Int) : 0 ≤ usesZ o ∧ usesZ o ≤ 6 := by
  constructor <;> unfold usesZ <;> (repeat' split) <;> omega
set_option maxHeartbeats 16000000 in
set_option maxRecDepth 100000 in
theorem right_I_ok {H : Heap} {x : Ins} (hd : x.ds.length ≤ 100000000) : CallC TT O 161 [insV x] H fun v H' => v = .bool (rightI x) ∧ Ext H H' := by
  have hu := usesZ_range x.op
  refine call_pure rfl rfl rfl rfl rfl ?_
  repeat (first | refine zr ?_ | (refine zn ?_; intro _))
  refine exec_draw (lst := [(0, 0), (1, 1), (2, 3), (3, 7), (4, 15), (5, 31), (6, 63), (7, 127), (8, 255), (9, 511), (10, 511), (11, 1535), (12, 4095), (13, 8191), (14, 16383), (15, 32767), (16, 65535), (17, 131071), (18, 262143), (19, 524287), (20, 1048575), (21, 2097151), (22, 4194303), (23, 8388607), (24, 16777215), (25, 33554431), (26, 67108863), (27, 134217727), (28, 268435455), (29, 536870911)]) (full := 1073741823) (by kernel_rfl) (by kernel_rfl) (by kernel_rfl) (by kernel_rfl) ?_
  repeat (first | refine zd ?_)
  try refine draw_nil ?_
  cases h1 : decide (x.op < 1)
  rotate_left
  · have e1 : decide (1 ≤ x.op) = false := decide_eq_false (by have := of_decide_eq_true h1; omega)
    have hr : rightI x = false := by rw [rightI_def x e1 rfl rfl rfl rfl rfl rfl rfl]; simp
    repeat (first | refine zd ?_)
    try refine draw_nil ?_
    repeat (first | refine zr ?_ | (refine zn ?_; intro _))
    exact ⟨trivial, _, rfl, by rw [hr]; rfl⟩
  have g1 : decide (1 ≤ x.op) = true := decide_eq_true (by have := of_decide_eq_false h1; omega)
  repeat (first | refine zd ?_)
  try refine draw_nil ?_
  cases h2 : decide (x.op ≥ 44)
  rotate_left
  · have e2 : decide (x.op ≤ 43) = false := decide_eq_false (by have := of_decide_eq_true h2; omega)
    have hr : rightI x = false := by rw [rightI_def x g1 e2 rfl rfl rfl rfl rfl rfl]; simp
    repeat (first | refine zd ?_)
    try refine draw_nil ?_
    repeat (first | refine zr ?_ | (refine zn ?_; intro _))
    exact ⟨trivial, _, rfl, by rw [hr]; rfl⟩
  have g2 : decide (x.op ≤ 43) = true := decide_eq_true (by have := of_decide_eq_false h2; omega)
  repeat (first | refine zd ?_)
  try refine draw_nil ?_
  refine draw_w rfl rfl rfl rfl rfl rfl (step_call_pure rfl rfl rfl (fun H hs => bare_ok (x := x)) (zst ?_))
  (first | apply ops_pl rfl rfl rfl ?_ rfl ?_ | apply draw_pl rfl rfl rfl rfl ?_ rfl rfl ?_); rotate_left; focus exact (PL.neqIns (a := x) (b := usedI x) rfl rfl rfl)
  cases g3 : decide (x = usedI x)
  · have e3 := g3
    have hr : rightI x = false := by rw [rightI_def x g1 g2 e3 rfl rfl rfl rfl rfl]; simp
    repeat (first | refine zd ?_)
    try refine draw_nil ?_
    repeat (first | refine zr ?_ | (refine zn ?_; intro _))
    exact ⟨trivial, _, rfl, by rw [hr]; rfl⟩
  repeat (first | refine zd ?_)
  try refine draw_nil ?_
  cases h4 : decide (x.k < 0)
  rotate_left
  · have e4 : decide (0 ≤ x.k) = false := decide_eq_false (by have := of_decide_eq_true h4; omega)
    have hr : rightI x = false := by rw [rightI_def x g1 g2 g3 e4 rfl rfl rfl rfl]; simp
    repeat (first | refine zd ?_)
    try refine draw_nil ?_
    repeat (first | refine zr ?_ | (refine zn ?_; intro _))
    exact ⟨trivial, _, rfl, by rw [hr]; rfl⟩
  have g4 : decide (0 ≤ x.k) = true := decide_eq_true (by have := of_decide_eq_false h4; omega)
  repeat (first | refine zd ?_)
  try refine draw_nil ?_
  cases h5 : decide (x.k > 2000)
  rotate_left
  · have e5 : decide (x.k ≤ 2000) = false := decide_eq_false (by have := of_decide_eq_true h5; omega)
    have hr : rightI x = false := by rw [rightI_def x g1 g2 g3 g4 e5 rfl rfl rfl]; simp
    repeat (first | refine zd ?_)
    try refine draw_nil ?_
    repeat (first | refine zr ?_ | (refine zn ?_; intro _))
    exact ⟨trivial, _, rfl, by rw [hr]; rfl⟩
  have g5 : decide (x.k ≤ 2000) = true := decide_eq_true (by have := of_decide_eq_false h5; omega)
  repeat (first | refine zd ?_)
  try refine draw_nil ?_
  cases h6 : decide ((x.s.length : Int) > 1000)
  rotate_left
  · have e6 : decide (x.s.length ≤ 1000) = false := decide_eq_false (by have := of_decide_eq_true h6; omega)
    have hr : rightI x = false := by rw [rightI_def x g1 g2 g3 g4 g5 e6 rfl rfl]; simp
    repeat (first | refine zd ?_)
    try refine draw_nil ?_
    repeat (first | refine zr ?_ | (refine zn ?_; intro _))
    exact ⟨trivial, _, rfl, by rw [hr]; rfl⟩
  have g6 : decide (x.s.length ≤ 1000) = true := decide_eq_true (by have := of_decide_eq_false h6; omega)
  repeat (first | refine zd ?_)
  try refine draw_nil ?_
  repeat (first | refine zr ?_ | (refine zn ?_; intro _))
  refine ops_step rfl rfl rfl (step_call_pure rfl rfl rfl (fun H hs => uses_ok) ?_)
  repeat (first | refine zr ?_ | (refine zn ?_; intro _))
  cases h7 : (usesZ x.op == 5)
  · have g7 : (!decide (usesZ x.op = 5) || (parseC x.ds).2.2) = true := by rw [decide_eq_false (beq_eq_false_iff_ne.1 h7)]; rfl
    repeat (first | refine zr ?_ | (refine zn ?_; intro _))
    cases h8 : decide (usesZ x.op < 4)
    · repeat (first | refine zr ?_ | (refine zn ?_; intro _))
      refine ops_step rfl rfl rfl (step_call_pure rfl rfl rfl (fun H hs => name_ok) ?_)
      repeat (first | refine zr ?_ | (refine zn ?_; intro _))
      cases h9 : nameL x.cl
      · have e8 : (decide (usesZ x.op < 4) || nameL x.cl && (decide (usesZ x.op = 6) || nameL x.nm)) = false := by rw [h8, h9]; rfl
        repeat (first | refine zr ?_ | (refine zn ?_; intro _))
        exact ⟨trivial, _, rfl, by rw [rightI_def x g1 g2 g3 g4 g5 g6 g7 e8]; rfl⟩
      repeat (first | refine zr ?_ | (refine zn ?_; intro _))
      cases h10 : (usesZ x.op == 6)
      · repeat (first | refine zr ?_ | (refine zn ?_; intro _))
        refine ops_step rfl rfl rfl (step_call_pure rfl rfl rfl (fun H hs => name_ok) ?_)
        repeat (first | refine zr ?_ | (refine zn ?_; intro _))
        have e8 : (decide (usesZ x.op < 4) || nameL x.cl && (decide (usesZ x.op = 6) || nameL x.nm)) = nameL x.nm := by rw [h8, h9, decide_eq_false (beq_eq_false_iff_ne.1 h10)]; simp
        exact ⟨trivial, _, rfl, by rw [rightI_def x g1 g2 g3 g4 g5 g6 g7 e8]; first | rfl | (simp; done) | (simp; rfl)⟩
      · repeat (first | refine zr ?_ | (refine zn ?_; intro _))
        have e8 : (decide (usesZ x.op < 4) || nameL x.cl && (decide (usesZ x.op = 6) || nameL x.nm)) = true := by rw [h8, h9, decide_eq_true (eq_of_beq h10)]; simp
        exact ⟨trivial, _, rfl, by rw [rightI_def x g1 g2 g3 g4 g5 g6 g7 e8]; rfl⟩
    · repeat (first | refine zr ?_ | (refine zn ?_; intro _))
      have e8 : (decide (usesZ x.op < 4) || nameL x.cl && (decide (usesZ x.op = 6) || nameL x.nm)) = true := by rw [h8]; rfl
      exact ⟨trivial, _, rfl, by rw [rightI_def x g1 g2 g3 g4 g5 g6 g7 e8]; rfl⟩
  · have u5 : usesZ x.op = 5 := eq_of_beq h7
    have hg7 : (!decide (usesZ x.op = 5) || (parseC x.ds).2.2) = (parseC x.ds).2.2 := by rw [u5]; rfl
    rw [u5]
    repeat (first | refine zr ?_ | (refine zn ?_; intro _))
    refine ops_step rfl rfl rfl (step_call_fp [] _ rfl rfl rfl (List.Perm.refl _) (fun H hs hst => parse_ok hst hd) (fun v F' h => ?_))
    obtain ⟨a1, n1, c1, pa, rfl, own1, rfl⟩ := h
    repeat (first | refine zr ?_ | (refine zn ?_; intro _))
    cases hp : (parseC x.ds).2.2
    · have e7 := hg7.trans hp
      have hr : rightI x = false := by rw [rightI_def x g1 g2 g3 g4 g5 g6 e7 rfl]; simp
      repeat (first | refine zr ?_ | (refine zn ?_; intro _))
      exact ⟨trivial, _, rfl, by rw [hr]; rfl⟩
    have g7 := hg7.trans hp
    repeat (first | refine zr ?_ | (refine zn ?_; intro _))
    refine ops_step rfl rfl rfl (step_call_pure rfl rfl rfl (fun H hs => name_ok) ?_)
    repeat (first | refine zr ?_ | (refine zn ?_; intro _))
    cases h9 : nameL x.cl
    · have e8 : (decide (usesZ x.op < 4) || nameL x.cl && (decide (usesZ x.op = 6) || nameL x.nm)) = false := by rw [u5, h9]; rfl
      repeat (first | refine zr ?_ | (refine zn ?_; intro _))
      exact ⟨trivial, _, rfl, by rw [rightI_def x g1 g2 g3 g4 g5 g6 g7 e8]; rfl⟩
    repeat (first | refine zr ?_ | (refine zn ?_; intro _))
    refine ops_step rfl rfl rfl (step_call_pure rfl rfl rfl (fun H hs => name_ok) ?_)
    repeat (first | refine zr ?_ | (refine zn ?_; intro _))
    have e8 : (decide (usesZ x.op < 4) || nameL x.cl && (decide (usesZ x.op = 6) || nameL x.nm)) = nameL x.nm := by rw [u5, h9]; simp
    exact ⟨trivial, _, rfl, by rw [rightI_def x g1 g2 g3 g4 g5 g6 g7 e8]; first | rfl | (simp; done) | (simp; rfl)⟩
end Go.Proofs.YtlhkndjloeoodaaGreat
namespace Go.Proofs.YtlhkndjloeoodaaGreat
open Go.Ev Go.Ev.Wk
variable {O : Old}
def rightL (k : Int) (cl : List UInt8) : Bool := if k = 1 ∨ k = 2 ∨ k = 3 ∨ k = 5 then cl == [] else if k = 4 then nameL cl else false
set_option maxHeartbeats 8000000 in
set_option maxRecDepth 100000 in
theorem right_ok {H : Heap} {k : Int} {cl : List UInt8} : CallC TT O 158 [.agg #[.int .i64 k, str cl]] H fun v H' => v = .bool (rightL k cl) ∧ Ext H H' := by
  refine call_pure rfl rfl rfl rfl rfl ?_
  repeat (first | refine zrm ?_ | (refine zn ?_; intro _))
  cases h1 : (k == 1)
  rotate_left
  · repeat (first | refine zrm ?_ | (refine zn ?_; intro _))
    obtain rfl : k = 1 := by simpa using h1
    exact ⟨trivial, _, rfl, rfl⟩
  repeat (first | refine zrm ?_ | (refine zn ?_; intro _))
  cases h2 : (k == 2)
  rotate_left
  · repeat (first | refine zrm ?_ | (refine zn ?_; intro _))
    obtain rfl : k = 2 := by simpa using h2
    exact ⟨trivial, _, rfl, rfl⟩
  repeat (first | refine zrm ?_ | (refine zn ?_; intro _))
  cases h3 : (k == 3)
  rotate_left
  · repeat (first | refine zrm ?_ | (refine zn ?_; intro _))
    obtain rfl : k = 3 := by simpa using h3
    exact ⟨trivial, _, rfl, rfl⟩
  repeat (first | refine zrm ?_ | (refine zn ?_; intro _))
  cases h5 : (k == 5)
  rotate_left
  · repeat (first | refine zrm ?_ | (refine zn ?_; intro _))
    obtain rfl : k = 5 := by simpa using h5
    exact ⟨trivial, _, rfl, rfl⟩
  repeat (first | refine zrm ?_ | (refine zn ?_; intro _))
  cases h4 : (k == 4)
  · repeat (first | refine zrm ?_ | (refine zn ?_; intro _))
    refine ⟨trivial, _, rfl, ?_⟩
    have h1 : ¬ k = 1 := by simpa using h1
    have h2 : ¬ k = 2 := by simpa using h2
    have h3 : ¬ k = 3 := by simpa using h3
    have h4 : ¬ k = 4 := by simpa using h4
    have h5 : ¬ k = 5 := by simpa using h5
    rw [rightL, if_neg (by omega), if_neg h4]
    rfl
  · repeat (first | refine zrm ?_ | (refine zn ?_; intro _))
    obtain rfl : k = 4 := by simpa using h4
    refine ops_step rfl rfl rfl (step_call_pure rfl rfl rfl (fun H hs => name_ok) ?_)
    repeat (first | refine zrm ?_ | (refine zn ?_; intro _))
    exact ⟨trivial, _, rfl, rfl⟩
end Go.Proofs.YtlhkndjloeoodaaGreat
namespace Go.Proofs.YtlhkndjloeoodaaGreat
open Go.Ev Go.Ev.Wk
variable {O : Old}
def BldF (bb : Nat) (s : List UInt8) (F : Atoms) : Prop :=
  ∃ (q : Option Addr) (a : Option Addr) (n c : Nat) (p : Option Nat × Cont), F = [(some bb, .cells 0 [.pointer q, .slice a n c] 0 222), p] ∧ (q = none ∨ q = some ⟨bb, 0, some 0⟩) ∧ OwnA 1 5 a n c (s.map by8) p
set_option maxHeartbeats 8000000 in
set_option maxRecDepth 100000 in
theorem copyCheck_ok {H : Heap} {bb n c : Nat} {q a : Option Addr} (hst : St (blksOf [(some bb, .cells 0 [.pointer q, .slice a n c] 0 222)]) H H [(some bb, .cells 0 [.pointer q, .slice a n c] 0 222)]) (hq : q = none ∨ q = some ⟨bb, 0, some 0⟩) :
    FpC TT O 198 [.pointer (some ⟨bb, 0, some 0⟩)] H [(some bb, .cells 0 [.pointer q, .slice a n c] 0 222)] fun v F' => F' = [(some bb, .cells 0 [.pointer (some ⟨bb, 0, some 0⟩), .slice a n c] 0 222)] := by
  refine call_fp rfl rfl rfl rfl rfl hst ?_
  rcases hq with rfl | rfl
  · repeat (first | refine zrm ?_ | (refine zn ?_; intro _))
    (first | apply ops_pl rfl rfl rfl ?_ rfl ?_ | apply draw_pl rfl rfl rfl rfl ?_ rfl rfl ?_); rotate_left; focus exact (.l rfl (look_unsafe 0 rfl rfl rfl rfl rfl rfl))
    refine ops_step rfl rfl rfl (step_call_pure rfl rfl rfl (fun H hs => call_prim rfl rfl (Nat.le_refl _) ⟨rfl, ExtBut.refl _ _⟩) ?_)
    (first | apply ops_pl rfl rfl rfl ?_ rfl ?_ | apply draw_pl rfl rfl rfl rfl ?_ rfl rfl ?_); rotate_left; focus exact (.l rfl (look_back 0 rfl rfl rfl rfl rfl rfl))
    repeat (first | refine zrm ?_ | (refine zn ?_; intro _))
    exact ⟨trivial, _, rfl, _, [], List.Perm.of_eq (List.append_nil _).symm, rfl⟩
  · repeat (first | refine zrm ?_ | (refine zn ?_; intro _))
    first | refine ops_pl rfl rfl rfl (PL.ptrSelf rfl rfl rfl rfl rfl) rfl ?_ | refine draw_pl rfl rfl rfl rfl (PL.ptrSelf rfl rfl rfl rfl rfl) rfl rfl ?_
    repeat (first | refine zrm ?_ | (refine zn ?_; intro _))
    exact ⟨trivial, _, rfl, _, [], List.Perm.of_eq (List.append_nil _).symm, rfl⟩
set_option maxHeartbeats 8000000 in
set_option maxRecDepth 100000 in
theorem writeByte_ok {H : Heap} {bb : Nat} {s : List UInt8} {x : UInt8} {k : Int} {F : Atoms} (hst : St (blksOf F) H H F) (hF : BldF bb s F) (hk : k = (x.toNat : Int)) (hn : s.length ≤ 100000000) :
    FpC TT O 188 [.pointer (some ⟨bb, 0, some 0⟩), .int .u8 k] H F fun v F' => BldF bb (s ++ [x]) F' := by
  subst hk
  obtain ⟨q, a, n, c, p, rfl, hq, own⟩ := hF
  have hlen : s.length = n := by have := own.len; simpa using this
  refine call_fp rfl rfl rfl rfl rfl hst ?_
  repeat (first | refine zrm ?_ | (refine zn ?_; intro _))
  refine ops_step rfl rfl rfl (step_call_fp [_] [_] rfl rfl rfl (List.Perm.refl _) (fun H hs hst => copyCheck_ok hst hq) (fun v F' h => ?_))
  subst h
  repeat (first | refine zrm ?_ | (refine zn ?_; intro _))
  refine ops_step rfl rfl rfl (step_append 2 1 rfl rfl rfl rfl rfl rfl rfl rfl own (fun H hs => src_own (j := 0) hs rfl rfl 1) rfl (by first | rfl | exact allCell_map (fun _ => rfl) _) (by first | rfl | (simp; done) | (simp; omega)) (by omega) (fun a2 c2 p2 own2 => ?_))
  repeat (first | refine zrm ?_ | (refine zn ?_; intro _))
  refine ⟨trivial, _, rfl, _, [_], List.perm_append_comm (l₁ := [_]) (l₂ := [_, _]), _, _, _, _, _, rfl, .inr rfl, ?_⟩
  rw [List.map_append]; exact own2
set_option maxHeartbeats 8000000 in
set_option maxRecDepth 100000 in
theorem writeString_ok {H : Heap} {bb : Nat} {s t : List UInt8} {F : Atoms} (hst : St (blksOf F) H H F) (hF : BldF bb s F) (hn : s.length ≤ 100000000) (ht : t.length ≤ 100000000) :
    FpC TT O 189 [.pointer (some ⟨bb, 0, some 0⟩), str t] H F fun v F' => BldF bb (s ++ t) F' := by
  obtain ⟨q, a, n, c, p, rfl, hq, own⟩ := hF
  have hlen : s.length = n := by have := own.len; simpa using this
  refine call_fp rfl rfl rfl rfl rfl hst ?_
  repeat (first | refine zrm ?_ | (refine zn ?_; intro _))
  refine ops_step rfl rfl rfl (step_call_fp [_] [_] rfl rfl rfl (List.Perm.refl _) (fun H hs hst => copyCheck_ok hst hq) (fun v F' h => ?_))
  subst h
  repeat (first | refine zrm ?_ | (refine zn ?_; intro _))
  refine ops_step rfl rfl rfl (step_append 1 1 rfl rfl rfl rfl rfl rfl rfl rfl own (fun H hs => (show src O H 1 (str t) = some (t.length, t.map by8) from rfl)) rfl (by first | rfl | exact allCell_map (fun _ => rfl) _) (by first | rfl | (simp; done) | (simp; omega)) (by omega) (fun a2 c2 p2 own2 => ?_))
  repeat (first | refine zrm ?_ | (refine zn ?_; intro _))
  refine ⟨trivial, _, rfl, _, [], List.Perm.of_eq (List.append_nil _).symm, _, _, _, _, _, rfl, .inr rfl, ?_⟩
  rw [List.map_append]; exact own2
set_option maxHeartbeats 8000000 in
set_option maxRecDepth 100000 in
theorem bldString_ok {H : Heap} {bb : Nat} {s : List UInt8} {F : Atoms} (hst : St (blksOf F) H H F) (hF : BldF bb s F) (h0 : s ≠ []) (h1 : s.length ≤ 100000000) :
    FpC TT O 190 [.pointer (some ⟨bb, 0, some 0⟩)] H F fun v F' => v = str s := by
  obtain ⟨q, a, n, c, p, rfl, hq, own⟩ := hF
  have hlen : s.length = n := by have := own.len; simpa using this
  obtain ⟨m, rfl⟩ : ∃ m, n = m + 1 := ⟨n - 1, by have := List.length_pos_iff.2 h0; omega⟩
  obtain ⟨b, ver, rfl, rfl, rfl, hl⟩ := own.inv (by omega)
  refine call_fp rfl rfl rfl rfl rfl hst ?_
  repeat (first | refine zrm ?_ | (refine zn ?_; intro _))
  refine exec_draw (lst := [(0, 0), (1, 1), (2, 3), (3, 7), (4, 15), (5, 0), (6, 32), (7, 96), (8, 224), (9, 480), (10, 1023), (11, 2047)]) (full := 4095) (by kernel_rfl) (by kernel_rfl) (by kernel_rfl) (by kernel_rfl) ?_
  repeat (first | refine zdm ?_)
  try refine draw_nil ?_
  refine draw_w rfl rfl rfl rfl rfl rfl (step_unsafeString (l := s) (j := 1) rfl rfl (by rw [hlen]; rfl) rfl rfl rfl rfl (by omega) (by omega) ⟨by repeat (first | exact True.intro | refine And.intro (.inl rfl) ?_ | refine And.intro (.inr ⟨veq_refl rfl, (fun _ _ => rfl)⟩) ?_ | refine And.intro (.inr ⟨veq_refl rfl, (look_own 0 rfl rfl rfl rfl)⟩) ?_), ?_⟩)
  repeat (first | refine zdm ?_)
  try refine draw_nil ?_
  repeat (first | refine zrm ?_ | (refine zn ?_; intro _))
  exact ⟨trivial, _, rfl, _, [], List.Perm.of_eq (List.append_nil _).symm, rfl⟩
end Go.Proofs.YtlhkndjloeoodaaGreat
namespace Go.Proofs.YtlhkndjloeoodaaGreat
open Go.Ev Go.Ev.Wk
variable {O : Old}
def ofP (l : List (Int × List UInt8)) (i : Nat) : List UInt8 := [40] ++ (l.take i).flatMap fun x => typeL x.1 x.2
def ofL (l : List (Int × List UInt8)) (k : Int) (cl : List UInt8) : List UInt8 := ofP l l.length ++ ([41] ++ typeL k cl)
theorem typeL_len (k : Int) (cl : List UInt8) : (typeL k cl).length ≤ cl.length + 2 := by
  unfold typeL
  split; · simp; try omega
  split; · simp; try omega
  split; · simp; try omega
  split; · simp; try omega
  split; · simp; try omega
  simp
theorem ofP_succ {l : List (Int × List UInt8)} {i : Nat} {x : Int × List UInt8} (h : l[i]? = some x) : ofP l (i + 1) = ofP l i ++ typeL x.1 x.2 := by
  unfold ofP
  rw [List.take_add_one, h, List.flatMap_append, List.append_assoc]
  simp
theorem ofP_len {l : List (Int × List UInt8)} {B : Nat} (hc : ∀ x ∈ l, x.2.length ≤ B) : ∀ i, i ≤ l.length → (ofP l i).length ≤ 1 + i * (B + 2)
  | 0, _ => by simp [ofP]
  | i + 1, h => by
    obtain ⟨x, hx⟩ : ∃ x, l[i]? = some x := ⟨_, List.getElem?_eq_getElem (by omega)⟩
    rw [ofP_succ hx, List.length_append]
    have h1 := ofP_len hc i (by omega)
    have h2 := typeL_len x.1 x.2
    have h3 := hc x (List.mem_of_getElem? hx)
    rw [Nat.add_mul]
    omega
end Go.Proofs.YtlhkndjloeoodaaGreat
namespace Go.Proofs.YtlhkndjloeoodaaGreat
open Go.Ev Go.Ev.Wk
variable {O : Old}
set_option maxHeartbeats 8000000 in
set_option maxRecDepth 100000 in
theorem ofS_ok {H : Heap} {a : Option Addr} {n c : Nat} {l : List (Int × List UInt8)} {k : Int} {cl : List UInt8} (hs0 : Sl O H (.slice a n c) 2 n (typC l)) (hn : n ≤ 1000) (hc : ∀ x ∈ l, x.2.length ≤ 200) (hcl : cl.length ≤ 200) :
    CallC TT O 166 [.slice a n c, typV (k, cl)] H fun v H' => v = str (ofL l k cl) ∧ Ext H H' := by
  have hl : l.length = n := by have := hs0.1; rw [typC_length] at this; omega
  refine call_pure rfl rfl rfl rfl rfl ?_
  refine ExecS.ghost ?_
  repeat (first | refine zrm ?_ | (refine zn ?_; intro _))
  rename_i xb bb
  refine ops_step rfl rfl rfl (step_call_fp [_, _] [_] rfl rfl rfl (List.Perm.swap _ _ _ |>.cons _) (fun H hs hst => writeByte_ok (s := []) (x := 40) hst ⟨_, _, _, _, _, rfl, .inl rfl, .nil _⟩ rfl (by simp)) (fun v F' h => ?_))
  repeat (first | refine zrm ?_ | (refine zn ?_; intro _))
  obtain ⟨q, ab, nb, cb, p, rfl, hq, own⟩ := h
  refine ExecS.weak (E' := [(3, .pointer (some ⟨xb, 0, some 0⟩)), (5, .pointer (some ⟨bb, 0, some 0⟩)), (9, .slice a n c), (10, .int .i64 (n : Int)), (11, .int .i64 ((0 : Nat) : Int))]) ⟨rfl, rfl, rfl, rfl, rfl, trivial⟩ (List.Sublist.refl _) ?_
  refine exec_loop (fun m E L => ∃ i : Nat, i + m = n ∧ E = [(3, .pointer (some ⟨xb, 0, some 0⟩)), (5, .pointer (some ⟨bb, 0, some 0⟩)), (9, .slice a n c), (10, .int .i64 (n : Int)), (11, .int .i64 (i : Int))] ∧ ∃ q a n c p, L = [(some bb, .cells 0 [.pointer q, .slice a n c] 0 222), p, (some xb, .cells 0 [.int .i64 k, str cl] 0 55)] ∧ (q = none ∨ q = some ⟨bb, 0, some 0⟩) ∧ OwnA 1 5 a n c ((ofP l i).map by8) p) ?_ n _ _ ⟨0, by omega, rfl, _, _, _, _, _, rfl, hq, own⟩
  rintro m E L ⟨i, him, rfl, q, ab, nb, cb, p, rfl, hq, own⟩
  have hP := ofP_len hc i (by omega)
  repeat (first | refine zrm ?_ | (refine zn ?_; intro _))
  refine exec_cond rfl (fun hlt => ?_) (fun hge => ?_)
  · have hi : i < n := by simp at hlt; omega
    obtain ⟨x, hx⟩ : ∃ x, l[i]? = some x := ⟨_, List.getElem?_eq_getElem (by omega)⟩
    have hxl := hc x (List.mem_of_getElem? hx)
    have hxt := typeL_len x.1 x.2
    repeat (first | refine zrm ?_ | (refine zn ?_; intro _))
    (first | apply ops_pl rfl rfl rfl ?_ rfl ?_ | apply draw_pl rfl rfl rfl rfl ?_ rfl rfl ?_); rotate_left; focus exact (.p rfl (opP_idx rfl rfl hs0 rfl rfl (by omega) (by omega)))
    (first | apply ops_pl rfl rfl rfl ?_ rfl ?_ | apply draw_pl rfl rfl rfl rfl ?_ rfl rfl ?_); rotate_left; focus exact (.l rfl (fun H hs => opL_load rfl ((hs0.at hs).ldA rfl (by decide) hi (typC_at hx))))
    repeat (first | refine zrm ?_ | (refine zn ?_; intro _))
    refine ops_step rfl rfl rfl (step_call_pure rfl rfl rfl (fun H hs => type_ok (by omega)) ?_)
    refine ops_step rfl rfl rfl (step_call_fp [_, _] [_, _] rfl rfl rfl ((List.perm_middle (a := _) (l₁ := [_, _]) (l₂ := [_])).symm) (fun H hs hst => writeString_ok (s := ofP l i) hst ⟨_, _, _, _, _, rfl, hq, own⟩ (by omega) (by omega)) (fun v F' h => ?_))
    obtain ⟨q2, a2, n2, c2, p2, rfl, hq2, own2⟩ := h
    rw [← ofP_succ hx] at own2
    repeat (first | refine zrm ?_ | (refine zn ?_; intro _))
    refine ⟨m - 1, by omega, _, _, ?_, ?_, i + 1, by omega, rfl, _, _, _, _, _, rfl, hq2, own2⟩
    · exact ⟨rfl, rfl, rfl, rfl, rfl, trivial⟩
    · exact List.Sublist.cons_cons _ (List.Sublist.cons_cons _ (List.Sublist.cons _ (List.Sublist.refl _)))
  · have hi : i = l.length := by simp at hge; omega
    subst hi
    repeat (first | refine zrm ?_ | (refine zn ?_; intro _))
    have hkt := typeL_len k cl
    repeat (first | refine zrm ?_ | (refine zn ?_; intro _))
    refine ops_step rfl rfl rfl (step_call_pure rfl rfl rfl (fun H hs => type_ok (by omega)) ?_)
    (first | apply ops_pl rfl rfl rfl ?_ rfl ?_ | apply draw_pl rfl rfl rfl rfl ?_ rfl rfl ?_); rotate_left; focus exact (PL.cat (a := [41]) rfl rfl rfl (by simp; omega))
    refine ops_step rfl rfl rfl (step_call_fp [_, _] [_] rfl rfl rfl (List.Perm.refl _) (fun H hs hst => writeString_ok (s := ofP l l.length) (t := [41] ++ typeL k cl) hst ⟨_, _, _, _, _, rfl, hq, own⟩ (by omega) (by simp; omega)) (fun v F' h => ?_))
    repeat (first | refine zrm ?_ | (refine zn ?_; intro _))
    refine ops_step rfl rfl rfl (step_call_fp F' [_] rfl rfl rfl (List.Perm.refl _) (fun H hs hst => bldString_ok hst h (by simp) (by simp; omega)) (fun v F' h => ?_))
    subst h
    repeat (first | refine zrm ?_ | (refine zn ?_; intro _))
    exact ⟨trivial, _, rfl, rfl⟩
theorem fst_cls (s : List UInt8) : (fstC s).1.2.length ≤ s.length := by
  unfold fstC
  split; · simp
  split; · simp
  split; · simp
  split; · simp
  have := cpL_len (cutL s).1 76
  have h2 : (cutL s).1.length ≤ s.length := by unfold cutL; split <;> simp <;> omega
  exact Nat.le_trans this h2
theorem one_cls (s : List UInt8) : (oneC s).1.2.length ≤ s.length := by
  unfold oneC
  split
  · exact fst_cls s
  · simp
theorem go_cls : ∀ (f : Nat) (p : List (Int × List UInt8)) (s : List UInt8) (B : Nat), s.length ≤ B → (∀ x ∈ p, x.2.length ≤ B) → (∀ x ∈ (goC f p s).1, x.2.length ≤ B) ∧ (goC f p s).1.length ≤ p.length + f ∧ (goC f p s).2.1.length ≤ B
  | 0, p, s, B, hs, hp => ⟨hp, by simp [goC], hs⟩
  | f + 1, p, s, B, hs, hp => by
    have hp2 : ∀ x ∈ p ++ [(fstC s).1], x.2.length ≤ B := fun x hx => by
      rcases List.mem_append.1 hx with h | h
      · exact hp x h
      · cases List.mem_singleton.1 h
        exact Nat.le_trans (fst_cls s) hs
    have hl := fst_len s
    unfold goC
    split
    · exact ⟨hp, by simp, hs⟩
    split
    · have := go_cls f (p ++ [(fstC s).1]) (fstC s).2.1 B (by omega) hp2
      refine ⟨this.1, ?_, this.2.2⟩
      have h2 := this.2.1
      rw [List.length_append] at h2
      simp only [List.length_cons, List.length_nil] at h2
      omega
    · refine ⟨hp2, ?_, by simp only; omega⟩
      simp only [List.length_append, List.length_cons, List.length_nil]
      omega
theorem parse_cls {s : List UInt8} {B : Nat} (hs : s.length ≤ B) : (∀ x ∈ (parseC s).1, x.2.length ≤ B) ∧ (parseC s).1.length ≤ 9 ∧ (parseC s).2.1.2.length ≤ B := by
  have g := go_cls 9 [] (s.drop 1) B (by rw [List.length_drop]; omega) (by simp)
  unfold parseC
  split
  · refine ⟨g.1, by simpa using g.2.1, Nat.le_trans (one_cls _) (Nat.le_trans (cpL_len _ _) g.2.2)⟩
  · simp
end Go.Proofs.YtlhkndjloeoodaaGreat
namespace Go.Ev.Wk
theorem flat_len {α : Type} {f : α → List Value} {z : Nat} (hz : ∀ x, (f x).length = z) : ∀ l : List α, (l.flatMap f).length = l.length * z
  | [] => by simp
  | x :: l => by rw [List.flatMap_cons, List.length_append, hz, flat_len hz l, List.length_cons, Nat.add_mul, Nat.one_mul, Nat.add_comm]
theorem flat_drop {α : Type} {f : α → List Value} {z : Nat} (hz : ∀ x, (f x).length = z) : ∀ (l : List α) (i : Nat), (l.flatMap f).drop (i * z) = (l.drop i).flatMap f
  | l, 0 => by simp
  | [], i + 1 => by simp
  | x :: l, i + 1 => by
    rw [List.flatMap_cons, Nat.add_mul, Nat.one_mul, List.drop_append, List.drop_of_length_le (by rw [hz]; omega), List.nil_append, hz]
    rw [show i * z + z - z = i * z from by omega, flat_drop hz l i, List.drop_succ_cons]
theorem flat_at {α : Type} {f : α → List Value} {z : Nat} (hz : ∀ x, (f x).length = z) {l : List α} {i : Nat} {x : α} (h : l[i]? = some x) : ((l.flatMap f).drop (i * z)).take z = f x := by
  obtain ⟨hi, rfl⟩ := List.getElem?_eq_some_iff.1 h
  rw [flat_drop hz, List.drop_eq_getElem_cons hi, List.flatMap_cons, List.take_left' (hz _)]
theorem flat_get {α : Type} {f : α → List Value} {z : Nat} (hz : ∀ x, (f x).length = z) {l : List α} {i j : Nat} {x : α} {v : Value} (h : l[i]? = some x) (hj : (f x)[j]? = some v) : (l.flatMap f)[i * z + j]? = some v := by
  have hlt : j < z := by have := (List.getElem?_eq_some_iff.1 hj).1; rw [hz] at this; exact this
  have h2 := flat_at hz h
  have : ((l.flatMap f).drop (i * z)).take z = f x := h2
  have e : (((l.flatMap f).drop (i * z)).take z)[j]? = some v := by rw [this]; exact hj
  rw [List.getElem?_take, if_pos hlt, List.getElem?_drop] at e
  exact e
theorem flat_one {α : Type} {f : α → List Value} (l : List α) (x : α) : (l ++ [x]).flatMap f = l.flatMap f ++ f x := by
  rw [List.flatMap_append, List.flatMap_cons, List.flatMap_nil, List.append_nil]
theorem flat_all {α : Type} {f : α → List Value} (hf : ∀ x, (f x).all isCell = true) : ∀ l : List α, (l.flatMap f).all isCell = true
  | [] => rfl
  | x :: l => by rw [List.flatMap_cons, List.all_append, hf, flat_all hf l]; rfl
theorem Sl.ldF {α : Type} {O : Old} {T : Tab} {f : α → List Value} {H : Heap} {v : Value} {z n e i : Nat} {l : List α} {x : α} (h : Sl O H v z n (l.flatMap f)) (hz : ∀ x, (f x).length = z) (he : aggN T e = some z) (hz0 : Nat.blt 0 z = true) (hx : l[i]? = some x) : load T O H e (elemPtr v z i) = some (.agg (f x).toArray) := by
  have hz1 : 0 < z := Nat.le_of_ble_eq_true hz0
  refine h.ldA he hz1 ?_ (flat_at hz hx)
  have h1 := h.1
  rw [flat_len hz] at h1
  have := (List.getElem?_eq_some_iff.1 hx).1
  have := Nat.eq_of_mul_eq_mul_right hz1 h1
  omega
theorem wrL_in : ∀ (vs old a r : List Value), vs.all isCell = true → old.length = vs.length → wrL vs a.length (a ++ (old ++ r)) = some (a ++ (vs ++ r))
  | [], [], a, r, _, _ => rfl
  | [], _ :: _, _, _, _, h => by cases h
  | _ :: _, [], _, _, _, h => by cases h
  | v :: vs, o :: old, a, r, hall, hl => by
    simp only [List.all_cons, Bool.and_eq_true] at hall
    have hb : Nat.blt a.length (a ++ ((o :: old) ++ r)).length = true := Nat.ble_eq_true_of_le (by simp)
    simp only [wrL, hall.1, hb, Bool.and_self, cond_true]
    have e : (a ++ ((o :: old) ++ r)).set a.length v = (a ++ [v]) ++ (old ++ r) := by simp
    rw [e]
    have := wrL_in vs old (a ++ [v]) r hall.2 (by simpa using hl)
    rw [List.length_append] at this
    simpa using this
theorem wrL_flat {α : Type} {f : α → List Value} {z : Nat} (hz : ∀ x, (f x).length = z) {l : List α} {i : Nat} (hi : i < l.length) (x : α) (hall : (f x).all isCell = true) : wrL (f x) (i * z) (l.flatMap f) = some ((l.set i x).flatMap f) := by
  have e1 : l.flatMap f = (l.take i).flatMap f ++ (f l[i] ++ (l.drop (i + 1)).flatMap f) := by
    conv => lhs; rw [← List.take_append_drop i l, List.drop_eq_getElem_cons hi]
    simp only [List.flatMap_append, List.flatMap_cons]
  have e2 : (l.set i x).flatMap f = (l.take i).flatMap f ++ (f x ++ (l.drop (i + 1)).flatMap f) := by
    rw [List.set_eq_take_append_cons_drop, if_pos hi]
    simp only [List.flatMap_append, List.flatMap_cons]
  rw [e1, e2]
  have := wrL_in (f x) (f l[i]) ((l.take i).flatMap f) ((l.drop (i + 1)).flatMap f) hall (by rw [hz, hz])
  rwa [flat_len hz, List.length_take, Nat.min_eq_left (by omega)] at this
section
variable {T : Tab} {O : Old} {X : List Nat} {H0 : Heap} {N : Nat} {E : Env} {L : Atoms}
theorem step_call_fpT {o : Oper} {f : Operand} {xa : Array Operand} {ts : Array TypeId} {g : Nat} {a b : Array Value} {l : List Value} {R : Value → Atoms → Prop} {k : Value → Atoms → Prop} (Rest F : Atoms) (ho : o.op = .call { callee := .value f, args := xa, argTypes := ts })
    (hf : lk E f = some (.func (.func g) a b)) (hx : args (lk E) xa.toList = some l)
    (h : ∀ H, St X H0 H (F ++ Rest) → St (blksOf F) H H F → FpC T O g (a.toList ++ l ++ b.toList) H F R)
    (hk : ∀ v F', R v F' → k v (Rest ++ F')) : StepS T O X H0 E (Rest ++ F) o k :=
  (step_call_fp (k := fun v L' => ∃ F', R v F' ∧ L' = F' ++ Rest) F Rest ho hf hx List.perm_append_comm h (fun v F' hr => ⟨F', hr, rfl⟩)).monoP fun v L1 ⟨F', hr, e⟩ => ⟨Rest ++ F', fun H hs => (e ▸ hs).perm List.perm_append_comm, hk v F' hr⟩
theorem step_call_fp0 {o : Oper} {f : Operand} {xa : Array Operand} {ts : Array TypeId} {g : Nat} {a b : Array Value} {l : List Value} {R : Value → Atoms → Prop} {k : Value → Atoms → Prop} {F : Atoms} (ho : o.op = .call { callee := .value f, args := xa, argTypes := ts })
    (hf : lk E f = some (.func (.func g) a b)) (hx : args (lk E) xa.toList = some l)
    (h : ∀ H, St X H0 H (F ++ []) → St (blksOf F) H H F → FpC T O g (a.toList ++ l ++ b.toList) H F R)
    (hk : ∀ v F', R v F' → k v F') : StepS T O X H0 E F o k := step_call_fpT [] F ho hf hx h hk
theorem step_call_fp1 {o : Oper} {f : Operand} {xa : Array Operand} {ts : Array TypeId} {g : Nat} {a b : Array Value} {l : List Value} {R : Value → Atoms → Prop} {k : Value → Atoms → Prop} {x1 : Option Nat × Cont} {F : Atoms} (ho : o.op = .call { callee := .value f, args := xa, argTypes := ts })
    (hf : lk E f = some (.func (.func g) a b)) (hx : args (lk E) xa.toList = some l)
    (h : ∀ H, St X H0 H (F ++ [x1]) → St (blksOf F) H H F → FpC T O g (a.toList ++ l ++ b.toList) H F R)
    (hk : ∀ v F', R v F' → k v (x1 :: F')) : StepS T O X H0 E (x1 :: F) o k := step_call_fpT [x1] F ho hf hx h hk
theorem step_call_fp2 {o : Oper} {f : Operand} {xa : Array Operand} {ts : Array TypeId} {g : Nat} {a b : Array Value} {l : List Value} {R : Value → Atoms → Prop} {k : Value → Atoms → Prop} {x1 x2 : Option Nat × Cont} {F : Atoms} (ho : o.op = .call { callee := .value f, args := xa, argTypes := ts })
    (hf : lk E f = some (.func (.func g) a b)) (hx : args (lk E) xa.toList = some l)
    (h : ∀ H, St X H0 H (F ++ [x1, x2]) → St (blksOf F) H H F → FpC T O g (a.toList ++ l ++ b.toList) H F R)
    (hk : ∀ v F', R v F' → k v (x1 :: x2 :: F')) : StepS T O X H0 E (x1 :: x2 :: F) o k := step_call_fpT [x1, x2] F ho hf hx h hk
theorem step_call_fp3 {o : Oper} {f : Operand} {xa : Array Operand} {ts : Array TypeId} {g : Nat} {a b : Array Value} {l : List Value} {R : Value → Atoms → Prop} {k : Value → Atoms → Prop} {x1 x2 x3 : Option Nat × Cont} {F : Atoms} (ho : o.op = .call { callee := .value f, args := xa, argTypes := ts })
    (hf : lk E f = some (.func (.func g) a b)) (hx : args (lk E) xa.toList = some l)
    (h : ∀ H, St X H0 H (F ++ [x1, x2, x3]) → St (blksOf F) H H F → FpC T O g (a.toList ++ l ++ b.toList) H F R)
    (hk : ∀ v F', R v F' → k v (x1 :: x2 :: x3 :: F')) : StepS T O X H0 E (x1 :: x2 :: x3 :: F) o k := step_call_fpT [x1, x2, x3] F ho hf hx h hk
theorem step_call_fp4 {o : Oper} {f : Operand} {xa : Array Operand} {ts : Array TypeId} {g : Nat} {a b : Array Value} {l : List Value} {R : Value → Atoms → Prop} {k : Value → Atoms → Prop} {x1 x2 x3 x4 : Option Nat × Cont} {F : Atoms} (ho : o.op = .call { callee := .value f, args := xa, argTypes := ts })
    (hf : lk E f = some (.func (.func g) a b)) (hx : args (lk E) xa.toList = some l)
    (h : ∀ H, St X H0 H (F ++ [x1, x2, x3, x4]) → St (blksOf F) H H F → FpC T O g (a.toList ++ l ++ b.toList) H F R)
    (hk : ∀ v F', R v F' → k v (x1 :: x2 :: x3 :: x4 :: F')) : StepS T O X H0 E (x1 :: x2 :: x3 :: x4 :: F) o k := step_call_fpT [x1, x2, x3, x4] F ho hf hx h hk
theorem look_cvB {b off ver esz ty n cap src e : Nat} {x : Operand} {l : List Value} (i : Nat) (hx : lk E x = some (.slice (some ⟨b, off, some ver⟩) n cap)) (hi : L[i]? = some (some b, .cells ver l esz ty)) (hs : T.und src = some (.slice e)) (he : T.und e = some (.int .u8)) :
    ∀ H, St X H0 H L → opL T O H (lk E) (.convert src src x) = some (.slice (some ⟨b, off, some ver⟩) n cap) := by
  intro H hst
  obtain ⟨cs, p, h1, h2⟩ := hst.get hi
  simp only [opL, hx, convV, hs, he, h1, Nat.beq_refl, Bool.and_self, cond_true]
theorem Keep.app {H : Heap} {P : Heap → Prop} {p : Option Nat × Cont} (h : Keep X H0 P) (hs : St X H0 H L) {i : Nat} (hi : L[i]? = some p) : Keep (blkOf p) H P := fun H' e => h H' ⟨Nat.le_trans hs.ext.next e.next, fun b hb hX => by
  rw [e.same b (Nat.lt_of_lt_of_le hb hs.ext.next) ?_]
  · exact hs.ext.same b hb hX
  · intro hm
    obtain ⟨p1, p2⟩ := p
    simp only [blkOf, Option.mem_toList, Option.mem_def] at hm
    subst hm
    rcases (hs.own _ _ (List.mem_of_getElem? hi)).1 with h1 | h1
    · omega
    · exact hX h1⟩
end
end Go.Ev.Wk
namespace Go.Proofs.YtlhkndjloeoodaaGreat
open Go.Ev Go.Ev.Wk
variable {O : Old}
abbrev ptr (b : Nat) : Value := .pointer (some ⟨b, 0, some 0⟩)
structure HV where
  fr : Int
  to : Int
  at_ : Int
  ct : List UInt8
deriving DecidableEq
abbrev HV.cells (h : HV) : List Value := [.int .i64 h.fr, .int .i64 h.to, .int .i64 h.at_, str h.ct]
abbrev HV.val (h : HV) : Value := .agg h.cells.toArray
structure FV where
  nm : List UInt8
  tk : Int
  tc : List UInt8
  st : Bool
deriving DecidableEq
abbrev FV.cells (f : FV) : List Value := [str f.nm, .int .i64 f.tk, str f.tc, .bool f.st]
abbrev FV.val (f : FV) : Value := .agg f.cells.toArray
structure PM where
  nm : List UInt8
  ps : List (Int × List UInt8)
  rk : Int
  rc : List UInt8
  st : Bool
  ab : Bool
  lo : Int
  cl : List Ins
  hl : List HV
deriving DecidableEq
structure MV extends PM where
  pa : Option Addr
  pc : Nat
  ca : Option Addr
  cc : Nat
  ha : Option Addr
  hc : Nat
abbrev MV.cells (m : MV) : List Value := [str m.nm, .slice m.pa m.ps.length m.pc, .int .i64 m.rk, str m.rc, .bool m.st, .bool m.ab, .int .i64 m.lo, .slice m.ca m.cl.length m.cc, .slice m.ha m.hl.length m.hc]
abbrev MV.val (m : MV) : Value := .agg m.cells.toArray
structure PC where
  nm : List UInt8
  su : List UInt8
  ifs : List (List UInt8)
  kd : Int
  fl : List FV
  ml : List PM
deriving DecidableEq
structure CV where
  nm : List UInt8
  su : List UInt8
  ifs : List (List UInt8)
  kd : Int
  fl : List FV
  ml : List MV
  ia : Option Addr
  ic : Nat
  fa : Option Addr
  fc : Nat
  ma : Option Addr
  mc : Nat
abbrev CV.cells (c : CV) : List Value := [str c.nm, str c.su, .slice c.ia c.ifs.length c.ic, .int .i64 c.kd, .slice c.fa c.fl.length c.fc, .slice c.ma c.ml.length c.mc]
abbrev CV.val (c : CV) : Value := .agg c.cells.toArray
abbrev CV.pc (c : CV) : PC := ⟨c.nm, c.su, c.ifs, c.kd, c.fl, c.ml.map MV.toPM⟩
structure WfI (i : Ins) : Prop where
  n : -2147483648 ≤ i.n ∧ i.n ≤ 2147483647
  s : i.s.length ≤ 1000
  cl : i.cl.length ≤ 1000
  nm : i.nm.length ≤ 1000
  ds : i.ds.length ≤ 1000
structure WfM (m : PM) : Prop where
  nm : m.nm.length ≤ 1000
  ps : ∀ p ∈ m.ps, p.2.length ≤ 1000
  rc : m.rc.length ≤ 1000
  cl : ∀ i ∈ m.cl, WfI i
  hl : ∀ h ∈ m.hl, h.ct.length ≤ 1000
  psn : m.ps.length ≤ 1000000
  cln : m.cl.length ≤ 1000000
  hln : m.hl.length ≤ 1000000
structure WfC (c : PC) : Prop where
  nm : c.nm.length ≤ 1000
  su : c.su.length ≤ 1000
  ifs : ∀ s ∈ c.ifs, s.length ≤ 1000
  fl : ∀ f ∈ c.fl, f.nm.length ≤ 1000 ∧ f.tc.length ≤ 1000
  ml : ∀ m ∈ c.ml, WfM m
  ifn : c.ifs.length ≤ 1000000
  fln : c.fl.length ≤ 1000000
  mln : c.ml.length ≤ 1000000
structure MethF (O : Old) (H : Heap) (m : MV) : Prop where
  ps : Sl O H (.slice m.pa m.ps.length m.pc) 2 m.ps.length (typC m.ps)
  cl : Sl O H (.slice m.ca m.cl.length m.cc) 7 m.cl.length (m.cl.flatMap insL)
  hl : Sl O H (.slice m.ha m.hl.length m.hc) 4 m.hl.length (m.hl.flatMap HV.cells)
structure ClsF (O : Old) (H : Heap) (c : CV) : Prop where
  ifs : Sl O H (.slice c.ia c.ifs.length c.ic) 1 c.ifs.length (c.ifs.map str)
  fl : Sl O H (.slice c.fa c.fl.length c.fc) 4 c.fl.length (c.fl.flatMap FV.cells)
  ml : Sl O H (.slice c.ma c.ml.length c.mc) 9 c.ml.length (c.ml.flatMap MV.cells)
  ms : ∀ m ∈ c.ml, MethF O H m
structure ArcF (O : Old) (H : Heap) (a : Option Addr) (k : Nat) (cl : List CV) : Prop where
  sl : Sl O H (.slice a cl.length k) 6 cl.length (cl.flatMap CV.cells)
  cs : ∀ c ∈ cl, ClsF O H c
theorem MethF.ext {H H' : Heap} {m : MV} (h : MethF O H m) (e : Ext H H') : MethF O H' m := ⟨h.ps.ext e, h.cl.ext e, h.hl.ext e⟩
theorem ClsF.ext {H H' : Heap} {c : CV} (h : ClsF O H c) (e : Ext H H') : ClsF O H' c := ⟨h.ifs.ext e, h.fl.ext e, h.ml.ext e, fun m hm => (h.ms m hm).ext e⟩
theorem ArcF.ext {H H' : Heap} {a : Option Addr} {k : Nat} {cl : List CV} (h : ArcF O H a k cl) (e : Ext H H') : ArcF O H' a k cl := ⟨h.sl.ext e, fun c hc => (h.cs c hc).ext e⟩
def allB {α : Type} (l : List α) (most : Nat) (p : α → Bool) : Bool := decide (l.length ≤ most) && l.all p
def typedB (t : Int × List UInt8) : Bool := rightL t.1 t.2 && decide (t.1 ≠ 5)
def withinB (n most : Int) : Bool := decide (n ≥ 0) && decide (n ≤ most)
def rightF (f : FV) : Bool := nameL f.nm && typedB (f.tk, f.tc)
def rightH (h : HV) : Bool := withinB h.fr 2000 && withinB h.to 2000 && withinB h.at_ 2000 && nameL h.ct
def rightM (m : PM) : Bool := nameL m.nm && allB m.ps 8 typedB && rightL m.rk m.rc && withinB m.lo 200 && allB m.cl 2000 rightI && allB m.hl 50 rightH
def rightC (c : PC) : Bool := nameL c.nm && nameL c.su && allB c.ifs 20 nameL && decide (c.kd ≥ 1) && decide (c.kd ≤ 4) && allB c.fl 100 rightF && allB c.ml 100 rightM
def rightCs (cl : List PC) : Bool := allB cl 400 rightC
def putT (ts : List (List UInt8)) (s : List UInt8) : List (List UInt8) := if s ∈ ts then ts else ts ++ [s]
def twoB (x : Int) : List UInt8 := [UInt8.ofNat ((min (max x 0) 65535).toNat % 256), UInt8.ofNat ((min (max x 0) 65535).toNat / 256)]
abbrev WS := List UInt8 × List (List UInt8)
def wNum (ns : List Int) (w : WS) : WS := (w.1 ++ encL ns, w.2)
def wText1 (w : WS) (s : List UInt8) : WS := (w.1 ++ twoB (((putT w.2 s).idxOf s : Nat) : Int), putT w.2 s)
def wText (l : List (List UInt8)) (w : WS) : WS := l.foldl wText1 w
def wInt (x : Int) (w : WS) : WS := (w.1 ++ enc (zig x).toNat, w.2)
def wInsB (i : Ins) (w : WS) : WS :=
  if usesZ i.op = 1 then wInt i.n w else if usesZ i.op = 2 then wText [i.s] w else if usesZ i.op = 3 then wNum [i.k] w else if usesZ i.op = 4 then wText [i.cl, i.nm] w
  else if usesZ i.op = 5 then wText [i.cl, i.nm, i.ds] w else if usesZ i.op = 6 then wText [i.cl] w else w
def wIns (w : WS) (i : Ins) : WS := wInsB i (wNum [i.op] w)
def bitZ (b : Bool) : Int := if b then 1 else 0
def wHan (w : WS) (h : HV) : WS := wText [h.ct] (wNum [h.fr, h.to, h.at_] w)
def wMeth (w : WS) (m : PM) : WS :=
  m.hl.foldl wHan (wNum [(m.hl.length : Int)] (m.cl.foldl wIns (wNum [bitZ m.st + 2 * bitZ m.ab, m.lo, (m.cl.length : Int)] (wText [m.nm, ofL m.ps m.rk m.rc] w))))
def wField (w : WS) (f : FV) : WS := wNum [bitZ f.st] (wText [f.nm, typeL f.tk f.tc] w)
def wCls (w : WS) (c : PC) : WS :=
  c.ml.foldl wMeth (wNum [(c.ml.length : Int)] (c.fl.foldl wField (wNum [c.kd, (c.fl.length : Int)] (wText c.ifs (wNum [(c.ifs.length : Int)] (wText [c.nm, c.su] w))))))
def wArc (cl : List PC) : WS := cl.foldl wCls (wNum [(cl.length : Int)] ([], []))
def rightA (cl : List PC) : Bool := rightCs cl && decide ((wArc cl).2.length ≤ 10000)
def magicB : List UInt8 := [66, 79, 78, 49]
def putA (cl : List PC) : List UInt8 := if rightA cl then magicB ++ poolB (wArc cl).2 ++ (wArc cl).1 else []
def WLe (w w' : WS) : Prop := w.1.length ≤ w'.1.length ∧ w.2.length ≤ w'.2.length
theorem WLe.refl (w : WS) : WLe w w := ⟨Nat.le_refl _, Nat.le_refl _⟩
theorem WLe.trans {a b c : WS} (h : WLe a b) (h' : WLe b c) : WLe a c := ⟨Nat.le_trans h.1 h'.1, Nat.le_trans h.2 h'.2⟩
theorem putT_ge (ts : List (List UInt8)) (s : List UInt8) : ts.length ≤ (putT ts s).length := by unfold putT; split <;> simp
theorem wNum_ge (ns : List Int) (w : WS) : WLe w (wNum ns w) := ⟨by simp [wNum], Nat.le_refl _⟩
theorem wInt_ge (x : Int) (w : WS) : WLe w (wInt x w) := ⟨by simp [wInt], Nat.le_refl _⟩
theorem wText1_ge (w : WS) (s : List UInt8) : WLe w (wText1 w s) := ⟨by simp [wText1], putT_ge _ _⟩
theorem fold_ge {α : Type} {f : WS → α → WS} (hf : ∀ w x, WLe w (f w x)) : ∀ (l : List α) (w : WS), WLe w (l.foldl f w)
  | [], w => WLe.refl w
  | x :: l, w => (hf w x).trans (fold_ge hf l (f w x))
theorem wText_ge (l : List (List UInt8)) (w : WS) : WLe w (wText l w) := fold_ge wText1_ge l w
theorem wInsB_ge (i : Ins) (w : WS) : WLe w (wInsB i w) := by
  unfold wInsB
  split; · exact wInt_ge _ _
  split; · exact wText_ge _ _
  split; · exact wNum_ge _ _
  split; · exact wText_ge _ _
  split; · exact wText_ge _ _
  split; · exact wText_ge _ _
  exact WLe.refl _
theorem wIns_ge (w : WS) (i : Ins) : WLe w (wIns w i) := (wNum_ge _ _).trans (wInsB_ge _ _)
theorem wHan_ge (w : WS) (h : HV) : WLe w (wHan w h) := (wNum_ge _ _).trans (wText_ge _ _)
theorem wMeth_ge (w : WS) (m : PM) : WLe w (wMeth w m) :=
  (wText_ge _ _).trans ((wNum_ge _ _).trans ((fold_ge wIns_ge _ _).trans ((wNum_ge _ _).trans (fold_ge wHan_ge _ _))))
theorem wField_ge (w : WS) (f : FV) : WLe w (wField w f) := (wText_ge _ _).trans (wNum_ge _ _)
theorem wCls_ge (w : WS) (c : PC) : WLe w (wCls w c) :=
  (wText_ge _ _).trans ((wNum_ge _ _).trans ((wText_ge _ _).trans ((wNum_ge _ _).trans ((fold_ge wField_ge _ _).trans ((wNum_ge _ _).trans (fold_ge wMeth_ge _ _))))))
def Room (w : WS) : Prop := w.1.length ≤ 90000000 ∧ w.2.length ≤ 90000000
theorem Room.le {w w' : WS} (h : Room w') (e : WLe w w') : Room w := ⟨Nat.le_trans e.1 h.1, Nat.le_trans e.2 h.2⟩
theorem fold_snoc {α β : Type} {f : β → α → β} {w : β} {l : List α} {i : Nat} {x : α} (h : l[i]? = some x) : (l.take (i + 1)).foldl f w = f ((l.take i).foldl f w) x := by
  rw [List.take_add_one, h, List.foldl_append]; rfl
theorem fold_take {α : Type} {f : WS → α → WS} (hf : ∀ w x, WLe w (f w x)) (l : List α) (i : Nat) (w : WS) : WLe ((l.take i).foldl f w) (l.foldl f w) := by
  conv => rhs; rw [← List.take_append_drop i l, List.foldl_append]
  exact fold_ge hf _ _
end Go.Proofs.YtlhkndjloeoodaaGreat
namespace Go.Proofs.YtlhkndjloeoodaaGreat
open Go.Ev Go.Ev.Wk
variable {O : Old}
abbrev fnV (g : Nat) : Value := .func (.func g) #[] #[]
theorem any_take {α : Type} {l : List α} {i : Nat} {x : α} {q : α → Bool} (h : l[i]? = some x) : (l.take (i + 1)).any q = ((l.take i).any q || q x) := by
  rw [List.take_add_one, h, List.any_append]; simp
theorem all_any {α : Type} (l : List α) (p : α → Bool) : (!(l.any fun x => !(p x))) = l.all p := by
  induction l with
  | nil => rfl
  | cons x l ih => simp only [List.any_cons, List.all_cons, Bool.not_or, Bool.not_not, ih]
theorem str_get {l : List (List UInt8)} {i : Nat} {x : List UInt8} (h : l[i]? = some x) : (l.map str)[i]? = some (str x) := by
  rw [List.getElem?_map, h]; rfl
set_option maxHeartbeats 8000000 in
set_option maxRecDepth 100000 in
theorem idxfS_ok {H : Heap} {a : Option Addr} {c g : Nat} {b : Array Value} {l : List (List UInt8)} {q : (List UInt8) → Bool} (hs0 : Sl O H (.slice a l.length c) 1 l.length (l.map str)) (hn : l.length ≤ 1000000)
    (hc : ∀ x ∈ l, ∀ H', Ext H H' → CallC TT O g ([str x] ++ b.toList) H' fun v H'' => v = .bool (q x) ∧ Ext H' H'') :
    CallC TT O 178 [.slice a l.length c, .func (.func g) #[] b] H fun v H' => (∃ r : Int, v = .int .i64 r ∧ decide (r ≥ 0) = l.any q) ∧ Ext H H' := by
  refine call_ex rfl rfl rfl rfl rfl ?_
  repeat (first | refine zr ?_ | (refine zn ?_; intro _))
  refine ExecS.weak (E' := [(0, .slice a l.length c), (1, .func (.func g) #[] b), (7, .int .i64 (l.length : Int)), (8, .int .i64 ((0 : Nat) : Int))]) ⟨rfl, rfl, rfl, rfl, trivial⟩ (List.Sublist.refl _) ?_
  refine exec_loop (fun k E L => ∃ i : Nat, i + k = l.length ∧ (l.take i).any q = false ∧ E = [(0, .slice a l.length c), (1, .func (.func g) #[] b), (7, .int .i64 (l.length : Int)), (8, .int .i64 (i : Int))] ∧ L = []) ?_ l.length _ _ ⟨0, by omega, rfl, rfl, rfl⟩
  rintro k E L ⟨i, hik, hpre, rfl, rfl⟩
  repeat (first | refine zr ?_ | (refine zn ?_; intro _))
  refine exec_cond rfl (fun hlt => ?_) (fun hge => ?_)
  · have hi : i < l.length := by simp at hlt; omega
    obtain ⟨x, hx⟩ : ∃ x, l[i]? = some x := ⟨_, List.getElem?_eq_getElem hi⟩
    repeat (first | refine zr ?_ | (refine zn ?_; intro _))
    (first | apply ops_pl rfl rfl rfl ?_ rfl ?_ | apply draw_pl rfl rfl rfl rfl ?_ rfl rfl ?_); rotate_left; focus exact (.p rfl (opP_idx rfl rfl hs0 rfl rfl (by omega) (by omega)))
    (first | apply ops_pl rfl rfl rfl ?_ rfl ?_ | apply draw_pl rfl rfl rfl rfl ?_ rfl rfl ?_); rotate_left; focus exact (.l rfl (fun H hs => opL_load rfl ((hs0.at hs).ld rfl (str_get hx))))
    refine ops_step rfl rfl rfl (step_call_bool rfl rfl rfl (fun H hs => hc x (List.mem_of_getElem? hx) H hs.ext) (fun h => ?_) (fun h => ?_))
    · repeat (first | refine zr ?_ | (refine zn ?_; intro _))
      refine ⟨trivial, _, rfl, (i : Int), rfl, ?_⟩
      have : l.any q = true := List.any_eq_true.2 ⟨x, List.mem_of_getElem? hx, h⟩
      rw [this]; exact decide_eq_true (by omega)
    · repeat (first | refine zr ?_ | (refine zn ?_; intro _))
      refine ⟨k - 1, by omega, _, _, ?_, List.Sublist.refl _, i + 1, by omega, ?_, rfl, rfl⟩
      · exact ⟨rfl, rfl, rfl, rfl, trivial⟩
      · rw [any_take hx, hpre, h]; rfl
  · have hi : l.length ≤ i := by simp at hge; omega
    repeat (first | refine zr ?_ | (refine zn ?_; intro _))
    refine ⟨trivial, _, rfl, -1, rfl, ?_⟩
    rw [List.take_of_length_le hi] at hpre
    rw [hpre]; rfl
set_option maxHeartbeats 8000000 in
set_option maxRecDepth 100000 in
theorem contfS_ok {H : Heap} {a : Option Addr} {c g : Nat} {b : Array Value} {l : List (List UInt8)} {q : (List UInt8) → Bool} (hs0 : Sl O H (.slice a l.length c) 1 l.length (l.map str)) (hn : l.length ≤ 1000000)
    (hc : ∀ x ∈ l, ∀ H', Ext H H' → CallC TT O g ([str x] ++ b.toList) H' fun v H'' => v = .bool (q x) ∧ Ext H' H'') :
    CallC TT O 150 [.slice a l.length c, .func (.func g) #[] b] H fun v H' => v = .bool (l.any q) ∧ Ext H H' := by
  refine call_pure rfl rfl rfl rfl rfl ?_
  repeat (first | refine zr ?_ | (refine zn ?_; intro _))
  refine ops_step rfl rfl rfl (step_call_ex rfl rfl rfl (fun H hs => idxfS_ok (hs0.at hs) hn (fun x hx H' e => hc x hx H' (hs.ext.trans e))) (fun v h => ?_))
  obtain ⟨r, rfl, hr⟩ := h
  repeat (first | refine zr ?_ | (refine zn ?_; intro _))
  exact ⟨trivial, _, rfl, by rw [← hr]; rfl⟩
set_option maxHeartbeats 8000000 in
set_option maxRecDepth 100000 in
theorem allcS_ok {H : Heap} {bb g : Nat} {x : (List UInt8)} {r : Bool} (hb : Keep [] H fun H' => Has H' bb (.cells 0 [fnV g] 0 145)) (hc : ∀ H', Ext H H' → CallC TT O g [str x] H' fun v H'' => v = .bool r ∧ Ext H' H'') :
    CallC TT O 151 [str x, ptr bb] H fun v H' => v = .bool (!r) ∧ Ext H H' := by
  refine call_pure rfl rfl rfl rfl rfl ?_
  repeat (first | refine zr ?_ | (refine zn ?_; intro _))
  (first | apply ops_pl rfl rfl rfl ?_ rfl ?_ | apply draw_pl rfl rfl rfl rfl ?_ rfl rfl ?_); rotate_left; focus exact (.l rfl (look_hasO (fun H hs => hb.at hs) rfl rfl rfl))
  repeat (first | refine zr ?_ | (refine zn ?_; intro _))
  refine ops_step rfl rfl rfl (step_call_pure rfl rfl rfl (fun H hs => hc H hs.ext) ?_)
  repeat (first | refine zr ?_ | (refine zn ?_; intro _))
  exact ⟨trivial, _, rfl, rfl⟩
set_option maxHeartbeats 8000000 in
set_option maxRecDepth 100000 in
theorem allS_ok {H : Heap} {a : Option Addr} {c g most : Nat} {l : List (List UInt8)} {p : (List UInt8) → Bool} (hs0 : Sl O H (.slice a l.length c) 1 l.length (l.map str)) (hn : l.length ≤ 1000000)
    (hc : ∀ x ∈ l, ∀ H', Ext H H' → CallC TT O g [str x] H' fun v H'' => v = .bool (p x) ∧ Ext H' H'') :
    CallC TT O 116 [.slice a l.length c, .int .i64 (most : Int), fnV g] H fun v H' => v = .bool (allB l most p) ∧ Ext H H' := by
  refine call_pure rfl rfl rfl rfl rfl ?_
  repeat (first | refine zr ?_ | (refine zn ?_; intro _))
  cases hd : decide (l.length ≤ most)
  · have : decide ((l.length : Int) ≤ (most : Int)) = false := decide_eq_false (by have := of_decide_eq_false hd; omega)
    rw [this]
    repeat (first | refine zr ?_ | (refine zn ?_; intro _))
    exact ⟨trivial, _, rfl, by rw [allB, hd]; rfl⟩
  · have : decide ((l.length : Int) ≤ (most : Int)) = true := decide_eq_true (by have := of_decide_eq_true hd; omega)
    rw [this]
    repeat (first | refine zr ?_ | (refine zn ?_; intro _))
    refine ops_step rfl rfl rfl (step_call_pure rfl rfl rfl (fun H hs => contfS_ok (q := fun x => !(p x)) (hs0.at hs) hn (fun x hx H' e => allcS_ok ((Rd.has (List.mem_singleton.2 rfl)).pure (hs.extend e)) (fun H'' e' => hc x hx H'' ((hs.ext.trans e).trans e')))) ?_)
    repeat (first | refine zr ?_ | (refine zn ?_; intro _))
    exact ⟨trivial, _, rfl, by rw [allB, hd, Bool.true_and, ← all_any]; rfl⟩
set_option maxHeartbeats 8000000 in
set_option maxRecDepth 100000 in
theorem idxfT_ok {H : Heap} {a : Option Addr} {c g : Nat} {b : Array Value} {l : List (Int × List UInt8)} {q : (Int × List UInt8) → Bool} (hs0 : Sl O H (.slice a l.length c) 2 l.length (typC l)) (hn : l.length ≤ 1000000)
    (hc : ∀ x ∈ l, ∀ H', Ext H H' → CallC TT O g ([typV x] ++ b.toList) H' fun v H'' => v = .bool (q x) ∧ Ext H' H'') :
    CallC TT O 195 [.slice a l.length c, .func (.func g) #[] b] H fun v H' => (∃ r : Int, v = .int .i64 r ∧ decide (r ≥ 0) = l.any q) ∧ Ext H H' := by
  refine call_ex rfl rfl rfl rfl rfl ?_
  repeat (first | refine zr ?_ | (refine zn ?_; intro _))
  refine ExecS.weak (E' := [(0, .slice a l.length c), (1, .func (.func g) #[] b), (7, .int .i64 (l.length : Int)), (8, .int .i64 ((0 : Nat) : Int))]) ⟨rfl, rfl, rfl, rfl, trivial⟩ (List.Sublist.refl _) ?_
  refine exec_loop (fun k E L => ∃ i : Nat, i + k = l.length ∧ (l.take i).any q = false ∧ E = [(0, .slice a l.length c), (1, .func (.func g) #[] b), (7, .int .i64 (l.length : Int)), (8, .int .i64 (i : Int))] ∧ L = []) ?_ l.length _ _ ⟨0, by omega, rfl, rfl, rfl⟩
  rintro k E L ⟨i, hik, hpre, rfl, rfl⟩
  repeat (first | refine zr ?_ | (refine zn ?_; intro _))
  refine exec_cond rfl (fun hlt => ?_) (fun hge => ?_)
  · have hi : i < l.length := by simp at hlt; omega
    obtain ⟨x, hx⟩ : ∃ x, l[i]? = some x := ⟨_, List.getElem?_eq_getElem hi⟩
    repeat (first | refine zr ?_ | (refine zn ?_; intro _))
    (first | apply ops_pl rfl rfl rfl ?_ rfl ?_ | apply draw_pl rfl rfl rfl rfl ?_ rfl rfl ?_); rotate_left; focus exact (.p rfl (opP_idx rfl rfl hs0 rfl rfl (by omega) (by omega)))
    (first | apply ops_pl rfl rfl rfl ?_ rfl ?_ | apply draw_pl rfl rfl rfl rfl ?_ rfl rfl ?_); rotate_left; focus exact (.l rfl (fun H hs => opL_load rfl ((hs0.at hs).ldA rfl (by decide) hi (typC_at hx))))
    refine ops_step rfl rfl rfl (step_call_bool rfl rfl rfl (fun H hs => hc x (List.mem_of_getElem? hx) H hs.ext) (fun h => ?_) (fun h => ?_))
    · repeat (first | refine zr ?_ | (refine zn ?_; intro _))
      refine ⟨trivial, _, rfl, (i : Int), rfl, ?_⟩
      have : l.any q = true := List.any_eq_true.2 ⟨x, List.mem_of_getElem? hx, h⟩
      rw [this]; exact decide_eq_true (by omega)
    · repeat (first | refine zr ?_ | (refine zn ?_; intro _))
      refine ⟨k - 1, by omega, _, _, ?_, List.Sublist.refl _, i + 1, by omega, ?_, rfl, rfl⟩
      · exact ⟨rfl, rfl, rfl, rfl, trivial⟩
      · rw [any_take hx, hpre, h]; rfl
  · have hi : l.length ≤ i := by simp at hge; omega
    repeat (first | refine zr ?_ | (refine zn ?_; intro _))
    refine ⟨trivial, _, rfl, -1, rfl, ?_⟩
    rw [List.take_of_length_le hi] at hpre
    rw [hpre]; rfl
set_option maxHeartbeats 8000000 in
set_option maxRecDepth 100000 in
theorem contfT_ok {H : Heap} {a : Option Addr} {c g : Nat} {b : Array Value} {l : List (Int × List UInt8)} {q : (Int × List UInt8) → Bool} (hs0 : Sl O H (.slice a l.length c) 2 l.length (typC l)) (hn : l.length ≤ 1000000)
    (hc : ∀ x ∈ l, ∀ H', Ext H H' → CallC TT O g ([typV x] ++ b.toList) H' fun v H'' => v = .bool (q x) ∧ Ext H' H'') :
    CallC TT O 181 [.slice a l.length c, .func (.func g) #[] b] H fun v H' => v = .bool (l.any q) ∧ Ext H H' := by
  refine call_pure rfl rfl rfl rfl rfl ?_
  repeat (first | refine zr ?_ | (refine zn ?_; intro _))
  refine ops_step rfl rfl rfl (step_call_ex rfl rfl rfl (fun H hs => idxfT_ok (hs0.at hs) hn (fun x hx H' e => hc x hx H' (hs.ext.trans e))) (fun v h => ?_))
  obtain ⟨r, rfl, hr⟩ := h
  repeat (first | refine zr ?_ | (refine zn ?_; intro _))
  exact ⟨trivial, _, rfl, by rw [← hr]; rfl⟩
set_option maxHeartbeats 8000000 in
set_option maxRecDepth 100000 in
theorem allcT_ok {H : Heap} {bb g : Nat} {x : (Int × List UInt8)} {r : Bool} (hb : Keep [] H fun H' => Has H' bb (.cells 0 [fnV g] 0 146)) (hc : ∀ H', Ext H H' → CallC TT O g [typV x] H' fun v H'' => v = .bool r ∧ Ext H' H'') :
    CallC TT O 182 [typV x, ptr bb] H fun v H' => v = .bool (!r) ∧ Ext H H' := by
  refine call_pure rfl rfl rfl rfl rfl ?_
  repeat (first | refine zr ?_ | (refine zn ?_; intro _))
  (first | apply ops_pl rfl rfl rfl ?_ rfl ?_ | apply draw_pl rfl rfl rfl rfl ?_ rfl rfl ?_); rotate_left; focus exact (.l rfl (look_hasO (fun H hs => hb.at hs) rfl rfl rfl))
  repeat (first | refine zr ?_ | (refine zn ?_; intro _))
  refine ops_step rfl rfl rfl (step_call_pure rfl rfl rfl (fun H hs => hc H hs.ext) ?_)
  repeat (first | refine zr ?_ | (refine zn ?_; intro _))
  exact ⟨trivial, _, rfl, rfl⟩
set_option maxHeartbeats 8000000 in
set_option maxRecDepth 100000 in
theorem allT_ok {H : Heap} {a : Option Addr} {c g most : Nat} {l : List (Int × List UInt8)} {p : (Int × List UInt8) → Bool} (hs0 : Sl O H (.slice a l.length c) 2 l.length (typC l)) (hn : l.length ≤ 1000000)
    (hc : ∀ x ∈ l, ∀ H', Ext H H' → CallC TT O g [typV x] H' fun v H'' => v = .bool (p x) ∧ Ext H' H'') :
    CallC TT O 157 [.slice a l.length c, .int .i64 (most : Int), fnV g] H fun v H' => v = .bool (allB l most p) ∧ Ext H H' := by
  refine call_pure rfl rfl rfl rfl rfl ?_
  repeat (first | refine zr ?_ | (refine zn ?_; intro _))
  cases hd : decide (l.length ≤ most)
  · have : decide ((l.length : Int) ≤ (most : Int)) = false := decide_eq_false (by have := of_decide_eq_false hd; omega)
    rw [this]
    repeat (first | refine zr ?_ | (refine zn ?_; intro _))
    exact ⟨trivial, _, rfl, by rw [allB, hd]; rfl⟩
  · have : decide ((l.length : Int) ≤ (most : Int)) = true := decide_eq_true (by have := of_decide_eq_true hd; omega)
    rw [this]
    repeat (first | refine zr ?_ | (refine zn ?_; intro _))
    refine ops_step rfl rfl rfl (step_call_pure rfl rfl rfl (fun H hs => contfT_ok (q := fun x => !(p x)) (hs0.at hs) hn (fun x hx H' e => allcT_ok ((Rd.has (List.mem_singleton.2 rfl)).pure (hs.extend e)) (fun H'' e' => hc x hx H'' ((hs.ext.trans e).trans e')))) ?_)
    repeat (first | refine zr ?_ | (refine zn ?_; intro _))
    exact ⟨trivial, _, rfl, by rw [allB, hd, Bool.true_and, ← all_any]; rfl⟩
set_option maxHeartbeats 8000000 in
set_option maxRecDepth 100000 in
theorem idxfF_ok {H : Heap} {a : Option Addr} {c g : Nat} {b : Array Value} {l : List FV} {q : FV → Bool} (hs0 : Sl O H (.slice a l.length c) 4 l.length (l.flatMap FV.cells)) (hn : l.length ≤ 1000000)
    (hc : ∀ x ∈ l, ∀ H', Ext H H' → CallC TT O g ([.agg (FV.cells x).toArray] ++ b.toList) H' fun v H'' => v = .bool (q x) ∧ Ext H' H'') :
    CallC TT O 179 [.slice a l.length c, .func (.func g) #[] b] H fun v H' => (∃ r : Int, v = .int .i64 r ∧ decide (r ≥ 0) = l.any q) ∧ Ext H H' := by
  refine call_ex rfl rfl rfl rfl rfl ?_
  repeat (first | refine zr ?_ | (refine zn ?_; intro _))
  refine ExecS.weak (E' := [(0, .slice a l.length c), (1, .func (.func g) #[] b), (7, .int .i64 (l.length : Int)), (8, .int .i64 ((0 : Nat) : Int))]) ⟨rfl, rfl, rfl, rfl, trivial⟩ (List.Sublist.refl _) ?_
  refine exec_loop (fun k E L => ∃ i : Nat, i + k = l.length ∧ (l.take i).any q = false ∧ E = [(0, .slice a l.length c), (1, .func (.func g) #[] b), (7, .int .i64 (l.length : Int)), (8, .int .i64 (i : Int))] ∧ L = []) ?_ l.length _ _ ⟨0, by omega, rfl, rfl, rfl⟩
  rintro k E L ⟨i, hik, hpre, rfl, rfl⟩
  repeat (first | refine zr ?_ | (refine zn ?_; intro _))
  refine exec_cond rfl (fun hlt => ?_) (fun hge => ?_)
  · have hi : i < l.length := by simp at hlt; omega
    obtain ⟨x, hx⟩ : ∃ x, l[i]? = some x := ⟨_, List.getElem?_eq_getElem hi⟩
    repeat (first | refine zr ?_ | (refine zn ?_; intro _))
    (first | apply ops_pl rfl rfl rfl ?_ rfl ?_ | apply draw_pl rfl rfl rfl rfl ?_ rfl rfl ?_); rotate_left; focus exact (.p rfl (opP_idx rfl rfl hs0 rfl rfl (by omega) (by omega)))
    (first | apply ops_pl rfl rfl rfl ?_ rfl ?_ | apply draw_pl rfl rfl rfl rfl ?_ rfl rfl ?_); rotate_left; focus exact (.l rfl (fun H hs => opL_load rfl ((hs0.at hs).ldF (fun _ => rfl) rfl rfl hx)))
    refine ops_step rfl rfl rfl (step_call_bool rfl rfl rfl (fun H hs => hc x (List.mem_of_getElem? hx) H hs.ext) (fun h => ?_) (fun h => ?_))
    · repeat (first | refine zr ?_ | (refine zn ?_; intro _))
      refine ⟨trivial, _, rfl, (i : Int), rfl, ?_⟩
      have : l.any q = true := List.any_eq_true.2 ⟨x, List.mem_of_getElem? hx, h⟩
      rw [this]; exact decide_eq_true (by omega)
    · repeat (first | refine zr ?_ | (refine zn ?_; intro _))
      refine ⟨k - 1, by omega, _, _, ?_, List.Sublist.refl _, i + 1, by omega, ?_, rfl, rfl⟩
      · exact ⟨rfl, rfl, rfl, rfl, trivial⟩
      · rw [any_take hx, hpre, h]; rfl
  · have hi : l.length ≤ i := by simp at hge; omega
    repeat (first | refine zr ?_ | (refine zn ?_; intro _))
    refine ⟨trivial, _, rfl, -1, rfl, ?_⟩
    rw [List.take_of_length_le hi] at hpre
    rw [hpre]; rfl
set_option maxHeartbeats 8000000 in
set_option maxRecDepth 100000 in
theorem contfF_ok {H : Heap} {a : Option Addr} {c g : Nat} {b : Array Value} {l : List FV} {q : FV → Bool} (hs0 : Sl O H (.slice a l.length c) 4 l.length (l.flatMap FV.cells)) (hn : l.length ≤ 1000000)
    (hc : ∀ x ∈ l, ∀ H', Ext H H' → CallC TT O g ([.agg (FV.cells x).toArray] ++ b.toList) H' fun v H'' => v = .bool (q x) ∧ Ext H' H'') :
    CallC TT O 152 [.slice a l.length c, .func (.func g) #[] b] H fun v H' => v = .bool (l.any q) ∧ Ext H H' := by
  refine call_pure rfl rfl rfl rfl rfl ?_
  repeat (first | refine zr ?_ | (refine zn ?_; intro _))
  refine ops_step rfl rfl rfl (step_call_ex rfl rfl rfl (fun H hs => idxfF_ok (hs0.at hs) hn (fun x hx H' e => hc x hx H' (hs.ext.trans e))) (fun v h => ?_))
  obtain ⟨r, rfl, hr⟩ := h
  repeat (first | refine zr ?_ | (refine zn ?_; intro _))
  exact ⟨trivial, _, rfl, by rw [← hr]; rfl⟩
set_option maxHeartbeats 8000000 in
set_option maxRecDepth 100000 in
theorem allcF_ok {H : Heap} {bb g : Nat} {x : FV} {r : Bool} (hb : Keep [] H fun H' => Has H' bb (.cells 0 [fnV g] 0 175)) (hc : ∀ H', Ext H H' → CallC TT O g [.agg (FV.cells x).toArray] H' fun v H'' => v = .bool r ∧ Ext H' H'') :
    CallC TT O 153 [.agg (FV.cells x).toArray, ptr bb] H fun v H' => v = .bool (!r) ∧ Ext H H' := by
  refine call_pure rfl rfl rfl rfl rfl ?_
  repeat (first | refine zr ?_ | (refine zn ?_; intro _))
  (first | apply ops_pl rfl rfl rfl ?_ rfl ?_ | apply draw_pl rfl rfl rfl rfl ?_ rfl rfl ?_); rotate_left; focus exact (.l rfl (look_hasO (fun H hs => hb.at hs) rfl rfl rfl))
  repeat (first | refine zr ?_ | (refine zn ?_; intro _))
  refine ops_step rfl rfl rfl (step_call_pure rfl rfl rfl (fun H hs => hc H hs.ext) ?_)
  repeat (first | refine zr ?_ | (refine zn ?_; intro _))
  exact ⟨trivial, _, rfl, rfl⟩
set_option maxHeartbeats 8000000 in
set_option maxRecDepth 100000 in
theorem allF_ok {H : Heap} {a : Option Addr} {c g most : Nat} {l : List FV} {p : FV → Bool} (hs0 : Sl O H (.slice a l.length c) 4 l.length (l.flatMap FV.cells)) (hn : l.length ≤ 1000000)
    (hc : ∀ x ∈ l, ∀ H', Ext H H' → CallC TT O g [.agg (FV.cells x).toArray] H' fun v H'' => v = .bool (p x) ∧ Ext H' H'') :
    CallC TT O 117 [.slice a l.length c, .int .i64 (most : Int), fnV g] H fun v H' => v = .bool (allB l most p) ∧ Ext H H' := by
  refine call_pure rfl rfl rfl rfl rfl ?_
  repeat (first | refine zr ?_ | (refine zn ?_; intro _))
  cases hd : decide (l.length ≤ most)
  · have : decide ((l.length : Int) ≤ (most : Int)) = false := decide_eq_false (by have := of_decide_eq_false hd; omega)
    rw [this]
    repeat (first | refine zr ?_ | (refine zn ?_; intro _))
    exact ⟨trivial, _, rfl, by rw [allB, hd]; rfl⟩
  · have : decide ((l.length : Int) ≤ (most : Int)) = true := decide_eq_true (by have := of_decide_eq_true hd; omega)
    rw [this]
    repeat (first | refine zr ?_ | (refine zn ?_; intro _))
    refine ops_step rfl rfl rfl (step_call_pure rfl rfl rfl (fun H hs => contfF_ok (q := fun x => !(p x)) (hs0.at hs) hn (fun x hx H' e => allcF_ok ((Rd.has (List.mem_singleton.2 rfl)).pure (hs.extend e)) (fun H'' e' => hc x hx H'' ((hs.ext.trans e).trans e')))) ?_)
    repeat (first | refine zr ?_ | (refine zn ?_; intro _))
    exact ⟨trivial, _, rfl, by rw [allB, hd, Bool.true_and, ← all_any]; rfl⟩
set_option maxHeartbeats 8000000 in
set_option maxRecDepth 100000 in
theorem idxfI_ok {H : Heap} {a : Option Addr} {c g : Nat} {b : Array Value} {l : List Ins} {q : Ins → Bool} (hs0 : Sl O H (.slice a l.length c) 7 l.length (l.flatMap insL)) (hn : l.length ≤ 1000000)
    (hc : ∀ x ∈ l, ∀ H', Ext H H' → CallC TT O g ([.agg (insL x).toArray] ++ b.toList) H' fun v H'' => v = .bool (q x) ∧ Ext H' H'') :
    CallC TT O 196 [.slice a l.length c, .func (.func g) #[] b] H fun v H' => (∃ r : Int, v = .int .i64 r ∧ decide (r ≥ 0) = l.any q) ∧ Ext H H' := by
  refine call_ex rfl rfl rfl rfl rfl ?_
  repeat (first | refine zr ?_ | (refine zn ?_; intro _))
  refine ExecS.weak (E' := [(0, .slice a l.length c), (1, .func (.func g) #[] b), (7, .int .i64 (l.length : Int)), (8, .int .i64 ((0 : Nat) : Int))]) ⟨rfl, rfl, rfl, rfl, trivial⟩ (List.Sublist.refl _) ?_
  refine exec_loop (fun k E L => ∃ i : Nat, i + k = l.length ∧ (l.take i).any q = false ∧ E = [(0, .slice a l.length c), (1, .func (.func g) #[] b), (7, .int .i64 (l.length : Int)), (8, .int .i64 (i : Int))] ∧ L = []) ?_ l.length _ _ ⟨0, by omega, rfl, rfl, rfl⟩
  rintro k E L ⟨i, hik, hpre, rfl, rfl⟩
  repeat (first | refine zr ?_ | (refine zn ?_; intro _))
  refine exec_cond rfl (fun hlt => ?_) (fun hge => ?_)
  · have hi : i < l.length := by simp at hlt; omega
    obtain ⟨x, hx⟩ : ∃ x, l[i]? = some x := ⟨_, List.getElem?_eq_getElem hi⟩
    repeat (first | refine zr ?_ | (refine zn ?_; intro _))
    (first | apply ops_pl rfl rfl rfl ?_ rfl ?_ | apply draw_pl rfl rfl rfl rfl ?_ rfl rfl ?_); rotate_left; focus exact (.p rfl (opP_idx rfl rfl hs0 rfl rfl (by omega) (by omega)))
    (first | apply ops_pl rfl rfl rfl ?_ rfl ?_ | apply draw_pl rfl rfl rfl rfl ?_ rfl rfl ?_); rotate_left; focus exact (.l rfl (fun H hs => opL_load rfl ((hs0.at hs).ldF (fun _ => rfl) rfl rfl hx)))
    refine ops_step rfl rfl rfl (step_call_bool rfl rfl rfl (fun H hs => hc x (List.mem_of_getElem? hx) H hs.ext) (fun h => ?_) (fun h => ?_))
    · repeat (first | refine zr ?_ | (refine zn ?_; intro _))
      refine ⟨trivial, _, rfl, (i : Int), rfl, ?_⟩
      have : l.any q = true := List.any_eq_true.2 ⟨x, List.mem_of_getElem? hx, h⟩
      rw [this]; exact decide_eq_true (by omega)
    · repeat (first | refine zr ?_ | (refine zn ?_; intro _))
      refine ⟨k - 1, by omega, _, _, ?_, List.Sublist.refl _, i + 1, by omega, ?_, rfl, rfl⟩
      · exact ⟨rfl, rfl, rfl, rfl, trivial⟩
      · rw [any_take hx, hpre, h]; rfl
  · have hi : l.length ≤ i := by simp at hge; omega
    repeat (first | refine zr ?_ | (refine zn ?_; intro _))
    refine ⟨trivial, _, rfl, -1, rfl, ?_⟩
    rw [List.take_of_length_le hi] at hpre
    rw [hpre]; rfl
set_option maxHeartbeats 8000000 in
set_option maxRecDepth 100000 in
theorem contfI_ok {H : Heap} {a : Option Addr} {c g : Nat} {b : Array Value} {l : List Ins} {q : Ins → Bool} (hs0 : Sl O H (.slice a l.length c) 7 l.length (l.flatMap insL)) (hn : l.length ≤ 1000000)
    (hc : ∀ x ∈ l, ∀ H', Ext H H' → CallC TT O g ([.agg (insL x).toArray] ++ b.toList) H' fun v H'' => v = .bool (q x) ∧ Ext H' H'') :
    CallC TT O 183 [.slice a l.length c, .func (.func g) #[] b] H fun v H' => v = .bool (l.any q) ∧ Ext H H' := by
  refine call_pure rfl rfl rfl rfl rfl ?_
  repeat (first | refine zr ?_ | (refine zn ?_; intro _))
  refine ops_step rfl rfl rfl (step_call_ex rfl rfl rfl (fun H hs => idxfI_ok (hs0.at hs) hn (fun x hx H' e => hc x hx H' (hs.ext.trans e))) (fun v h => ?_))
  obtain ⟨r, rfl, hr⟩ := h
  repeat (first | refine zr ?_ | (refine zn ?_; intro _))
  exact ⟨trivial, _, rfl, by rw [← hr]; rfl⟩
set_option maxHeartbeats 8000000 in
set_option maxRecDepth 100000 in
theorem allcI_ok {H : Heap} {bb g : Nat} {x : Ins} {r : Bool} (hb : Keep [] H fun H' => Has H' bb (.cells 0 [fnV g] 0 130)) (hc : ∀ H', Ext H H' → CallC TT O g [.agg (insL x).toArray] H' fun v H'' => v = .bool r ∧ Ext H' H'') :
    CallC TT O 184 [.agg (insL x).toArray, ptr bb] H fun v H' => v = .bool (!r) ∧ Ext H H' := by
  refine call_pure rfl rfl rfl rfl rfl ?_
  repeat (first | refine zr ?_ | (refine zn ?_; intro _))
  (first | apply ops_pl rfl rfl rfl ?_ rfl ?_ | apply draw_pl rfl rfl rfl rfl ?_ rfl rfl ?_); rotate_left; focus exact (.l rfl (look_hasO (fun H hs => hb.at hs) rfl rfl rfl))
  repeat (first | refine zr ?_ | (refine zn ?_; intro _))
  refine ops_step rfl rfl rfl (step_call_pure rfl rfl rfl (fun H hs => hc H hs.ext) ?_)
  repeat (first | refine zr ?_ | (refine zn ?_; intro _))
  exact ⟨trivial, _, rfl, rfl⟩
set_option maxHeartbeats 8000000 in
set_option maxRecDepth 100000 in
theorem allI_ok {H : Heap} {a : Option Addr} {c g most : Nat} {l : List Ins} {p : Ins → Bool} (hs0 : Sl O H (.slice a l.length c) 7 l.length (l.flatMap insL)) (hn : l.length ≤ 1000000)
    (hc : ∀ x ∈ l, ∀ H', Ext H H' → CallC TT O g [.agg (insL x).toArray] H' fun v H'' => v = .bool (p x) ∧ Ext H' H'') :
    CallC TT O 160 [.slice a l.length c, .int .i64 (most : Int), fnV g] H fun v H' => v = .bool (allB l most p) ∧ Ext H H' := by
  refine call_pure rfl rfl rfl rfl rfl ?_
  repeat (first | refine zr ?_ | (refine zn ?_; intro _))
  cases hd : decide (l.length ≤ most)
  · have : decide ((l.length : Int) ≤ (most : Int)) = false := decide_eq_false (by have := of_decide_eq_false hd; omega)
    rw [this]
    repeat (first | refine zr ?_ | (refine zn ?_; intro _))
    exact ⟨trivial, _, rfl, by rw [allB, hd]; rfl⟩
  · have : decide ((l.length : Int) ≤ (most : Int)) = true := decide_eq_true (by have := of_decide_eq_true hd; omega)
    rw [this]
    repeat (first | refine zr ?_ | (refine zn ?_; intro _))
    refine ops_step rfl rfl rfl (step_call_pure rfl rfl rfl (fun H hs => contfI_ok (q := fun x => !(p x)) (hs0.at hs) hn (fun x hx H' e => allcI_ok ((Rd.has (List.mem_singleton.2 rfl)).pure (hs.extend e)) (fun H'' e' => hc x hx H'' ((hs.ext.trans e).trans e')))) ?_)
    repeat (first | refine zr ?_ | (refine zn ?_; intro _))
    exact ⟨trivial, _, rfl, by rw [allB, hd, Bool.true_and, ← all_any]; rfl⟩
set_option maxHeartbeats 8000000 in
set_option maxRecDepth 100000 in
theorem idxfH_ok {H : Heap} {a : Option Addr} {c g : Nat} {b : Array Value} {l : List HV} {q : HV → Bool} (hs0 : Sl O H (.slice a l.length c) 4 l.length (l.flatMap HV.cells)) (hn : l.length ≤ 1000000)
    (hc : ∀ x ∈ l, ∀ H', Ext H H' → CallC TT O g ([.agg (HV.cells x).toArray] ++ b.toList) H' fun v H'' => v = .bool (q x) ∧ Ext H' H'') :
    CallC TT O 197 [.slice a l.length c, .func (.func g) #[] b] H fun v H' => (∃ r : Int, v = .int .i64 r ∧ decide (r ≥ 0) = l.any q) ∧ Ext H H' := by
  refine call_ex rfl rfl rfl rfl rfl ?_
  repeat (first | refine zr ?_ | (refine zn ?_; intro _))
  refine ExecS.weak (E' := [(0, .slice a l.length c), (1, .func (.func g) #[] b), (7, .int .i64 (l.length : Int)), (8, .int .i64 ((0 : Nat) : Int))]) ⟨rfl, rfl, rfl, rfl, trivial⟩ (List.Sublist.refl _) ?_
  refine exec_loop (fun k E L => ∃ i : Nat, i + k = l.length ∧ (l.take i).any q = false ∧ E = [(0, .slice a l.length c), (1, .func (.func g) #[] b), (7, .int .i64 (l.length : Int)), (8, .int .i64 (i : Int))] ∧ L = []) ?_ l.length _ _ ⟨0, by omega, rfl, rfl, rfl⟩
  rintro k E L ⟨i, hik, hpre, rfl, rfl⟩
  repeat (first | refine zr ?_ | (refine zn ?_; intro _))
  refine exec_cond rfl (fun hlt => ?_) (fun hge => ?_)
  · have hi : i < l.length := by simp at hlt; omega
    obtain ⟨x, hx⟩ : ∃ x, l[i]? = some x := ⟨_, List.getElem?_eq_getElem hi⟩
    repeat (first | refine zr ?_ | (refine zn ?_; intro _))
    (first | apply ops_pl rfl rfl rfl ?_ rfl ?_ | apply draw_pl rfl rfl rfl rfl ?_ rfl rfl ?_); rotate_left; focus exact (.p rfl (opP_idx rfl rfl hs0 rfl rfl (by omega) (by omega)))
    (first | apply ops_pl rfl rfl rfl ?_ rfl ?_ | apply draw_pl rfl rfl rfl rfl ?_ rfl rfl ?_); rotate_left; focus exact (.l rfl (fun H hs => opL_load rfl ((hs0.at hs).ldF (fun _ => rfl) rfl rfl hx)))
    refine ops_step rfl rfl rfl (step_call_bool rfl rfl rfl (fun H hs => hc x (List.mem_of_getElem? hx) H hs.ext) (fun h => ?_) (fun h => ?_))
    · repeat (first | refine zr ?_ | (refine zn ?_; intro _))
      refine ⟨trivial, _, rfl, (i : Int), rfl, ?_⟩
      have : l.any q = true := List.any_eq_true.2 ⟨x, List.mem_of_getElem? hx, h⟩
      rw [this]; exact decide_eq_true (by omega)
    · repeat (first | refine zr ?_ | (refine zn ?_; intro _))
      refine ⟨k - 1, by omega, _, _, ?_, List.Sublist.refl _, i + 1, by omega, ?_, rfl, rfl⟩
      · exact ⟨rfl, rfl, rfl, rfl, trivial⟩
      · rw [any_take hx, hpre, h]; rfl
  · have hi : l.length ≤ i := by simp at hge; omega
    repeat (first | refine zr ?_ | (refine zn ?_; intro _))
    refine ⟨trivial, _, rfl, -1, rfl, ?_⟩
    rw [List.take_of_length_le hi] at hpre
    rw [hpre]; rfl
set_option maxHeartbeats 8000000 in
set_option maxRecDepth 100000 in
theorem contfH_ok {H : Heap} {a : Option Addr} {c g : Nat} {b : Array Value} {l : List HV} {q : HV → Bool} (hs0 : Sl O H (.slice a l.length c) 4 l.length (l.flatMap HV.cells)) (hn : l.length ≤ 1000000)
    (hc : ∀ x ∈ l, ∀ H', Ext H H' → CallC TT O g ([.agg (HV.cells x).toArray] ++ b.toList) H' fun v H'' => v = .bool (q x) ∧ Ext H' H'') :
    CallC TT O 186 [.slice a l.length c, .func (.func g) #[] b] H fun v H' => v = .bool (l.any q) ∧ Ext H H' := by
  refine call_pure rfl rfl rfl rfl rfl ?_
  repeat (first | refine zr ?_ | (refine zn ?_; intro _))
  refine ops_step rfl rfl rfl (step_call_ex rfl rfl rfl (fun H hs => idxfH_ok (hs0.at hs) hn (fun x hx H' e => hc x hx H' (hs.ext.trans e))) (fun v h => ?_))
  obtain ⟨r, rfl, hr⟩ := h
  repeat (first | refine zr ?_ | (refine zn ?_; intro _))
  exact ⟨trivial, _, rfl, by rw [← hr]; rfl⟩
set_option maxHeartbeats 8000000 in
set_option maxRecDepth 100000 in
theorem allcH_ok {H : Heap} {bb g : Nat} {x : HV} {r : Bool} (hb : Keep [] H fun H' => Has H' bb (.cells 0 [fnV g] 0 207)) (hc : ∀ H', Ext H H' → CallC TT O g [.agg (HV.cells x).toArray] H' fun v H'' => v = .bool r ∧ Ext H' H'') :
    CallC TT O 187 [.agg (HV.cells x).toArray, ptr bb] H fun v H' => v = .bool (!r) ∧ Ext H H' := by
  refine call_pure rfl rfl rfl rfl rfl ?_
  repeat (first | refine zr ?_ | (refine zn ?_; intro _))
  (first | apply ops_pl rfl rfl rfl ?_ rfl ?_ | apply draw_pl rfl rfl rfl rfl ?_ rfl rfl ?_); rotate_left; focus exact (.l rfl (look_hasO (fun H hs => hb.at hs) rfl rfl rfl))
  repeat (first | refine zr ?_ | (refine zn ?_; intro _))
  refine ops_step rfl rfl rfl (step_call_pure rfl rfl rfl (fun H hs => hc H hs.ext) ?_)
  repeat (first | refine zr ?_ | (refine zn ?_; intro _))
  exact ⟨trivial, _, rfl, rfl⟩
set_option maxHeartbeats 8000000 in
set_option maxRecDepth 100000 in
theorem allH_ok {H : Heap} {a : Option Addr} {c g most : Nat} {l : List HV} {p : HV → Bool} (hs0 : Sl O H (.slice a l.length c) 4 l.length (l.flatMap HV.cells)) (hn : l.length ≤ 1000000)
    (hc : ∀ x ∈ l, ∀ H', Ext H H' → CallC TT O g [.agg (HV.cells x).toArray] H' fun v H'' => v = .bool (p x) ∧ Ext H' H'') :
    CallC TT O 162 [.slice a l.length c, .int .i64 (most : Int), fnV g] H fun v H' => v = .bool (allB l most p) ∧ Ext H H' := by
  refine call_pure rfl rfl rfl rfl rfl ?_
  repeat (first | refine zr ?_ | (refine zn ?_; intro _))
  cases hd : decide (l.length ≤ most)
  · have : decide ((l.length : Int) ≤ (most : Int)) = false := decide_eq_false (by have := of_decide_eq_false hd; omega)
    rw [this]
    repeat (first | refine zr ?_ | (refine zn ?_; intro _))
    exact ⟨trivial, _, rfl, by rw [allB, hd]; rfl⟩
  · have : decide ((l.length : Int) ≤ (most : Int)) = true := decide_eq_true (by have := of_decide_eq_true hd; omega)
    rw [this]
    repeat (first | refine zr ?_ | (refine zn ?_; intro _))
    refine ops_step rfl rfl rfl (step_call_pure rfl rfl rfl (fun H hs => contfH_ok (q := fun x => !(p x)) (hs0.at hs) hn (fun x hx H' e => allcH_ok ((Rd.has (List.mem_singleton.2 rfl)).pure (hs.extend e)) (fun H'' e' => hc x hx H'' ((hs.ext.trans e).trans e')))) ?_)
    repeat (first | refine zr ?_ | (refine zn ?_; intro _))
    exact ⟨trivial, _, rfl, by rw [allB, hd, Bool.true_and, ← all_any]; rfl⟩
set_option maxHeartbeats 8000000 in
set_option maxRecDepth 100000 in
theorem idxfM_ok {H : Heap} {a : Option Addr} {c g : Nat} {b : Array Value} {l : List MV} {q : MV → Bool} (hs0 : Sl O H (.slice a l.length c) 9 l.length (l.flatMap MV.cells)) (hn : l.length ≤ 1000000)
    (hc : ∀ x ∈ l, ∀ H', Ext H H' → CallC TT O g ([.agg (MV.cells x).toArray] ++ b.toList) H' fun v H'' => v = .bool (q x) ∧ Ext H' H'') :
    CallC TT O 180 [.slice a l.length c, .func (.func g) #[] b] H fun v H' => (∃ r : Int, v = .int .i64 r ∧ decide (r ≥ 0) = l.any q) ∧ Ext H H' := by
  refine call_ex rfl rfl rfl rfl rfl ?_
  repeat (first | refine zr ?_ | (refine zn ?_; intro _))
  refine ExecS.weak (E' := [(0, .slice a l.length c), (1, .func (.func g) #[] b), (7, .int .i64 (l.length : Int)), (8, .int .i64 ((0 : Nat) : Int))]) ⟨rfl, rfl, rfl, rfl, trivial⟩ (List.Sublist.refl _) ?_
  refine exec_loop (fun k E L => ∃ i : Nat, i + k = l.length ∧ (l.take i).any q = false ∧ E = [(0, .slice a l.length c), (1, .func (.func g) #[] b), (7, .int .i64 (l.length : Int)), (8, .int .i64 (i : Int))] ∧ L = []) ?_ l.length _ _ ⟨0, by omega, rfl, rfl, rfl⟩
  rintro k E L ⟨i, hik, hpre, rfl, rfl⟩
  repeat (first | refine zr ?_ | (refine zn ?_; intro _))
  refine exec_cond rfl (fun hlt => ?_) (fun hge => ?_)
  · have hi : i < l.length := by simp at hlt; omega
    obtain ⟨x, hx⟩ : ∃ x, l[i]? = some x := ⟨_, List.getElem?_eq_getElem hi⟩
    repeat (first | refine zr ?_ | (refine zn ?_; intro _))
    (first | apply ops_pl rfl rfl rfl ?_ rfl ?_ | apply draw_pl rfl rfl rfl rfl ?_ rfl rfl ?_); rotate_left; focus exact (.p rfl (opP_idx rfl rfl hs0 rfl rfl (by omega) (by omega)))
    (first | apply ops_pl rfl rfl rfl ?_ rfl ?_ | apply draw_pl rfl rfl rfl rfl ?_ rfl rfl ?_); rotate_left; focus exact (.l rfl (fun H hs => opL_load rfl ((hs0.at hs).ldF (fun _ => rfl) rfl rfl hx)))
    refine ops_step rfl rfl rfl (step_call_bool rfl rfl rfl (fun H hs => hc x (List.mem_of_getElem? hx) H hs.ext) (fun h => ?_) (fun h => ?_))
    · repeat (first | refine zr ?_ | (refine zn ?_; intro _))
      refine ⟨trivial, _, rfl, (i : Int), rfl, ?_⟩
      have : l.any q = true := List.any_eq_true.2 ⟨x, List.mem_of_getElem? hx, h⟩
      rw [this]; exact decide_eq_true (by omega)
    · repeat (first | refine zr ?_ | (refine zn ?_; intro _))
      refine ⟨k - 1, by omega, _, _, ?_, List.Sublist.refl _, i + 1, by omega, ?_, rfl, rfl⟩
      · exact ⟨rfl, rfl, rfl, rfl, trivial⟩
      · rw [any_take hx, hpre, h]; rfl
  · have hi : l.length ≤ i := by simp at hge; omega
    repeat (first | refine zr ?_ | (refine zn ?_; intro _))
    refine ⟨trivial, _, rfl, -1, rfl, ?_⟩
    rw [List.take_of_length_le hi] at hpre
    rw [hpre]; rfl
set_option maxHeartbeats 8000000 in
set_option maxRecDepth 100000 in
theorem contfM_ok {H : Heap} {a : Option Addr} {c g : Nat} {b : Array Value} {l : List MV} {q : MV → Bool} (hs0 : Sl O H (.slice a l.length c) 9 l.length (l.flatMap MV.cells)) (hn : l.length ≤ 1000000)
    (hc : ∀ x ∈ l, ∀ H', Ext H H' → CallC TT O g ([.agg (MV.cells x).toArray] ++ b.toList) H' fun v H'' => v = .bool (q x) ∧ Ext H' H'') :
    CallC TT O 155 [.slice a l.length c, .func (.func g) #[] b] H fun v H' => v = .bool (l.any q) ∧ Ext H H' := by
  refine call_pure rfl rfl rfl rfl rfl ?_
  repeat (first | refine zr ?_ | (refine zn ?_; intro _))
  refine ops_step rfl rfl rfl (step_call_ex rfl rfl rfl (fun H hs => idxfM_ok (hs0.at hs) hn (fun x hx H' e => hc x hx H' (hs.ext.trans e))) (fun v h => ?_))
  obtain ⟨r, rfl, hr⟩ := h
  repeat (first | refine zr ?_ | (refine zn ?_; intro _))
  exact ⟨trivial, _, rfl, by rw [← hr]; rfl⟩
set_option maxHeartbeats 8000000 in
set_option maxRecDepth 100000 in
theorem allcM_ok {H : Heap} {bb g : Nat} {x : MV} {r : Bool} (hb : Keep [] H fun H' => Has H' bb (.cells 0 [fnV g] 0 70)) (hc : ∀ H', Ext H H' → CallC TT O g [.agg (MV.cells x).toArray] H' fun v H'' => v = .bool r ∧ Ext H' H'') :
    CallC TT O 156 [.agg (MV.cells x).toArray, ptr bb] H fun v H' => v = .bool (!r) ∧ Ext H H' := by
  refine call_pure rfl rfl rfl rfl rfl ?_
  repeat (first | refine zr ?_ | (refine zn ?_; intro _))
  (first | apply ops_pl rfl rfl rfl ?_ rfl ?_ | apply draw_pl rfl rfl rfl rfl ?_ rfl rfl ?_); rotate_left; focus exact (.l rfl (look_hasO (fun H hs => hb.at hs) rfl rfl rfl))
  repeat (first | refine zr ?_ | (refine zn ?_; intro _))
  refine ops_step rfl rfl rfl (step_call_pure rfl rfl rfl (fun H hs => hc H hs.ext) ?_)
  repeat (first | refine zr ?_ | (refine zn ?_; intro _))
  exact ⟨trivial, _, rfl, rfl⟩
set_option maxHeartbeats 8000000 in
set_option maxRecDepth 100000 in
theorem allM_ok {H : Heap} {a : Option Addr} {c g most : Nat} {l : List MV} {p : MV → Bool} (hs0 : Sl O H (.slice a l.length c) 9 l.length (l.flatMap MV.cells)) (hn : l.length ≤ 1000000)
    (hc : ∀ x ∈ l, ∀ H', Ext H H' → CallC TT O g [.agg (MV.cells x).toArray] H' fun v H'' => v = .bool (p x) ∧ Ext H' H'') :
    CallC TT O 119 [.slice a l.length c, .int .i64 (most : Int), fnV g] H fun v H' => v = .bool (allB l most p) ∧ Ext H H' := by
  refine call_pure rfl rfl rfl rfl rfl ?_
  repeat (first | refine zr ?_ | (refine zn ?_; intro _))
  cases hd : decide (l.length ≤ most)
  · have : decide ((l.length : Int) ≤ (most : Int)) = false := decide_eq_false (by have := of_decide_eq_false hd; omega)
    rw [this]
    repeat (first | refine zr ?_ | (refine zn ?_; intro _))
    exact ⟨trivial, _, rfl, by rw [allB, hd]; rfl⟩
  · have : decide ((l.length : Int) ≤ (most : Int)) = true := decide_eq_true (by have := of_decide_eq_true hd; omega)
    rw [this]
    repeat (first | refine zr ?_ | (refine zn ?_; intro _))
    refine ops_step rfl rfl rfl (step_call_pure rfl rfl rfl (fun H hs => contfM_ok (q := fun x => !(p x)) (hs0.at hs) hn (fun x hx H' e => allcM_ok ((Rd.has (List.mem_singleton.2 rfl)).pure (hs.extend e)) (fun H'' e' => hc x hx H'' ((hs.ext.trans e).trans e')))) ?_)
    repeat (first | refine zr ?_ | (refine zn ?_; intro _))
    exact ⟨trivial, _, rfl, by rw [allB, hd, Bool.true_and, ← all_any]; rfl⟩
set_option maxHeartbeats 8000000 in
set_option maxRecDepth 100000 in
theorem idxfC_ok {H : Heap} {a : Option Addr} {c g : Nat} {b : Array Value} {l : List CV} {q : CV → Bool} (hs0 : Sl O H (.slice a l.length c) 6 l.length (l.flatMap CV.cells)) (hn : l.length ≤ 1000000)
    (hc : ∀ x ∈ l, ∀ H', Ext H H' → CallC TT O g ([.agg (CV.cells x).toArray] ++ b.toList) H' fun v H'' => v = .bool (q x) ∧ Ext H' H'') :
    CallC TT O 148 [.slice a l.length c, .func (.func g) #[] b] H fun v H' => (∃ r : Int, v = .int .i64 r ∧ decide (r ≥ 0) = l.any q) ∧ Ext H H' := by
  refine call_ex rfl rfl rfl rfl rfl ?_
  repeat (first | refine zr ?_ | (refine zn ?_; intro _))
  refine ExecS.weak (E' := [(0, .slice a l.length c), (1, .func (.func g) #[] b), (7, .int .i64 (l.length : Int)), (8, .int .i64 ((0 : Nat) : Int))]) ⟨rfl, rfl, rfl, rfl, trivial⟩ (List.Sublist.refl _) ?_
  refine exec_loop (fun k E L => ∃ i : Nat, i + k = l.length ∧ (l.take i).any q = false ∧ E = [(0, .slice a l.length c), (1, .func (.func g) #[] b), (7, .int .i64 (l.length : Int)), (8, .int .i64 (i : Int))] ∧ L = []) ?_ l.length _ _ ⟨0, by omega, rfl, rfl, rfl⟩
  rintro k E L ⟨i, hik, hpre, rfl, rfl⟩
  repeat (first | refine zr ?_ | (refine zn ?_; intro _))
  refine exec_cond rfl (fun hlt => ?_) (fun hge => ?_)
  · have hi : i < l.length := by simp at hlt; omega
    obtain ⟨x, hx⟩ : ∃ x, l[i]? = some x := ⟨_, List.getElem?_eq_getElem hi⟩
    repeat (first | refine zr ?_ | (refine zn ?_; intro _))
    (first | apply ops_pl rfl rfl rfl ?_ rfl ?_ | apply draw_pl rfl rfl rfl rfl ?_ rfl rfl ?_); rotate_left; focus exact (.p rfl (opP_idx rfl rfl hs0 rfl rfl (by omega) (by omega)))
    (first | apply ops_pl rfl rfl rfl ?_ rfl ?_ | apply draw_pl rfl rfl rfl rfl ?_ rfl rfl ?_); rotate_left; focus exact (.l rfl (fun H hs => opL_load rfl ((hs0.at hs).ldF (fun _ => rfl) rfl rfl hx)))
    refine ops_step rfl rfl rfl (step_call_bool rfl rfl rfl (fun H hs => hc x (List.mem_of_getElem? hx) H hs.ext) (fun h => ?_) (fun h => ?_))
    · repeat (first | refine zr ?_ | (refine zn ?_; intro _))
      refine ⟨trivial, _, rfl, (i : Int), rfl, ?_⟩
      have : l.any q = true := List.any_eq_true.2 ⟨x, List.mem_of_getElem? hx, h⟩
      rw [this]; exact decide_eq_true (by omega)
    · repeat (first | refine zr ?_ | (refine zn ?_; intro _))
      refine ⟨k - 1, by omega, _, _, ?_, List.Sublist.refl _, i + 1, by omega, ?_, rfl, rfl⟩
      · exact ⟨rfl, rfl, rfl, rfl, trivial⟩
      · rw [any_take hx, hpre, h]; rfl
  · have hi : l.length ≤ i := by simp at hge; omega
    repeat (first | refine zr ?_ | (refine zn ?_; intro _))
    refine ⟨trivial, _, rfl, -1, rfl, ?_⟩
    rw [List.take_of_length_le hi] at hpre
    rw [hpre]; rfl
set_option maxHeartbeats 8000000 in
set_option maxRecDepth 100000 in
theorem contfC_ok {H : Heap} {a : Option Addr} {c g : Nat} {b : Array Value} {l : List CV} {q : CV → Bool} (hs0 : Sl O H (.slice a l.length c) 6 l.length (l.flatMap CV.cells)) (hn : l.length ≤ 1000000)
    (hc : ∀ x ∈ l, ∀ H', Ext H H' → CallC TT O g ([.agg (CV.cells x).toArray] ++ b.toList) H' fun v H'' => v = .bool (q x) ∧ Ext H' H'') :
    CallC TT O 113 [.slice a l.length c, .func (.func g) #[] b] H fun v H' => v = .bool (l.any q) ∧ Ext H H' := by
  refine call_pure rfl rfl rfl rfl rfl ?_
  repeat (first | refine zr ?_ | (refine zn ?_; intro _))
  refine ops_step rfl rfl rfl (step_call_ex rfl rfl rfl (fun H hs => idxfC_ok (hs0.at hs) hn (fun x hx H' e => hc x hx H' (hs.ext.trans e))) (fun v h => ?_))
  obtain ⟨r, rfl, hr⟩ := h
  repeat (first | refine zr ?_ | (refine zn ?_; intro _))
  exact ⟨trivial, _, rfl, by rw [← hr]; rfl⟩
set_option maxHeartbeats 8000000 in
set_option maxRecDepth 100000 in
theorem allcC_ok {H : Heap} {bb g : Nat} {x : CV} {r : Bool} (hb : Keep [] H fun H' => Has H' bb (.cells 0 [fnV g] 0 88)) (hc : ∀ H', Ext H H' → CallC TT O g [.agg (CV.cells x).toArray] H' fun v H'' => v = .bool r ∧ Ext H' H'') :
    CallC TT O 114 [.agg (CV.cells x).toArray, ptr bb] H fun v H' => v = .bool (!r) ∧ Ext H H' := by
  refine call_pure rfl rfl rfl rfl rfl ?_
  repeat (first | refine zr ?_ | (refine zn ?_; intro _))
  (first | apply ops_pl rfl rfl rfl ?_ rfl ?_ | apply draw_pl rfl rfl rfl rfl ?_ rfl rfl ?_); rotate_left; focus exact (.l rfl (look_hasO (fun H hs => hb.at hs) rfl rfl rfl))
  repeat (first | refine zr ?_ | (refine zn ?_; intro _))
  refine ops_step rfl rfl rfl (step_call_pure rfl rfl rfl (fun H hs => hc H hs.ext) ?_)
  repeat (first | refine zr ?_ | (refine zn ?_; intro _))
  exact ⟨trivial, _, rfl, rfl⟩
set_option maxHeartbeats 8000000 in
set_option maxRecDepth 100000 in
theorem allC_ok {H : Heap} {a : Option Addr} {c g most : Nat} {l : List CV} {p : CV → Bool} (hs0 : Sl O H (.slice a l.length c) 6 l.length (l.flatMap CV.cells)) (hn : l.length ≤ 1000000)
    (hc : ∀ x ∈ l, ∀ H', Ext H H' → CallC TT O g [.agg (CV.cells x).toArray] H' fun v H'' => v = .bool (p x) ∧ Ext H' H'') :
    CallC TT O 75 [.slice a l.length c, .int .i64 (most : Int), fnV g] H fun v H' => v = .bool (allB l most p) ∧ Ext H H' := by
  refine call_pure rfl rfl rfl rfl rfl ?_
  repeat (first | refine zr ?_ | (refine zn ?_; intro _))
  cases hd : decide (l.length ≤ most)
  · have : decide ((l.length : Int) ≤ (most : Int)) = false := decide_eq_false (by have := of_decide_eq_false hd; omega)
    rw [this]
    repeat (first | refine zr ?_ | (refine zn ?_; intro _))
    exact ⟨trivial, _, rfl, by rw [allB, hd]; rfl⟩
  · have : decide ((l.length : Int) ≤ (most : Int)) = true := decide_eq_true (by have := of_decide_eq_true hd; omega)
    rw [this]
    repeat (first | refine zr ?_ | (refine zn ?_; intro _))
    refine ops_step rfl rfl rfl (step_call_pure rfl rfl rfl (fun H hs => contfC_ok (q := fun x => !(p x)) (hs0.at hs) hn (fun x hx H' e => allcC_ok ((Rd.has (List.mem_singleton.2 rfl)).pure (hs.extend e)) (fun H'' e' => hc x hx H'' ((hs.ext.trans e).trans e')))) ?_)
    repeat (first | refine zr ?_ | (refine zn ?_; intro _))
    exact ⟨trivial, _, rfl, by rw [allB, hd, Bool.true_and, ← all_any]; rfl⟩
end Go.Proofs.YtlhkndjloeoodaaGreat
namespace Go.Proofs.YtlhkndjloeoodaaGreat
open Go.Ev Go.Ev.Wk
variable {O : Old}
set_option maxHeartbeats 8000000 in
set_option maxRecDepth 100000 in
theorem typed_ok {H : Heap} {x : Int × List UInt8} : CallC TT O 154 [typV x] H fun v H' => v = .bool (typedB x) ∧ Ext H H' := by
  refine call_pure rfl rfl rfl rfl rfl ?_
  rw [typedB]
  repeat (first | refine zr ?_ | (refine zn ?_; intro _))
  refine ops_step rfl rfl rfl (step_call_bool rfl rfl rfl (fun H hs => right_ok) (fun h => ?_) (fun h => ?_))
  · repeat (first | refine zr ?_ | (refine zn ?_; intro _))
    exact ⟨trivial, _, rfl, by rw [h, Bool.true_and]; simp only [ne_eq, decide_not]; rfl⟩
  · repeat (first | refine zr ?_ | (refine zn ?_; intro _))
    exact ⟨trivial, _, rfl, by rw [h]; rfl⟩
set_option maxHeartbeats 8000000 in
set_option maxRecDepth 100000 in
theorem within_ok {H : Heap} {n most : Int} : CallC TT O 159 [.int .i64 n, .int .i64 most] H fun v H' => v = .bool (withinB n most) ∧ Ext H H' := by
  refine call_pure rfl rfl rfl rfl rfl ?_
  rw [withinB]
  repeat (first | refine zr ?_ | (refine zn ?_; intro _))
  cases decide (n ≥ 0)
  · repeat (first | refine zr ?_ | (refine zn ?_; intro _))
    exact ⟨trivial, _, rfl, rfl⟩
  · repeat (first | refine zr ?_ | (refine zn ?_; intro _))
    exact ⟨trivial, _, rfl, rfl⟩
set_option maxHeartbeats 8000000 in
set_option maxRecDepth 100000 in
theorem rfield_ok {H : Heap} {x : FV} : CallC TT O 118 [x.val] H fun v H' => v = .bool (rightF x) ∧ Ext H H' := by
  refine call_pure rfl rfl rfl rfl rfl ?_
  rw [rightF]
  repeat (first | refine zr ?_ | (refine zn ?_; intro _))
  refine ops_step rfl rfl rfl (step_call_bool rfl rfl rfl (fun H hs => name_ok) (fun h => ?_) (fun h => ?_)) <;> rw [h]
  · repeat (first | refine zr ?_ | (refine zn ?_; intro _))
    refine ops_step rfl rfl rfl (step_call_pure rfl rfl rfl (fun H hs => typed_ok (x := (x.tk, x.tc))) ?_)
    repeat (first | refine zr ?_ | (refine zn ?_; intro _))
    exact ⟨trivial, _, rfl, rfl⟩
  · repeat (first | refine zr ?_ | (refine zn ?_; intro _))
    exact ⟨trivial, _, rfl, rfl⟩
set_option maxHeartbeats 8000000 in
set_option maxRecDepth 100000 in
theorem rhandler_ok {H : Heap} {x : HV} : CallC TT O 163 [x.val] H fun v H' => v = .bool (rightH x) ∧ Ext H H' := by
  refine call_pure rfl rfl rfl rfl rfl ?_
  rw [rightH]
  repeat (first | refine zr ?_ | (refine zn ?_; intro _))
  refine ops_step rfl rfl rfl (step_call_bool rfl rfl rfl (fun H hs => within_ok) (fun h => ?_) (fun h => ?_)) <;> rw [h]
  · repeat (first | refine zr ?_ | (refine zn ?_; intro _))
    refine ops_step rfl rfl rfl (step_call_bool rfl rfl rfl (fun H hs => within_ok) (fun h => ?_) (fun h => ?_)) <;> rw [h]
    · repeat (first | refine zr ?_ | (refine zn ?_; intro _))
      refine ops_step rfl rfl rfl (step_call_bool rfl rfl rfl (fun H hs => within_ok) (fun h => ?_) (fun h => ?_)) <;> rw [h]
      · repeat (first | refine zr ?_ | (refine zn ?_; intro _))
        refine ops_step rfl rfl rfl (step_call_pure rfl rfl rfl (fun H hs => name_ok) ?_)
        repeat (first | refine zr ?_ | (refine zn ?_; intro _))
        exact ⟨trivial, _, rfl, rfl⟩
      · repeat (first | refine zr ?_ | (refine zn ?_; intro _))
        exact ⟨trivial, _, rfl, rfl⟩
    · repeat (first | refine zr ?_ | (refine zn ?_; intro _))
      exact ⟨trivial, _, rfl, rfl⟩
  · repeat (first | refine zr ?_ | (refine zn ?_; intro _))
    exact ⟨trivial, _, rfl, rfl⟩
set_option maxHeartbeats 8000000 in
set_option maxRecDepth 100000 in
theorem rmethod_ok {H : Heap} {x : MV} (hf : MethF O H x) (hw : WfM x.toPM) : CallC TT O 120 [x.val] H fun v H' => v = .bool (rightM x.toPM) ∧ Ext H H' := by
  refine call_pure rfl rfl rfl rfl rfl ?_
  rw [rightM]
  repeat (first | refine zr ?_ | (refine zn ?_; intro _))
  refine ops_step rfl rfl rfl (step_call_bool rfl rfl rfl (fun H hs => name_ok) (fun h => ?_) (fun h => ?_)) <;> rw [h]
  rotate_left
  · repeat (first | refine zr ?_ | (refine zn ?_; intro _))
    exact ⟨trivial, _, rfl, rfl⟩
  repeat (first | refine zr ?_ | (refine zn ?_; intro _))
  refine ops_step rfl rfl rfl (step_call_bool rfl rfl rfl (fun H hs => allT_ok (most := 8) (hf.ext hs.ext).ps hw.psn (fun y hy H' e => typed_ok)) (fun h => ?_) (fun h => ?_)) <;> rw [h]
  rotate_left
  · repeat (first | refine zr ?_ | (refine zn ?_; intro _))
    exact ⟨trivial, _, rfl, rfl⟩
  repeat (first | refine zr ?_ | (refine zn ?_; intro _))
  refine ops_step rfl rfl rfl (step_call_bool rfl rfl rfl (fun H hs => right_ok) (fun h => ?_) (fun h => ?_)) <;> rw [h]
  rotate_left
  · repeat (first | refine zr ?_ | (refine zn ?_; intro _))
    exact ⟨trivial, _, rfl, rfl⟩
  repeat (first | refine zr ?_ | (refine zn ?_; intro _))
  refine ops_step rfl rfl rfl (step_call_bool rfl rfl rfl (fun H hs => within_ok) (fun h => ?_) (fun h => ?_)) <;> rw [h]
  rotate_left
  · repeat (first | refine zr ?_ | (refine zn ?_; intro _))
    exact ⟨trivial, _, rfl, rfl⟩
  repeat (first | refine zr ?_ | (refine zn ?_; intro _))
  refine ops_step rfl rfl rfl (step_call_bool rfl rfl rfl (fun H hs => allI_ok (most := 2000) (hf.ext hs.ext).cl hw.cln (fun y hy H' e => right_I_ok (by have := (hw.cl y hy).ds; omega))) (fun h => ?_) (fun h => ?_)) <;> rw [h]
  rotate_left
  · repeat (first | refine zr ?_ | (refine zn ?_; intro _))
    exact ⟨trivial, _, rfl, rfl⟩
  repeat (first | refine zr ?_ | (refine zn ?_; intro _))
  refine ops_step rfl rfl rfl (step_call_pure rfl rfl rfl (fun H hs => allH_ok (most := 50) (hf.ext hs.ext).hl hw.hln (fun y hy H' e => rhandler_ok)) ?_)
  repeat (first | refine zr ?_ | (refine zn ?_; intro _))
  exact ⟨trivial, _, rfl, rfl⟩
set_option maxHeartbeats 8000000 in
set_option maxRecDepth 100000 in
theorem rclass_ok {H : Heap} {x : CV} (hf : ClsF O H x) (hw : WfC x.pc) : CallC TT O 76 [x.val] H fun v H' => v = .bool (rightC x.pc) ∧ Ext H H' := by
  refine call_pure rfl rfl rfl rfl rfl ?_
  have hm : allB x.pc.ml 100 rightM = allB x.ml 100 fun m => rightM m.toPM := by simp [allB, List.all_map, Function.comp_def]
  rw [rightC, hm]
  repeat (first | refine zr ?_ | (refine zn ?_; intro _))
  refine ops_step rfl rfl rfl (step_call_bool rfl rfl rfl (fun H hs => name_ok) (fun h => ?_) (fun h => ?_)) <;> rw [h]
  rotate_left
  · repeat (first | refine zr ?_ | (refine zn ?_; intro _))
    exact ⟨trivial, _, rfl, rfl⟩
  repeat (first | refine zr ?_ | (refine zn ?_; intro _))
  refine ops_step rfl rfl rfl (step_call_bool rfl rfl rfl (fun H hs => name_ok) (fun h => ?_) (fun h => ?_)) <;> rw [h]
  rotate_left
  · repeat (first | refine zr ?_ | (refine zn ?_; intro _))
    exact ⟨trivial, _, rfl, rfl⟩
  repeat (first | refine zr ?_ | (refine zn ?_; intro _))
  refine ops_step rfl rfl rfl (step_call_bool rfl rfl rfl (fun H hs => allS_ok (most := 20) (hf.ext hs.ext).ifs hw.ifn (fun y hy H' e => name_ok)) (fun h => ?_) (fun h => ?_)) <;> rw [h]
  rotate_left
  · repeat (first | refine zr ?_ | (refine zn ?_; intro _))
    exact ⟨trivial, _, rfl, rfl⟩
  repeat (first | refine zr ?_ | (refine zn ?_; intro _))
  cases decide (x.kd ≥ 1)
  · repeat (first | refine zr ?_ | (refine zn ?_; intro _))
    exact ⟨trivial, _, rfl, rfl⟩
  repeat (first | refine zr ?_ | (refine zn ?_; intro _))
  cases decide (x.kd ≤ 4)
  · repeat (first | refine zr ?_ | (refine zn ?_; intro _))
    exact ⟨trivial, _, rfl, rfl⟩
  repeat (first | refine zr ?_ | (refine zn ?_; intro _))
  refine ops_step rfl rfl rfl (step_call_bool rfl rfl rfl (fun H hs => allF_ok (most := 100) (hf.ext hs.ext).fl hw.fln (fun y hy H' e => rfield_ok)) (fun h => ?_) (fun h => ?_)) <;> rw [h]
  rotate_left
  · repeat (first | refine zr ?_ | (refine zn ?_; intro _))
    exact ⟨trivial, _, rfl, rfl⟩
  repeat (first | refine zr ?_ | (refine zn ?_; intro _))
  refine ops_step rfl rfl rfl (step_call_pure rfl rfl rfl (fun H hs => allM_ok (most := 100) (hf.ext hs.ext).ml (by have := hw.mln; simpa using this) (fun y hy H' e => rmethod_ok ((hf.ms y hy).ext (hs.ext.trans e)) (hw.ml _ (List.mem_map_of_mem hy)))) ?_)
  repeat (first | refine zr ?_ | (refine zn ?_; intro _))
  exact ⟨trivial, _, rfl, rfl⟩
theorem rclasses_ok {H : Heap} {a : Option Addr} {k : Nat} {cl : List CV} (hf : ArcF O H a k cl) (hw : ∀ c ∈ cl, WfC c.pc) (hn : cl.length ≤ 1000000) :
    CallC TT O 75 [.slice a cl.length k, .int .i64 400, fnV 76] H fun v H' => v = .bool (rightCs (cl.map CV.pc)) ∧ Ext H H' := by
  have hm : rightCs (cl.map CV.pc) = allB cl 400 fun c => rightC c.pc := by simp [rightCs, allB, List.all_map, Function.comp_def]
  rw [hm]
  exact allC_ok (most := 400) hf.sl hn (fun y hy H' e => rclass_ok ((hf.cs y hy).ext e) (hw y hy))
end Go.Proofs.YtlhkndjloeoodaaGreat
