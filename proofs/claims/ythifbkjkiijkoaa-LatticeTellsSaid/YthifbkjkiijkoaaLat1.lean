/-
  Walks: what is known of values, in a tree.
-/
import Derived.Test.YthifbkjkiijkoaaTree4
import Derived.Test.YthifbkjkiijkoaaTyp0
namespace Go.Proofs.Ythifbkjkiijkoaa
open Go.Ev Go.Ev.Wk
set_option linter.unusedVariables false
set_option linter.unusedSimpArgs false
variable {O : Old}


/-- what a tree says, apart from any memory -/
structure TM where
  known : List UInt8 → Bool
  iface : List UInt8 → Bool
  ch : List UInt8 → List (List UInt8)
  ifl : List UInt8 → List (List UInt8)

def TM.sub (m : TM) (a b : List UInt8) : Bool := m.known a && m.known b && (decide (a = b) || decide (b = objB) || decide (b ∈ m.ch a) || decide (b ∈ m.ifl a))
def TM.common (m : TM) (a b : List UInt8) : List UInt8 := if a ≠ b ∧ (m.iface a = true ∨ m.iface b = true) then objB else ((m.ch a).find? fun x => decide (x ∈ m.ch b)).getD objB

structure TMok (g : List UInt8 → Option CV) (m : TM) : Prop where
  known : ∀ s, (g s).isSome = m.known s
  iface : ∀ s, (getC g s).kd = 4 ↔ m.iface s = true
  ch : ∀ s, ChainOf g s (m.ch s)
  chl : ∀ s, (m.ch s).length ≤ 1000
  ifl : ∀ s, ∃ fu, ifsF g fu (m.ch s) [] = some (m.ifl s)
  ifll : ∀ s, (m.ifl s).length ≤ 1000

theorem subM_ok {H : Heap} {tb mb : Nat} {lv : Value} {g : List UInt8 → Option CV} {m : TM} {a b : List UInt8} (hm : TMok g m) (ht : TreeK O H tb mb lv g) :
    CallC TT O 14 [ptr tb, str a, str b] H fun v H' => v = .bool (m.sub a b) ∧ Ext H H' := by
  obtain ⟨fu, hfu⟩ := hm.ifl a
  have := sub_ok (b := b) ht (hm.ch a) (hm.chl a) hfu (hm.ifll a)
  rwa [show subB g a b (m.ch a) (m.ifl a) = m.sub a b from by rw [subB, TM.sub, hm.known, hm.known]] at this

theorem commonM_ok {H : Heap} {tb mb : Nat} {lv : Value} {g : List UInt8 → Option CV} {m : TM} {a b : List UInt8} (hm : TMok g m) (ht : TreeK O H tb mb lv g) :
    CallC TT O 13 [ptr tb, str a, str b] H fun v H' => v = str (m.common a b) ∧ Ext H H' := by
  have := common_ok ht (hm.ch a) (hm.chl a) (hm.ch b) (hm.chl b)
  rwa [show commonL g a b (m.ch a) (m.ch b) = m.common a b from by simp only [commonL, TM.common, hm.iface]] at this

abbrev Typ := Int × List UInt8

def refersB (a : Typ) : Bool := decide (a.1 = 3) || decide (a.1 = 4) || decide (a.1 = 6)

def joinT (m : TM) (a b : Typ) : Typ :=
  if a = b then a else if a = (6, []) ∧ (b.1 = 3 ∨ b.1 = 4) then b else if b = (6, []) ∧ (a.1 = 3 ∨ a.1 = 4) then a else if a.1 = 4 ∧ b.1 = 4 then (4, m.common a.2 b.2) else (7, [])

def fitsB (m : TM) (a b : Typ) : Bool :=
  if a = b then decide (a.1 ≠ 7) else if a.1 = 6 then decide (b.1 = 3) || decide (b.1 = 4) else decide (a.1 = 4) && (decide (b.1 = 4) && m.sub a.2 b.2)

theorem beqI (a b : Int) : (a == b) = decide (a = b) := by
  by_cases h : a = b
  · subst h; simp
  · rw [decide_eq_false h]; exact beq_eq_false_iff_ne.2 h

theorem bneI (a b : Int) : (a != b) = decide (a ≠ b) := by
  by_cases h : a = b
  · subst h; simp
  · rw [decide_eq_true h]; exact bne_iff_ne.2 h

set_option maxHeartbeats 8000000 in
set_option maxRecDepth 100000 in
theorem refers_ok {H : Heap} {a : Typ} : CallC TT O 21 [typV a] H fun v H' => v = .bool (refersB a) ∧ Ext H H' := by
  refine call_pure rfl rfl rfl rfl rfl ?_
  repeat (first | refine zr ?_ | (refine zn ?_; intro _))
  cases h3 : (a.1 == 3)
  · repeat (first | refine zr ?_ | (refine zn ?_; intro _))
    cases h4 : (a.1 == 4)
    · repeat (first | refine zr ?_ | (refine zn ?_; intro _))
      refine ⟨trivial, _, rfl, ?_⟩
      rw [refersB, ← beqI, ← beqI, ← beqI, h3, h4]
      rfl
    · repeat (first | refine zr ?_ | (refine zn ?_; intro _))
      refine ⟨trivial, _, rfl, ?_⟩
      rw [refersB, ← beqI, ← beqI, ← beqI, h3, h4]
      rfl
  · repeat (first | refine zr ?_ | (refine zn ?_; intro _))
    refine ⟨trivial, _, rfl, ?_⟩
    rw [refersB, ← beqI, ← beqI, ← beqI, h3]
    rfl

set_option maxHeartbeats 8000000 in
set_option maxRecDepth 100000 in
theorem latOf_ok {H : Heap} {tb : Nat} : CallC TT O 50 [ptr tb] H fun v H' => v = ptr tb ∧ Ext H H' := by
  refine call_pure rfl rfl rfl rfl rfl ?_
  repeat (first | refine zr ?_ | (refine zn ?_; intro _))
  exact ⟨trivial, _, rfl, rfl⟩

set_option maxHeartbeats 16000000 in
set_option maxRecDepth 100000 in
theorem join_ok {H : Heap} {tb mb : Nat} {lv : Value} {g : List UInt8 → Option CV} {m : TM} {a b : Typ} (hm : TMok g m) (ht : TreeK O H tb mb lv g) :
    CallC TT O 17 [ptr tb, typV a, typV b] H fun v H' => v = typV (joinT m a b) ∧ Ext H H' := by
  refine call_pureM rfl rfl rfl rfl rfl ?_
  repeat (first | refine zr ?_ | (refine zn ?_; intro _))
  rename_i ab bb rb nb
  first | refine ops_pl rfl rfl rfl (PL.eqlTyp (a := a) (b := b) rfl rfl rfl) rfl ?_ | refine draw_pl rfl rfl rfl rfl (PL.eqlTyp (a := a) (b := b) rfl rfl rfl) rfl rfl ?_
  cases hab : decide (a = b)
  rotate_left
  · repeat (first | refine zr ?_ | (refine zn ?_; intro _))
    refine ⟨trivial, [_], ⟨look_agg 1 rfl rfl rfl rfl, trivial⟩, ?_⟩
    rw [joinT, if_pos (of_decide_eq_true hab)]
    rfl
  have nab := of_decide_eq_false hab
  repeat (first | refine zr ?_ | (refine zn ?_; intro _))
  (first | apply ops_pl rfl rfl rfl ?_ rfl ?_ | apply draw_pl rfl rfl rfl rfl ?_ rfl rfl ?_); rotate_left; focus exact (PL.eqlTyp (a := a) (b := (6, [])) rfl rfl rfl)
  refine OpsS.mono (Q := fun E L => SubE [(0, ptr tb), (4, ptr ab), (5, ptr bb), (6, ptr rb), (7, ptr nb), (14, .bool (decide (a = (6, [])) && (decide (b.1 = 3) || decide (b.1 = 4))))] E ∧ L = [(some nb, .cells 0 [.int .i64 6, str []] 0 35), (some rb, .cells 0 [.int .i64 0, str []] 0 35), (some bb, .cells 0 [.int .i64 b.1, str b.2] 0 35), (some ab, .cells 0 [.int .i64 a.1, str a.2] 0 35)]) ?_ ?_
  · cases h0 : decide (a = (6, []))
    · repeat (first | refine zo ?_ | (refine zn ?_; intro _))
      exact ops_nil ⟨⟨rfl, rfl, rfl, rfl, rfl, rfl, trivial⟩, rfl⟩
    repeat (first | refine zo ?_ | (refine zn ?_; intro _))
    cases h3 : (b.1 == 3)
    · repeat (first | refine zo ?_ | (refine zn ?_; intro _))
      refine ops_nil ⟨⟨rfl, rfl, rfl, rfl, rfl, ?_, trivial⟩, rfl⟩
      rw [← beqI, ← beqI, h3]
      rfl
    · repeat (first | refine zo ?_ | (refine zn ?_; intro _))
      refine ops_nil ⟨⟨rfl, rfl, rfl, rfl, rfl, ?_, trivial⟩, rfl⟩
      rw [← beqI, ← beqI, h3]
      rfl
  rintro E L ⟨hE, rfl⟩
  refine ExecS.weak hE (List.Sublist.refl _) ?_
  cases q1 : (decide (a = (6, [])) && (decide (b.1 = 3) || decide (b.1 = 4)))
  rotate_left
  · have q1 : a = (6, []) ∧ (b.1 = 3 ∨ b.1 = 4) := by simpa using q1
    repeat (first | refine zr ?_ | (refine zn ?_; intro _))
    refine ⟨trivial, [_], ⟨look_agg 1 rfl rfl rfl rfl, trivial⟩, ?_⟩
    rw [joinT, if_neg nab, if_pos q1]
    rfl
  have q1 : ¬ (a = (6, []) ∧ (b.1 = 3 ∨ b.1 = 4)) := by
    intro h
    rw [decide_eq_true h.1] at q1
    rcases h.2 with h | h <;> rw [decide_eq_true h] at q1 <;> simp at q1
  repeat (first | refine zr ?_ | (refine zn ?_; intro _))
  (first | apply ops_pl rfl rfl rfl ?_ rfl ?_ | apply draw_pl rfl rfl rfl rfl ?_ rfl rfl ?_); rotate_left; focus exact (PL.eqlTyp (a := b) (b := (6, [])) rfl rfl rfl)
  refine OpsS.mono (Q := fun E L => SubE [(0, ptr tb), (4, ptr ab), (5, ptr bb), (6, ptr rb), (7, ptr nb), (29, .bool (decide (b = (6, [])) && (decide (a.1 = 3) || decide (a.1 = 4))))] E ∧ L = [(some nb, .cells 0 [.int .i64 6, str []] 0 35), (some rb, .cells 0 [.int .i64 0, str []] 0 35), (some bb, .cells 0 [.int .i64 b.1, str b.2] 0 35), (some ab, .cells 0 [.int .i64 a.1, str a.2] 0 35)]) ?_ ?_
  · cases h0 : decide (b = (6, []))
    · repeat (first | refine zo ?_ | (refine zn ?_; intro _))
      exact ops_nil ⟨⟨rfl, rfl, rfl, rfl, rfl, rfl, trivial⟩, rfl⟩
    repeat (first | refine zo ?_ | (refine zn ?_; intro _))
    cases h3 : (a.1 == 3)
    · repeat (first | refine zo ?_ | (refine zn ?_; intro _))
      refine ops_nil ⟨⟨rfl, rfl, rfl, rfl, rfl, ?_, trivial⟩, rfl⟩
      rw [← beqI, ← beqI, h3]
      rfl
    · repeat (first | refine zo ?_ | (refine zn ?_; intro _))
      refine ops_nil ⟨⟨rfl, rfl, rfl, rfl, rfl, ?_, trivial⟩, rfl⟩
      rw [← beqI, ← beqI, h3]
      rfl
  rintro E L ⟨hE, rfl⟩
  refine ExecS.weak hE (List.Sublist.refl _) ?_
  cases q2 : (decide (b = (6, [])) && (decide (a.1 = 3) || decide (a.1 = 4)))
  rotate_left
  · have q2 : b = (6, []) ∧ (a.1 = 3 ∨ a.1 = 4) := by simpa using q2
    repeat (first | refine zr ?_ | (refine zn ?_; intro _))
    refine ⟨trivial, [_], ⟨look_agg 1 rfl rfl rfl rfl, trivial⟩, ?_⟩
    rw [joinT, if_neg nab, if_neg q1, if_pos q2]
    rfl
  have q2 : ¬ (b = (6, []) ∧ (a.1 = 3 ∨ a.1 = 4)) := by
    intro h
    rw [decide_eq_true h.1] at q2
    rcases h.2 with h | h <;> rw [decide_eq_true h] at q2 <;> simp at q2
  repeat (first | refine zr ?_ | (refine zn ?_; intro _))
  cases ha4 : (a.1 == 4)
  · have n4 : ¬ (a.1 = 4 ∧ b.1 = 4) := fun h => (beq_eq_false_iff_ne.1 ha4) h.1
    repeat (first | refine zr ?_ | (refine zn ?_; intro _))
    refine ⟨trivial, [_], ⟨look_agg 1 rfl rfl rfl rfl, trivial⟩, ?_⟩
    rw [joinT, if_neg nab, if_neg q1, if_neg q2, if_neg n4]
    rfl
  repeat (first | refine zr ?_ | (refine zn ?_; intro _))
  cases hb4 : (b.1 == 4)
  · have n4 : ¬ (a.1 = 4 ∧ b.1 = 4) := fun h => (beq_eq_false_iff_ne.1 hb4) h.2
    repeat (first | refine zr ?_ | (refine zn ?_; intro _))
    refine ⟨trivial, [_], ⟨look_agg 1 rfl rfl rfl rfl, trivial⟩, ?_⟩
    rw [joinT, if_neg nab, if_neg q1, if_neg q2, if_neg n4]
    rfl
  have y4 : a.1 = 4 ∧ b.1 = 4 := ⟨eq_of_beq ha4, eq_of_beq hb4⟩
  repeat (first | refine zr ?_ | (refine zn ?_; intro _))
  refine exec_draw (lst := [(0, 0), (2, 0), (3, 4), (4, 0), (5, 16), (1, 1), (6, 63), (7, 127), (8, 255)]) (full := 511) (by kernel_rfl) (by kernel_rfl) (by kernel_rfl) (by kernel_rfl) ?_
  repeat (first | refine zd ?_)
  try refine draw_nil ?_
  refine draw_w rfl rfl rfl rfl rfl rfl (step_call_pure rfl rfl rfl (fun H hs => latOf_ok) (zst ?_))
  repeat (first | refine zd ?_)
  try refine draw_nil ?_
  refine draw_w rfl rfl rfl rfl rfl rfl (step_call_pure rfl rfl rfl (fun H hs => commonM_ok (a := a.2) (b := b.2) hm (ht.pure hs)) (zst ?_))
  repeat (first | refine zd ?_)
  try refine draw_nil ?_
  refine draw_w rfl rfl rfl rfl rfl rfl (step_storeZ 1 rfl rfl rfl rfl rfl rfl rfl rfl rfl (zst ?_))
  repeat (first | refine zd ?_)
  try refine draw_nil ?_
  repeat (first | refine zr ?_ | (refine zn ?_; intro _))
  refine ⟨trivial, [_], ⟨look_agg 1 rfl rfl rfl rfl, trivial⟩, ?_⟩
  rw [joinT, if_neg nab, if_neg q1, if_neg q2, if_pos y4]
  rfl

set_option maxHeartbeats 16000000 in
set_option maxRecDepth 100000 in
theorem fits_ok {H : Heap} {tb mb : Nat} {lv : Value} {g : List UInt8 → Option CV} {m : TM} {a b : Typ} (hm : TMok g m) (ht : TreeK O H tb mb lv g) :
    CallC TT O 19 [ptr tb, typV a, typV b] H fun v H' => v = .bool (fitsB m a b) ∧ Ext H H' := by
  refine call_pure rfl rfl rfl rfl rfl ?_
  repeat (first | refine zr ?_ | (refine zn ?_; intro _))
  first | refine ops_pl rfl rfl rfl (PL.eqlTyp (a := a) (b := b) rfl rfl rfl) rfl ?_ | refine draw_pl rfl rfl rfl rfl (PL.eqlTyp (a := a) (b := b) rfl rfl rfl) rfl rfl ?_
  cases hab : decide (a = b)
  rotate_left
  · repeat (first | refine zr ?_ | (refine zn ?_; intro _))
    refine ⟨trivial, _, rfl, ?_⟩
    rw [fitsB, if_pos (of_decide_eq_true hab), ← bneI]
    rfl
  have nab := of_decide_eq_false hab
  repeat (first | refine zr ?_ | (refine zn ?_; intro _))
  cases h6 : (a.1 == 6)
  rotate_left
  · repeat (first | refine zr ?_ | (refine zn ?_; intro _))
    have e : fitsB m a b = (decide (b.1 = 3) || decide (b.1 = 4)) := by rw [fitsB, if_neg nab, if_pos (eq_of_beq h6)]
    rw [e, ← beqI, ← beqI]
    cases h3 : (b.1 == 3)
    · repeat (first | refine zr ?_ | (refine zn ?_; intro _))
      exact ⟨trivial, _, rfl, rfl⟩
    · repeat (first | refine zr ?_ | (refine zn ?_; intro _))
      exact ⟨trivial, _, rfl, rfl⟩
  have e : fitsB m a b = (decide (a.1 = 4) && (decide (b.1 = 4) && m.sub a.2 b.2)) := by rw [fitsB, if_neg nab, if_neg (beq_eq_false_iff_ne.1 h6)]
  rw [e, ← beqI, ← beqI]
  repeat (first | refine zr ?_ | (refine zn ?_; intro _))
  refine exec_draw (lst := [(0, 0), (1, 1), (2, 3), (3, 7), (4, 15), (5, 31), (6, 63), (7, 127), (8, 255), (9, 511), (11, 511), (12, 2559), (13, 511), (14, 8703), (10, 1023), (15, 32767), (16, 65535), (17, 131071)]) (full := 262143) (by kernel_rfl) (by kernel_rfl) (by kernel_rfl) (by kernel_rfl) ?_
  repeat (first | refine zd ?_)
  try refine draw_nil ?_
  cases ha4 : (a.1 == 4)
  · repeat (first | refine zd ?_)
    try refine draw_nil ?_
    repeat (first | refine zr ?_ | (refine zn ?_; intro _))
    exact ⟨trivial, _, rfl, rfl⟩
  repeat (first | refine zd ?_)
  try refine draw_nil ?_
  cases hb4 : (b.1 == 4)
  · repeat (first | refine zd ?_)
    try refine draw_nil ?_
    repeat (first | refine zr ?_ | (refine zn ?_; intro _))
    exact ⟨trivial, _, rfl, rfl⟩
  repeat (first | refine zd ?_)
  try refine draw_nil ?_
  refine draw_w rfl rfl rfl rfl rfl rfl (step_call_pure rfl rfl rfl (fun H hs => latOf_ok) (zst ?_))
  repeat (first | refine zd ?_)
  try refine draw_nil ?_
  refine draw_w rfl rfl rfl rfl rfl rfl (step_call_pure rfl rfl rfl (fun H hs => subM_ok (a := a.2) (b := b.2) hm (ht.pure hs)) (zst ?_))
  repeat (first | refine zd ?_)
  try refine draw_nil ?_
  repeat (first | refine zr ?_ | (refine zn ?_; intro _))
  exact ⟨trivial, _, rfl, rfl⟩

/-- lists that come together -/
def allT (m : TM) : List Typ → List Typ → List Typ
  | a :: l, b :: r => joinT m a b :: allT m l r
  | _, _ => []

theorem allT_succ {m : TM} : ∀ {l r : List Typ} {i : Nat} {a b : Typ}, l[i]? = some a → r[i]? = some b → allT m (l.take (i + 1)) (r.take (i + 1)) = allT m (l.take i) (r.take i) ++ [joinT m a b]
  | [], _, _, _, _, h, _ => by cases h
  | _ :: _, [], _, _, _, _, h => by cases h
  | x :: l, y :: r, 0, a, b, h1, h2 => by cases h1; cases h2; simp [allT]
  | x :: l, y :: r, i + 1, a, b, h1, h2 => by
    have := allT_succ (m := m) (l := l) (r := r) (i := i) h1 h2
    simp only [List.take_succ_cons, allT, List.cons_append] at this ⊢
    rw [this]

theorem allT_len {m : TM} : ∀ {l r : List Typ}, l.length = r.length → (allT m l r).length = l.length
  | [], [], _ => rfl
  | x :: l, y :: r, h => by simp only [allT, List.length_cons, allT_len (m := m) (show l.length = r.length by simpa using h)]
  | [], _ :: _, h => by cases h
  | _ :: _, [], h => by cases h

set_option maxHeartbeats 16000000 in
set_option maxRecDepth 100000 in
theorem all_ok {H : Heap} {tb mb : Nat} {lv : Value} {g : List UInt8 → Option CV} {m : TM} {aa ab : Option Addr} {na ca nb cb : Nat} {l r : List Typ} (hst : St (blksOf []) H H []) (hm : TMok g m) (ht : TreeK O H tb mb lv g) (ha : SlX [] O H (.slice aa na ca) 2 na (typC l)) (hb : SlX [] O H (.slice ab nb cb) 2 nb (typC r)) (hn : na ≤ 1000) :
    FpC TT O 23 [ptr tb, .slice aa na ca, .slice ab nb cb] H [] fun v F' => ∃ a n c pa, v = .tuple #[.slice a n c, .bool (decide (na = nb))] ∧ F' = [pa] ∧ OwnA 2 35 a n c (typC (if na = nb then allT m l r else [])) pa := by
  have ha0 := ha H (ExtBut.refl _ _)
  have hb0 := hb H (ExtBut.refl _ _)
  have hla : l.length = na := by have := ha0.1; rw [typC_length] at this; omega
  have hlb : r.length = nb := by have := hb0.1; rw [typC_length] at this; omega
  refine call_fp rfl rfl rfl rfl rfl hst ?_
  refine ExecS.ghost ?_
  repeat (first | refine zr ?_ | (refine zn ?_; intro _))
  refine exec_cond rfl (fun hne => ?_) (fun heq => ?_)
  · have hne : ¬ na = nb := by simp at hne; omega
    repeat (first | refine zr ?_ | (refine zn ?_; intro _))
    refine ⟨trivial, _, rfl, [(none, .map [])], [], List.Perm.refl _, none, 0, 0, _, ?_, rfl, ?_⟩
    · rw [decide_eq_false hne]; rfl
    · rw [if_neg hne]; exact .nil _
  have heq : na = nb := by simp at heq; omega
  subst heq
  repeat (first | refine zr ?_ | (refine zn ?_; intro _))
  refine ExecS.weak (E' := [(0, ptr tb), (1, .slice aa na ca), (2, .slice ab na cb), (8, .slice none 0 0), (16, .int .i64 (na : Int)), (17, .int .i64 ((0 : Nat) : Int))]) ⟨rfl, rfl, rfl, rfl, rfl, rfl, trivial⟩ (List.Sublist.refl _) ?_
  refine exec_loop (fun k E L => ∃ (i : Nat) (a : Option Addr) (n c : Nat) (pa : Option Nat × Cont), i + k = na ∧ E = [(0, ptr tb), (1, .slice aa na ca), (2, .slice ab na cb), (8, .slice a n c), (16, .int .i64 (na : Int)), (17, .int .i64 (i : Int))] ∧ L = [pa] ∧ OwnA 2 35 a n c (typC (allT m (l.take i) (r.take i))) pa) ?_ na _ _ ⟨0, none, 0, 0, _, by omega, rfl, rfl, .nil _⟩
  rintro k E L ⟨i, a, n, c, pa, hik, rfl, rfl, own⟩
  have hni : n = min i na := by
    have h1 := own.len
    rw [typC_length, allT_len (by rw [List.length_take, List.length_take, hla, hlb]), List.length_take] at h1
    omega
  repeat (first | refine zr ?_ | (refine zn ?_; intro _))
  refine exec_cond rfl (fun hlt => ?_) (fun hge => ?_)
  · have hi : i < na := by simp at hlt; omega
    obtain ⟨x, hx⟩ : ∃ x, l[i]? = some x := ⟨_, List.getElem?_eq_getElem (by omega)⟩
    obtain ⟨y, hy⟩ : ∃ y, r[i]? = some y := ⟨_, List.getElem?_eq_getElem (by omega)⟩
    repeat (first | refine zr ?_ | (refine zn ?_; intro _))
    refine exec_draw (lst := [(0, 0), (1, 0), (2, 0), (3, 0), (4, 12), (5, 28), (6, 0), (7, 0), (8, 192), (9, 448), (10, 1022), (11, 2046), (12, 4095), (13, 8191)]) (full := 16383) (by kernel_rfl) (by kernel_rfl) (by kernel_rfl) (by kernel_rfl) ?_
    skip
    repeat (first | refine zd ?_)
    try refine draw_nil ?_
    (first | apply ops_pl rfl rfl rfl ?_ rfl ?_ | apply draw_pl rfl rfl rfl rfl ?_ rfl rfl ?_); rotate_left; focus exact (.p rfl (opP_idx rfl rfl ha0 rfl rfl (by omega) (by omega)))
    (first | apply ops_pl rfl rfl rfl ?_ rfl ?_ | apply draw_pl rfl rfl rfl rfl ?_ rfl rfl ?_); rotate_left; focus exact (.l rfl (fun H hs => opL_load rfl ((ha.at hs).ldA rfl (by decide) hi (typC_at hx))))
    repeat (first | refine zd ?_)
    try refine draw_nil ?_
    (first | apply ops_pl rfl rfl rfl ?_ rfl ?_ | apply draw_pl rfl rfl rfl rfl ?_ rfl rfl ?_); rotate_left; focus exact (.p rfl (opP_idx rfl rfl hb0 rfl rfl (by omega) (by omega)))
    (first | apply ops_pl rfl rfl rfl ?_ rfl ?_ | apply draw_pl rfl rfl rfl rfl ?_ rfl rfl ?_); rotate_left; focus exact (.l rfl (fun H hs => opL_load rfl ((hb.at hs).ldA rfl (by decide) hi (typC_at hy))))
    repeat (first | refine zd ?_)
    try refine draw_nil ?_
    refine draw_w rfl rfl rfl rfl rfl rfl (step_call_pure rfl rfl rfl (fun H hs => join_ok (a := x) (b := y) hm (ht.pure hs)) ⟨by repeat (first | exact True.intro | refine And.intro (.inr ⟨veq_refl rfl, (fun H hs => opL_load rfl ((ha.at hs).ldA rfl (by decide) hi (typC_at hx)))⟩) ?_ | refine And.intro (.inr ⟨veq_refl rfl, (fun H hs => opL_load rfl ((hb.at hs).ldA rfl (by decide) hi (typC_at hy)))⟩) ?_ | refine zs1 ?_), ?_⟩)
    repeat (first | refine zd ?_)
    try refine draw_nil ?_
    refine draw_a rfl rfl rfl rfl rfl (step_buildSliceF rfl rfl rfl rfl rfl rfl (fun sb => ⟨by repeat (first | exact True.intro | refine And.intro (.inr ⟨veq_refl rfl, (fun H hs => opL_load rfl ((ha.at hs).ldA rfl (by decide) hi (typC_at hx)))⟩) ?_ | refine And.intro (.inr ⟨veq_refl rfl, (fun H hs => opL_load rfl ((hb.at hs).ldA rfl (by decide) hi (typC_at hy)))⟩) ?_ | refine zs1 ?_), ?_⟩))
    repeat (first | refine zd ?_)
    try refine draw_nil ?_
    refine draw_w rfl rfl rfl rfl rfl rfl (step_append 1 2 rfl rfl rfl rfl rfl rfl rfl rfl own (fun H hs => src_own (j := 0) hs rfl rfl 1) rfl (by first | rfl | exact allCell_map (fun _ => rfl) _) (by first | rfl | (simp; done) | (simp; omega)) (by omega) (fun a2 c2 p2 own2 => ⟨by repeat (first | exact True.intro | refine And.intro (.inr ⟨veq_refl rfl, (fun H hs => opL_load rfl ((ha.at hs).ldA rfl (by decide) hi (typC_at hx)))⟩) ?_ | refine And.intro (.inr ⟨veq_refl rfl, (fun H hs => opL_load rfl ((hb.at hs).ldA rfl (by decide) hi (typC_at hy)))⟩) ?_ | refine zs1 ?_), ?_⟩))
    repeat (first | refine zd ?_)
    try refine draw_nil ?_
    repeat (first | refine zr ?_ | (refine zn ?_; intro _))
    have own3 : OwnA 2 35 a2 (n + 1) c2 (typC (allT m (l.take (i + 1)) (r.take (i + 1)))) p2 := by rw [allT_succ hx hy, typC_app]; exact own2
    refine ⟨k - 1, by omega, _, _, ?_, List.Sublist.cons _ (List.Sublist.refl _), i + 1, a2, n + 1, c2, p2, by omega, rfl, rfl, own3⟩
    exact ⟨rfl, rfl, rfl, rfl, rfl, rfl, trivial⟩
  · have hi : na ≤ i := by simp at hge; omega
    repeat (first | refine zr ?_ | (refine zn ?_; intro _))
    refine ⟨trivial, _, rfl, [pa], [], List.Perm.refl _, a, n, c, pa, ?_, rfl, ?_⟩
    · rw [decide_eq_true rfl]; rfl
    · rw [if_pos rfl]
      rwa [List.take_of_length_le (by omega), List.take_of_length_le (by omega)] at own
end Go.Proofs.Ythifbkjkiijkoaa

