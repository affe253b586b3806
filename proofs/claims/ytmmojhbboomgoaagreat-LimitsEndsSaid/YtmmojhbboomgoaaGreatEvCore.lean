/-
  An abstract evaluator for the code of a Go program: big steps, no tape, no capacity. Definitions alone.
-/
import Derived.Calls
import GoSem.Dispatch
namespace Go.Ev
set_option linter.unusedSimpArgs false
set_option linter.unusedVariables false

/-- A finite map from numbers, as a tree. -/
inductive Tr (α : Type) where
  | lf
  | nd (v : Option α) (l r : Tr α)

noncomputable section
namespace Tr
variable {α : Type}

def get (t : Tr α) : Nat → Option α :=
  Tr.rec (fun _ => none) (fun v _ _ gl gr i => Bool.rec (Bool.rec (gr (Nat.pred (Nat.div i 2))) (gl (Nat.div i 2)) (Nat.beq (Nat.mod i 2) 1)) v (Nat.beq i 0)) t

def single (x : α) (f : Nat) : Nat → Tr α :=
  Nat.rec (fun _ => .lf) (fun _ s i => Bool.rec (Bool.rec (.nd none .lf (s (Nat.pred (Nat.div i 2)))) (.nd none (s (Nat.div i 2)) .lf) (Nat.beq (Nat.mod i 2) 1)) (.nd (some x) .lf .lf) (Nat.beq i 0)) f

def set (x : α) (t : Tr α) : Nat → Tr α :=
  Tr.rec (fun i => single x (Nat.succ i) i) (fun v l r sl sr i => Bool.rec (Bool.rec (.nd v l (sr (Nat.pred (Nat.div i 2)))) (.nd v (sl (Nat.div i 2)) r) (Nat.beq (Nat.mod i 2) 1)) (.nd (some x) l r) (Nat.beq i 0)) t

def put (t : Tr α) (i : Nat) (x : α) : Tr α := set x t i

theorem get_nd (v : Option α) (l r : Tr α) (i : Nat) : (Tr.nd v l r).get i = if i = 0 then v else if i % 2 = 1 then l.get (i / 2) else r.get (i / 2 - 1) := by
  show Bool.rec (motive := fun _ => Option α) (Bool.rec (motive := fun _ => Option α) (r.get (Nat.pred (Nat.div i 2))) (l.get (Nat.div i 2)) (Nat.beq (Nat.mod i 2) 1)) v (Nat.beq i 0) = _
  by_cases h : i = 0
  · subst h; rfl
  · have e1 : Nat.beq i 0 = false := by cases hb : Nat.beq i 0 with
      | false => rfl
      | true => exact absurd (Nat.eq_of_beq_eq_true hb) h
    rw [e1, if_neg h]
    by_cases h2 : i % 2 = 1
    · have e2 : Nat.beq (Nat.mod i 2) 1 = true := by show Nat.beq (i % 2) 1 = true; rw [h2]; rfl
      rw [e2, if_pos h2]; rfl
    · have e2 : Nat.beq (Nat.mod i 2) 1 = false := by cases hb : Nat.beq (Nat.mod i 2) 1 with
        | false => rfl
        | true => exact absurd (Nat.eq_of_beq_eq_true hb) h2
      rw [e2, if_neg h2]; rfl

theorem single_succ (x : α) (f i : Nat) : single x (f + 1) i = if i = 0 then .nd (some x) .lf .lf else if i % 2 = 1 then .nd none (single x f (i / 2)) .lf else .nd none .lf (single x f (i / 2 - 1)) := by
  show Bool.rec (motive := fun _ => Tr α) (Bool.rec (motive := fun _ => Tr α) (Tr.nd none .lf (single x f (Nat.pred (Nat.div i 2)))) (.nd none (single x f (Nat.div i 2)) .lf) (Nat.beq (Nat.mod i 2) 1)) (.nd (some x) .lf .lf) (Nat.beq i 0) = _
  by_cases h : i = 0
  · subst h; rfl
  · have e1 : Nat.beq i 0 = false := by cases hb : Nat.beq i 0 with
      | false => rfl
      | true => exact absurd (Nat.eq_of_beq_eq_true hb) h
    rw [e1, if_neg h]
    by_cases h2 : i % 2 = 1
    · have e2 : Nat.beq (Nat.mod i 2) 1 = true := by show Nat.beq (i % 2) 1 = true; rw [h2]; rfl
      rw [e2, if_pos h2]; rfl
    · have e2 : Nat.beq (Nat.mod i 2) 1 = false := by cases hb : Nat.beq (Nat.mod i 2) 1 with
        | false => rfl
        | true => exact absurd (Nat.eq_of_beq_eq_true hb) h2
      rw [e2, if_neg h2]; rfl

theorem set_nd (x : α) (v : Option α) (l r : Tr α) (i : Nat) : set x (Tr.nd v l r) i = if i = 0 then .nd (some x) l r else if i % 2 = 1 then .nd v (set x l (i / 2)) r else .nd v l (set x r (i / 2 - 1)) := by
  show Bool.rec (motive := fun _ => Tr α) (Bool.rec (motive := fun _ => Tr α) (Tr.nd v l (set x r (Nat.pred (Nat.div i 2)))) (.nd v (set x l (Nat.div i 2)) r) (Nat.beq (Nat.mod i 2) 1)) (.nd (some x) l r) (Nat.beq i 0) = _
  by_cases h : i = 0
  · subst h; rfl
  · have e1 : Nat.beq i 0 = false := by cases hb : Nat.beq i 0 with
      | false => rfl
      | true => exact absurd (Nat.eq_of_beq_eq_true hb) h
    rw [e1, if_neg h]
    by_cases h2 : i % 2 = 1
    · have e2 : Nat.beq (Nat.mod i 2) 1 = true := by show Nat.beq (i % 2) 1 = true; rw [h2]; rfl
      rw [e2, if_pos h2]; rfl
    · have e2 : Nat.beq (Nat.mod i 2) 1 = false := by cases hb : Nat.beq (Nat.mod i 2) 1 with
        | false => rfl
        | true => exact absurd (Nat.eq_of_beq_eq_true hb) h2
      rw [e2, if_neg h2]; rfl

theorem get_lf (i : Nat) : (Tr.lf : Tr α).get i = none := rfl

theorem get_single (x : α) : ∀ (f i j : Nat), i < f → (single x f i).get j = if j = i then some x else none
  | 0, i, j, h => by omega
  | f + 1, i, j, h => by
    rw [single_succ]
    by_cases h0 : i = 0
    · subst h0
      rw [if_pos rfl, get_nd]
      by_cases hj : j = 0
      · simp [hj]
      · simp [hj, get_lf]
    · rw [if_neg h0]
      by_cases h2 : i % 2 = 1
      · rw [if_pos h2, get_nd]
        by_cases hj : j = 0
        · have : ¬ j = i := by omega
          simp [hj]; omega
        · rw [if_neg hj]
          by_cases hj2 : j % 2 = 1
          · rw [if_pos hj2, get_single x f _ _ (by omega)]
            by_cases e : j = i
            · subst e; simp
            · have : ¬ j / 2 = i / 2 := by omega
              simp [this, e]
          · rw [if_neg hj2, get_lf]
            have : ¬ j = i := by omega
            simp [this]
      · rw [if_neg h2, get_nd]
        by_cases hj : j = 0
        · simp [hj]; omega
        · rw [if_neg hj]
          by_cases hj2 : j % 2 = 1
          · rw [if_pos hj2, get_lf]
            have : ¬ j = i := by omega
            simp [this]
          · rw [if_neg hj2, get_single x f _ _ (by omega)]
            by_cases e : j = i
            · subst e; simp
            · have : ¬ j / 2 - 1 = i / 2 - 1 := by omega
              simp [this, e]

theorem get_set (x : α) : ∀ (t : Tr α) (i j : Nat), (set x t i).get j = if j = i then some x else t.get j
  | .lf, i, j => by
    show (single x (i + 1) i).get j = _
    rw [get_single x _ _ _ (Nat.lt_succ_self i), get_lf]
  | .nd v l r, i, j => by
    rw [set_nd]
    by_cases h0 : i = 0
    · subst h0
      rw [if_pos rfl, get_nd, get_nd]
      by_cases hj : j = 0
      · simp [hj]
      · simp [hj]
    · rw [if_neg h0]
      by_cases h2 : i % 2 = 1
      · rw [if_pos h2, get_nd, get_nd]
        by_cases hj : j = 0
        · have : ¬ j = i := by omega
          have h9 : ¬ 0 = i := by omega
          simp [hj, h9]
        · rw [if_neg hj, if_neg hj]
          by_cases hj2 : j % 2 = 1
          · rw [if_pos hj2, if_pos hj2, get_set x l]
            by_cases e : j = i
            · subst e; simp
            · have : ¬ j / 2 = i / 2 := by omega
              simp [this, e]
          · rw [if_neg hj2, if_neg hj2]
            have : ¬ j = i := by omega
            simp [this]
      · rw [if_neg h2, get_nd, get_nd]
        by_cases hj : j = 0
        · have h9 : ¬ 0 = i := by omega
          simp [hj, h9]
        · rw [if_neg hj, if_neg hj]
          by_cases hj2 : j % 2 = 1
          · rw [if_pos hj2, if_pos hj2]
            have : ¬ j = i := by omega
            simp [this]
          · rw [if_neg hj2, if_neg hj2, get_set x r]
            by_cases e : j = i
            · subst e; simp
            · have : ¬ j / 2 - 1 = i / 2 - 1 := by omega
              simp [this, e]

theorem get_put (t : Tr α) (i j : Nat) (x : α) : (t.put i x).get j = if j = i then some x else t.get j := get_set x t i j
theorem get_put_self (t : Tr α) (i : Nat) (x : α) : (t.put i x).get i = some x := by simp [get_put]
theorem get_put_ne (t : Tr α) {i j : Nat} (x : α) (h : j ≠ i) : (t.put i x).get j = t.get j := by simp [get_put, h]

/-- The values of a list, from a place on. -/
def fill : List α → Nat → Tr α → Tr α
  | [], _, t => t
  | x :: xs, i, t => fill xs (i + 1) (t.put i x)

theorem get_fill : ∀ (l : List α) (i : Nat) (t : Tr α) (j : Nat), (fill l i t).get j = if i ≤ j ∧ j < i + l.length then l[j - i]? else t.get j
  | [], i, t, j => by simp [fill]; intro h h2; omega
  | x :: xs, i, t, j => by
    simp only [fill]
    rw [get_fill xs (i + 1) (t.put i x) j, get_put]
    by_cases h1 : j = i
    · subst h1
      simp
      omega
    · by_cases h2 : i + 1 ≤ j ∧ j < i + 1 + xs.length
      · have h3 : i ≤ j ∧ j < i + (x :: xs).length := by simp; omega
        rw [if_pos h2, if_pos h3]
        obtain ⟨k, rfl⟩ : ∃ k, j = i + 1 + k := ⟨j - (i + 1), by omega⟩
        have e1 : i + 1 + k - (i + 1) = k := by omega
        have e2 : i + 1 + k - i = k + 1 := by omega
        rw [e1, e2]
        simp
      · have h3 : ¬ (i ≤ j ∧ j < i + (x :: xs).length) := by simp; omega
        rw [if_neg h2, if_neg h3, if_neg h1]
end Tr

/-- A block: cells (how many; the version; how many the version before had, if it is still good; cells an element; the type), or a map, or what nobody may touch any more. -/
inductive Blk where
  | cells (cs : Tr Value) (n ver : Nat) (prev : Option Nat) (esz ty : Nat)
  | map (es : List (Value × Value))
  | dead

structure Heap where
  blks : Tr Blk
  next : Nat

def Heap.empty : Heap := ⟨.lf, 0⟩

/-- What is known of a program. -/
structure Tab where
  fn : Nat → Option Func
  info : Nat → Option TypeInfo
  /-- a struct type whose values are compared field by field -/
  eqs : Nat → Bool
  /-- functions without a body, or whose body is passed over -/
  prim : Nat → Option ((Addr → Option Value) → List Value → Heap → Option (Value × Heap))
  /-- what a symbol, '.chan (some i)', stands for; what is known of it: comparing and reckoning, a text's length, a number turned to another kind -/
  sym : Nat → Option Value := fun _ => none
  bin : BinOp → Value → Value → Option Value := fun _ _ _ => none
  slen : Nat → Option Value := fun _ => none
  sconv : Nat → IntKind → Option Value := fun _ _ => none

def Tab.und (T : Tab) (t : Nat) : Option TypeDesc :=
  match T.info t with
  | some { desc := .named _ u, .. } => (T.info u).map (·.desc)
  | some i => some i.desc
  | none => none

def Tab.size (T : Tab) (t : Nat) : Option Nat := (T.info t).map (·.size)
def Tab.zero (T : Tab) (t : Nat) : Option Value := (T.info t).bind (·.zero)

/-- The capacity of which nothing is known. -/
def unk : Nat := 4611686018427387904

/-- One cell that leads nowhere, or into what came in. -/
def flat : Value → Bool
  | .bool _ | .int _ _ | .string _ | .float _ _ | .pointer none | .map none | .chan none | .nilFunc | .nilIface => true
  | .pointer (some a) => a.spot.isNone
  | .slice none l c => l == 0 && c == 0
  | .slice (some a) _ _ => a.spot.isNone
  | _ => false

def closedC : Value → Bool
  | .agg cs => cs.toList.all flat
  | .tuple cs => cs.toList.all flat
  | v => flat v

/-- May it be one cell of memory? -/
def isCell : Value → Bool
  | .agg _ | .tuple _ => false
  | _ => true

def ev (τ : Tr Value) : Operand → Option Value
  | .tmp t => τ.get t
  | .const v => bif closedC v then some v else none
  | .global _ => none
  | .func f => some (.func (.func f) #[] #[])

def Blk.at (k : Blk) (ver i : Nat) : Option Value :=
  match k with
  | .cells cs _ v p _ _ =>
    bif Nat.beq ver v then cs.get i
    else bif Nat.beq (ver + 1) v then
      match p with
      | some pn => bif Nat.blt i pn then cs.get i else none
      | none => none
    else none
  | _ => none

abbrev Old := Addr → Option Value

def keepFlat : Option Value → Option Value
  | some v => bif flat v then some v else none
  | none => none

def rd (O : Old) (H : Heap) (b off : Nat) (spot : Option Nat) : Option Value :=
  match spot with
  | none => keepFlat (O ⟨b, off, none⟩)
  | some ver => match H.blks.get b with
    | some k => k.at ver off
    | none => none

/-- so many cells from a place on -/
def rdN (O : Old) (H : Heap) (b : Nat) (spot : Option Nat) : Nat → Nat → Option (List Value)
  | 0, _ => some []
  | n + 1, off => match rd O H b off spot with
    | none => none
    | some v => match rdN O H b spot n (off + 1) with
      | none => none
      | some l => some (v :: l)

/-- cells over cells that are there -/
def wrN : List Value → Nat → Tr Value → Option (Tr Value)
  | [], _, t => some t
  | v :: l, i, t => bif isCell v then match t.get i with
    | none => none
    | some _ => wrN l (i + 1) (t.put i v)
    else none

def Heap.new (H : Heap) (k : Blk) : Heap := ⟨H.blks.put H.next k, H.next + 1⟩

def Heap.newCells (H : Heap) (l : List Value) (esz ty : Nat) : Heap := H.new (.cells (Tr.fill l 0 .lf) l.length 0 none esz ty)

def aggOf : Value → Option (List Value)
  | .agg cs => some cs.toList
  | _ => none

def isAggD : TypeDesc → Bool
  | .struct _ => true
  | .array _ _ => true
  | _ => false

def load (T : Tab) (O : Old) (H : Heap) (t : Nat) (a : Value) : Option Value :=
  match a with
  | .pointer (some ⟨b, off, spot⟩) =>
    match T.und t with
    | none => none
    | some d => bif isAggD d then
        match T.size t with
        | none => none
        | some n => match rdN O H b spot n off with
          | none => none
          | some l => some (.agg l.toArray)
      else rd O H b off spot
  | _ => none

def store (T : Tab) (H : Heap) (t : Nat) (a x : Value) : Option Heap :=
  match a with
  | .pointer (some ⟨b, off, some ver⟩) =>
    match T.size t, H.blks.get b with
    | some n, some (.cells cs m v _ esz ty) =>
      bif Nat.beq ver v && Nat.beq x.cells.size n then
        match wrN x.cells.toList off cs with
        | none => none
        | some cs' => some ⟨H.blks.put b (.cells cs' m v none esz ty), H.next⟩
      else none
    | _, _ => none
  | _ => none

def newPtr (H : Heap) : Value := .pointer (some ⟨H.next, 0, some 0⟩)

def alloc (T : Tab) (H : Heap) (t : Nat) : Option (Value × Heap) :=
  match T.zero t with
  | none => none
  | some z => bif closedC z then some (newPtr H, H.newCells z.cells.toList 0 t) else none

def box (H : Heap) (t : Nat) (v : Value) : Option (Value × Heap) := some (newPtr H, H.newCells v.cells.toList 0 t)

/-- parts laid over cells -/
def lay (place : Nat → Option (Nat × Nat)) : List Value → List (Nat × Value) → Option (List Value)
  | cs, [] => some cs
  | cs, (i, v) :: rest =>
    match place i with
    | none => none
    | some (off, size) =>
      bif Nat.beq v.cells.size size && Nat.ble (off + size) cs.length then
        lay place (cs.take off ++ v.cells.toList ++ cs.drop (off + size)) rest
      else none

def places (T : Tab) : List Field → Option (List (Nat × Nat))
  | [] => some []
  | f :: fs => match T.size f.type, places T fs with
    | some n, some l => some ((f.offset, n) :: l)
    | _, _ => none

def parts (ρ : Operand → Option Value) : List (Nat × Operand) → Option (List (Nat × Value))
  | [] => some []
  | (i, x) :: l => match ρ x, parts ρ l with
    | some v, some r => some ((i, v) :: r)
    | _, _ => none

def args (ρ : Operand → Option Value) : List Operand → Option (List Value)
  | [] => some []
  | x :: l => match ρ x, args ρ l with
    | some v, some r => some (v :: r)
    | _, _ => none

def build (T : Tab) (t : Nat) (ps : List (Nat × Value)) : Option Value :=
  match T.zero t, T.und t with
  | some z, some (.struct fields) =>
    bif closedC z then
      match places T fields.toList with
      | none => none
      | some pl => match lay (fun i => pl[i]?) z.cells.toList ps with
        | none => none
        | some l => some (.agg l.toArray)
    else none
  | some z, some (.array _ elem) =>
    bif closedC z then
      match T.size elem with
      | none => none
      | some n => match lay (fun i => some (i * n, n)) z.cells.toList ps with
        | none => none
        | some l => some (.agg l.toArray)
    else none
  | _, _ => none

def reps (z : List Value) : Nat → List Value
  | 0 => []
  | n + 1 => z ++ reps z n

def buildSlice (T : Tab) (H : Heap) (t len : Nat) (ps : List (Nat × Value)) : Option (Value × Heap) :=
  match T.und t with
  | some (.slice elem) => match T.size elem, T.zero elem with
    | some n, some z =>
      bif closedC z && Nat.beq z.cells.size n && Nat.ble 1 n && Nat.ble (len * n) 16777216 then
        match lay (fun i => some (i * n, n)) (reps z.cells.toList len) ps with
        | none => none
        | some l => some (.slice (some ⟨H.next, 0, some 0⟩) len len, H.newCells l n elem)
      else none
    | _, _ => none
  | _ => none

/-- two cells of one kind that are compared by what they hold -/
def eqCell (T : Tab) : TypeDesc → Value → Value → Option Bool
  | .bool, .bool a, .bool b => some (a == b)
  | .int _, .int k a, .int k' b => if k = k' then some (a == b) else none
  | .string, .string a, .string b => some (a.data.toList == b.data.toList)
  | .pointer _, .pointer none, .pointer b => some b.isNone
  | .pointer _, .pointer (some _), .pointer none => some false
  | .pointer e, .pointer (some ⟨b, o, some v⟩), .pointer (some ⟨b', o', some v'⟩) => if b = b' ∧ o = o' ∧ v = v' ∧ (T.size e).isSome = true then some true else none
  | .slice _, .slice none _ _, .slice b _ _ => some b.isNone
  | .slice _, .slice (some _) _ _, .slice none _ _ => some false
  | .map _ _, .map none, .map b => some b.isNone
  | .map _ _, .map (some _), .map none => some false
  | .func _ _ _, .nilFunc, .nilFunc => some true
  | .func _ _ _, .nilFunc, .func _ _ _ => some false
  | .func _ _ _, .func _ _ _, .nilFunc => some false
  | .interface _, .nilIface, .iface _ _ => some false
  | .interface _, .iface _ _, .nilIface => some false
  | _, _, _ => none

/-- structs of such cells, field by field -/
def eqFields (eq : Nat → List Value → List Value → Option Bool) (T : Tab) : List Field → List Value → List Value → Option Bool
  | [], _, _ => some true
  | f :: fs, xs, ys =>
    if f.name = "_" then none else
    match T.size f.type with
    | none => none
    | some n => match eq f.type ((xs.drop f.offset).take n) ((ys.drop f.offset).take n) with
      | some true => eqFields eq T fs xs ys
      | some false => some false
      | none => none

def eqAt (T : Tab) : Nat → Nat → List Value → List Value → Option Bool
  | 0, _, _, _ => none
  | d + 1, t, xs, ys =>
    match T.und t with
    | some (.struct fields) => bif T.eqs t then eqFields (eqAt T d) T fields.toList xs ys else none
    | some (.array _ _) => none
    | some k => match xs, ys with
      | [x], [y] => eqCell T k x y
      | _, _ => none
    | none => none

def eqV (T : Tab) (t : Nat) (x y : Value) : Option Bool :=
  match x, y with
  | .agg xs, .agg ys => match T.und t with
    | some (.struct _) => eqAt T 8 t xs.toList ys.toList
    | _ => none
  | x, y => match T.und t with
    | some (.struct _) => none
    | some (.array _ _) => none
    | some k => eqCell T k x y
    | none => none

def intOp (op : BinOp) (k : IntKind) (x y : Int) : Option Value :=
  match op with
  | .add => some (.int k (k.wrap (x + y)))
  | .sub => some (.int k (k.wrap (x - y)))
  | .mul => some (.int k (k.wrap (x * y)))
  | .quo => if y = 0 then none else some (.int k (k.wrap (x.tdiv y)))
  | .rem => if y = 0 then none else some (.int k (x.tmod y))
  | .and => some (.int k (k.wrap (BitVec.ofInt k.bits x &&& BitVec.ofInt k.bits y).toNat))
  | .or => some (.int k (k.wrap (BitVec.ofInt k.bits x ||| BitVec.ofInt k.bits y).toNat))
  | .xor => some (.int k (k.wrap (BitVec.ofInt k.bits x ^^^ BitVec.ofInt k.bits y).toNat))
  | .andNot => some (.int k (k.wrap (BitVec.ofInt k.bits x &&& ~~~BitVec.ofInt k.bits y).toNat))
  | .eql => some (.bool (x == y))
  | .neq => some (.bool (x != y))
  | .lss => some (.bool (decide (x < y)))
  | .leq => some (.bool (decide (x ≤ y)))
  | .gtr => some (.bool (decide (x > y)))
  | .geq => some (.bool (decide (x ≥ y)))
  | .shl => if y < 0 then none else some (.int k (k.wrap (x * 2 ^ (min y.toNat k.bits))))
  | .shr => if y < 0 then none else some (.int k (x.fdiv (2 ^ (min y.toNat k.bits))))

def strOp (op : BinOp) (x y : ByteArray) : Option Value :=
  match op with
  | .add => bif Nat.ble (x.size + y.size) 9223372036854775807 then some (.string (x ++ y)) else none
  | .eql => some (.bool (x.data.toList == y.data.toList))
  | .neq => some (.bool (!(x.data.toList == y.data.toList)))
  | .lss => some (.bool (Op.bytesLess x.data.toList y.data.toList))
  | .leq => some (.bool (Op.bytesLess x.data.toList y.data.toList || x.data.toList == y.data.toList))
  | .gtr => some (.bool (!(Op.bytesLess x.data.toList y.data.toList || x.data.toList == y.data.toList)))
  | .geq => some (.bool (!(Op.bytesLess x.data.toList y.data.toList)))
  | _ => none

def isShift : BinOp → Bool
  | .shl | .shr => true
  | _ => false

def isConstO : Operand → Bool
  | .const _ => true
  | _ => false

def numish : Value → Bool
  | .int _ _ | .float _ _ | .complex _ _ _ | .string _ | .chan (some _) => true
  | _ => false

/-- Of a number up to 255 its rest modulo m is known: the kind of number that '.complex fk m r' stands for. -/
def resK : FloatKind → IntKind
  | .f32 => .u8
  | .f64 => .i64

def resBin (op : BinOp) (fk : FloatKind) (m r : Nat) (y : Value) : Option Value :=
  match op, y with
  | .rem, .int k n => if k = resK fk ∧ 0 < n ∧ m % n.toNat = 0 then some (.int k (r % n.toNat : Nat)) else none
  | .quo, .int k n => if k = resK fk ∧ 0 < n ∧ m % n.toNat = 0 then some (.complex fk (m / n.toNat) (r / n.toNat)) else none
  | _, _ => none

/-- a symbol, a number, a text -/
def symV : Value → Bool
  | .chan (some _) | .int _ _ | .string _ => true
  | _ => false

def binV (T : Tab) (op : BinOp) (t : Nat) (cst : Bool) (x y : Value) : Option Value :=
  match x, y with
  | .int k a, .int k' b => if isShift op then intOp op k a b else if k = k' then intOp op k a b else none
  | .string a, .string b => strOp op a b
  | .complex fk m r, y => resBin op fk m r y
  | .chan (some i), y => bif symV y then T.bin op (.chan (some i)) y else none
  | x, .chan (some j) => bif symV x then T.bin op x (.chan (some j)) else none
  | .nilIface, .nilIface => bif cst then (match T.und t, op with | some (.interface _), .eql => some (.bool true) | some (.interface _), .neq => some (.bool false) | _, _ => none) else none
  | x, y => bif numish x then none else match op with
    | .eql => match eqV T t x y with
      | some b => some (.bool b)
      | none => none
    | .neq => match eqV T t x y with
      | some b => some (.bool (!b))
      | none => none
    | _ => none

def unV (op : UnOp) (x : Value) : Option Value :=
  match op, x with
  | .neg, .int k n => some (.int k (k.wrap (0 - n)))
  | .xor, .int k n => intOp .xor k (if k.signed then -1 else k.max) n
  | .not, .bool b => some (.bool !b)
  | _, _ => none

def isIface : TypeDesc → Bool
  | .interface _ => true
  | _ => false

def asN : Value → Option Int
  | .int _ n => some n
  | _ => none

/-- the three bounds of a cut: as they come, within what there is -/
def bounds (len cap : Nat) (low high max : Option Value) : Option (Nat × Nat × Nat) :=
  let m : Option Nat := match max with
    | some v => match asN v with
      | some i => if 0 ≤ i ∧ i ≤ cap then some i.toNat else none
      | none => none
    | none => some cap
  match m with
  | none => none
  | some m =>
    let h : Option Nat := match high, max with
      | some v, some _ => match asN v with
        | some i => if 0 ≤ i ∧ i ≤ m then some i.toNat else none
        | none => none
      | some v, none => match asN v with
        | some i => if 0 ≤ i ∧ i ≤ m then some i.toNat else none
        | none => none
      | none, none => some len
      | none, some _ => none
    match h with
    | none => none
    | some h =>
      match low with
      | some v => match asN v with
        | some i => if 0 ≤ i ∧ i ≤ h then some (i.toNat, h, m) else none
        | none => none
      | none => some (0, h, m)

def optV (ρ : Operand → Option Value) : Option Operand → Option (Option Value)
  | none => some none
  | some x => match ρ x with
    | some v => some (some v)
    | none => none

/-- the capacity of what is cut -/
def cutCap (mx : Option Value) (m l cap : Nat) : Nat :=
  match mx with
  | some _ => m - l
  | none => bif Nat.beq cap unk then unk else cap - l

def sliceV (T : Tab) (H : Heap) (t : Nat) (x : Value) (lo hi mx : Option Value) : Option Value :=
  match T.und t, x with
  | some .string, .string s => bif mx.isSome then none else
    match bounds s.size s.size lo hi none with
    | some (l, h, _) => some (.string ⟨⟨(s.data.toList.take h).drop l⟩⟩)
    | none => none
  | some (.slice elem), .slice none 0 0 => match T.size elem, bounds 0 0 lo hi mx with
    | some _, some _ => some (.slice none 0 0)
    | _, _ => none
  | some (.slice elem), .slice (some ⟨b, off, some ver⟩) len cap => match T.size elem, H.blks.get b with
    | some z, some (.cells _ _ _ _ esz _) => match bounds len len lo hi mx with
      | none => none
      | some (l, h, m) => if esz ≠ z then none else some (.slice (some ⟨b, off + l * z, some ver⟩) (h - l)
        (cutCap mx m l cap))
    | _, _ => none
  | some (.slice elem), .slice (some ⟨b, off, none⟩) len cap => match T.size elem with
    | none => none
    | some z => match bounds len cap lo hi mx with
      | none => none
      | some (l, h, m) => some (.slice (some (if m = l then ⟨b, off, none⟩ else ⟨b, off + l * z, none⟩)) (h - l) (m - l))
  | _, _ => none

def fieldAt (T : Tab) (t : Nat) (x : Value) (i : Nat) : Option Value :=
  match T.und t, x with
  | some (.struct fields), .pointer (some ⟨b, off, spot⟩) => match fields.toList[i]? with
    | none => none
    | some f => match T.size f.type with
      | some (_ + 1) => some (.pointer (some ⟨b, off + f.offset, spot⟩))
      | _ => none
  | _, _ => none

/-- a part of a struct's or an array's cells -/
def partV (T : Tab) (t : Nat) (cs : List Value) (off : Nat) : Option Value :=
  match T.und t, T.size t with
  | some d, some n => bif isAggD d then some (.agg (((cs.drop off).take n)).toArray) else cs[off]?
  | _, _ => none

def fieldV (T : Tab) (t : Nat) (x : Value) (i : Nat) : Option Value :=
  match T.und t, x with
  | some (.struct fields), .agg cs => match fields.toList[i]? with
    | none => none
    | some f => partV T f.type cs.toList f.offset
  | _, _ => none

def indexAt (T : Tab) (t : Nat) (x ix : Value) : Option Value :=
  match T.und t, x, ix with
  | some (.slice elem), .slice (some ⟨b, off, spot⟩) len _, .int _ i => match T.size elem with
    | none => none
    | some z => if 0 ≤ i ∧ i < len then some (.pointer (some ⟨b, off + i.toNat * z, spot⟩)) else none
  | some (.array len elem), .pointer (some ⟨b, off, spot⟩), .int _ i => match T.size elem with
    | none => none
    | some z => if 0 ≤ i ∧ i < len then some (.pointer (some ⟨b, off + i.toNat * z, spot⟩)) else none
  | _, _, _ => none

def indexV (T : Tab) (t : Nat) (x ix : Value) : Option Value :=
  match T.und t, x, ix with
  | some .string, .string s, .int _ i => if 0 ≤ i then match s.data.toList[i.toNat]? with
      | some c => some (.int .u8 c.toNat)
      | none => none
    else none
  | some (.array len elem), .agg cs, .int _ i => match T.size elem with
    | none => none
    | some z => if 0 ≤ i ∧ i < len then partV T elem cs.toList (i.toNat * z) else none
  | _, _, _ => none

/-- a key that is a number, a text, a bool -/
def isKey : TypeDesc → Value → Bool
  | .int k, .int k' _ => decide (k' = k)
  | .string, .string _ => true
  | .bool, .bool _ => true
  | _, _ => false

def sameKey : Value → Value → Option Bool
  | .int k a, .int k' b => if k = k' then some (a == b) else none
  | .string a, .string b => some (a.data.toList == b.data.toList)
  | .bool a, .bool b => some (a == b)
  | _, _ => none

def find (k : Value) : List (Value × Value) → Option (Option Value)
  | [] => some none
  | (k', v) :: es => match sameKey k k' with
    | some true => some (some v)
    | some false => find k es
    | none => none

def upd (k v : Value) : List (Value × Value) → Option (List (Value × Value))
  | [] => some [(k, v)]
  | (k', v') :: es => match sameKey k k' with
    | some true => some ((k', v) :: es)
    | some false => match upd k v es with
      | some r => some ((k', v') :: r)
      | none => none
    | none => none

def entries (H : Heap) : Value → Option (List (Value × Value))
  | .map none => some []
  | .map (some m) => match H.blks.get m with
    | some (.map es) => some es
    | _ => none
  | _ => none

/-- Is the text that a symbol stands for none of the keys? -/
def noKey (T : Tab) (i : Nat) : List (Value × Value) → Bool
  | [] => true
  | (.string b, _) :: es => match T.bin .eql (.chan (some i)) (.string b) with
    | some (.bool false) => noKey T i es
    | _ => false
  | _ => false

def lookup0 (T : Tab) (H : Heap) (t : Nat) (x k : Value) (ok : Bool) : Option Value :=
  match T.und t with
  | some (.map kt et) => match T.und kt, T.zero et, entries H x with
    | some d, some z, some es =>
      bif isKey d k && closedC z then
        match find k es with
        | some (some v) => some (bif ok then .tuple #[v, .bool true] else v)
        | some none => some (bif ok then .tuple #[z, .bool false] else z)
        | none => none
      else none
    | _, _, _ => none
  | _ => none

def lookup (T : Tab) (H : Heap) (t : Nat) (x k : Value) (ok : Bool) : Option Value :=
  match k with
  | .chan (some i) => match T.und t with
    | some (.map kt et) => match T.und kt, T.zero et, entries H x, T.slen i with
      | some .string, some z, some es, some _ => bif closedC z && noKey T i es then some (bif ok then .tuple #[z, .bool false] else z) else none
      | _, _, _, _ => none
    | _ => none
  | k => lookup0 T H t x k ok

def mapUpdate (T : Tab) (H : Heap) (t : Nat) (m k v : Value) : Option Heap :=
  match T.und t, m with
  | some (.map kt _), .map (some r) => match T.und kt, H.blks.get r with
    | some d, some (.map es) => bif isKey d k then
        match upd k v es with
        | some es' => some ⟨H.blks.put r (.map es'), H.next⟩
        | none => none
      else none
    | _, _ => none
  | _, _ => none

def makeSlice (T : Tab) (H : Heap) (t : Nat) (len cap : Value) : Option (Value × Heap) :=
  match T.und t, len, cap with
  | some (.slice elem), .int _ l, .int _ c => match T.info elem with
    | none => none
    | some i => match i.zero with
      | none => none
      | some z =>
        if closedC z = true ∧ z.cells.size = i.size ∧ 1 ≤ i.size ∧ 0 ≤ l ∧ l ≤ c ∧ c ≤ 1073741824 ∧ i.bytes ≤ 65536 then
          some (.slice (some ⟨H.next, 0, some 0⟩) l.toNat unk, H.newCells (reps z.cells.toList l.toNat) i.size elem)
        else none
  | _, _, _ => none

def lenV (T : Tab) (H : Heap) (t : Nat) (x : Value) : Option Value :=
  match T.und t, x with
  | some .string, .string s => some (.int .i64 s.data.toList.length)
  | some .string, .chan (some i) => T.slen i
  | some (.slice _), .slice _ n _ => some (.int .i64 n)
  | some (.array n _), _ => some (.int .i64 n)
  | some (.map _ _), .map none => some (.int .i64 0)
  | some (.map _ _), .map (some m) => match H.blks.get m with
    | some (.map es) => some (.int .i64 es.length)
    | _ => none
  | _, _ => none

def mm (mx : Bool) : Value → List Value → Option Value
  | x, [] => some x
  | .int k a, .int _ b :: l => mm mx (.int k (bif mx then (if b > a then b else a) else (if b < a then b else a))) l
  | _, _ => none

/-- how many elements an appended thing has, and its cells -/
def src (O : Old) (H : Heap) (z : Nat) : Value → Option (Nat × List Value)
  | .slice none 0 0 => some (0, [])
  | .slice (some ⟨b, off, spot⟩) n _ => match rdN O H b spot (n * z) off with
    | some l => some (n, l)
    | none => none
  | .string s => some (s.data.toList.length, s.data.toList.map fun c => .int .u8 c.toNat)
  | _ => none

def zeroOk (i : TypeInfo) : Bool :=
  match i.zero with
  | some z => Nat.beq z.cells.size i.size
  | none => false

def append (T : Tab) (O : Old) (H : Heap) (t : Nat) (s x : Value) : Option (Value × Heap) :=
  match T.und t with
  | some (.slice elem) => match T.info elem with
    | none => none
    | some i =>
      match src O H i.size x with
      | none => none
      | some (n, new) =>
        bif !(new.all isCell) || !(Nat.ble 1 i.size) || Nat.blt 65536 i.bytes || !(zeroOk i) || !(Nat.beq new.length (n * i.size)) then none else
        match s with
        | .slice none 0 0 =>
          bif Nat.beq n 0 then some (.slice none 0 0, H)
          else bif Nat.ble n 1073741824 then some (.slice (some ⟨H.next, 0, some 0⟩) n unk, H.newCells new i.size elem) else none
        | .slice (some ⟨b, off, spot⟩) len cap =>
          bif Nat.beq n 0 then (bif spot.isSome || Nat.ble len cap then some (s, H) else none)
          else bif Nat.blt 1073741824 (len + n) then none
          else bif Nat.beq cap unk then
            match spot, H.blks.get b with
            | some ver, some (.cells cs m v _ esz ty) =>
              bif Nat.beq ver v && Nat.beq esz i.size && Nat.beq ty elem && Nat.beq (off + len * i.size) m then
                some (.slice (some ⟨b, off, some (v + 1)⟩) (len + n) unk, ⟨H.blks.put b (.cells (Tr.fill new m cs) (m + new.length) (v + 1) (some m) esz ty), H.next⟩)
              else none
            | _, _ => none
          else bif Nat.ble (len + n) cap then none
          else match rdN O H b spot (len * i.size) off with
            | some old => some (.slice (some ⟨H.next, 0, some 0⟩) (len + n) unk, H.newCells (old ++ new) i.size elem)
            | none => none
        | _ => none
  | _ => none

def copyV (T : Tab) (O : Old) (H : Heap) (t : Nat) (dst s : Value) : Option (Value × Heap) :=
  match T.und t with
  | some (.slice elem) => match T.size elem, dst with
    | some z, .slice none 0 0 => match src O H z s with
      | some (n, l) => bif Nat.beq l.length (n * z) then some (.int .i64 0, H) else none
      | none => none
    | some z, .slice (some ⟨b, off, some ver⟩) len _ => match src O H z s with
      | some (n, l) =>
        match H.blks.get b with
        | some (.cells cs m v _ esz ty) =>
          bif Nat.beq ver v && Nat.beq l.length (n * z) then
            match wrN (l.take (min n len * z)) off cs with
            | some cs' => some (.int .i64 (min n len : Nat), ⟨H.blks.put b (.cells cs' m v none esz ty), H.next⟩)
            | none => none
          else none
        | _ => none
      | none => none
    | _, _ => none
  | _ => none

def clearV (T : Tab) (H : Heap) (t : Nat) (x : Value) : Option Heap :=
  match T.und t with
  | some (.slice elem) => match T.size elem, T.zero elem, x with
    | some _, some _, .slice none 0 0 => some H
    | some z, some zv, .slice (some ⟨b, off, some ver⟩) len _ =>
      match H.blks.get b with
      | some (.cells cs m v _ esz ty) =>
        bif Nat.beq ver v && closedC zv && Nat.beq zv.cells.size z && Nat.ble 1 z then
          match wrN (reps zv.cells.toList len) off cs with
          | some cs' => some ⟨H.blks.put b (.cells cs' m v none esz ty), H.next⟩
          | none => none
        else none
      | _ => none
    | _, _, _ => none
  | _ => none

def toBytes (T : Tab) (H : Heap) (src dst : Nat) (x : Value) : Option (Value × Heap) :=
  match T.und src, T.und dst, x with
  | some _, some (.slice e), .string s => match T.und e with
    | some (.int .u8) => some (.slice (some ⟨H.next, 0, some 0⟩) s.data.toList.length unk, H.newCells (s.data.toList.map fun c => .int .u8 c.toNat) 1 e)
    | _ => none
  | _, _, _ => none

def bytesOf : List Value → Option (List UInt8)
  | [] => some []
  | .int .u8 n :: l => match bytesOf l with
    | some r => some (UInt8.ofNat n.toNat :: r)
    | none => none
  | _ :: _ => none

def convV (T : Tab) (O : Old) (H : Heap) (src dst : Nat) (x : Value) : Option Value :=
  match T.und src, T.und dst, x with
  | some _, some (.int k), .int _ n => some (.int k (k.wrap n))
  | some _, some (.int .i64), .complex .f32 m r => some (.complex .f64 m r)
  | some _, some (.int k), .chan (some i) => T.sconv i k
  | some _, some .string, .string s => some (.string s)
  | some (.slice e), some .string, .slice none 0 0 => match T.und e with
    | some (.int .u8) => some (.string ⟨⟨[]⟩⟩)
    | _ => none
  | some (.slice e), some .string, .slice (some ⟨b, off, spot⟩) n _ => match T.und e with
    | some (.int .u8) => match rdN O H b spot n off with
      | some l => match bytesOf l with
        | some r => some (.string ⟨⟨r⟩⟩)
        | none => none
      | none => none
    | _ => none
  | some (.pointer _), some .unsafePointer, .pointer none => some (.pointer none)
  | some (.pointer t), some .unsafePointer, .pointer (some ⟨b, off, some ver⟩) => match T.size t, H.blks.get b with
    | some (_ + 1), some (.cells cs _ v _ _ _) => bif Nat.beq ver v && (cs.get off).isSome then some (.pointer (some ⟨b, off, some ver⟩)) else none
    | _, _ => none
  | some .unsafePointer, some (.pointer _), .pointer none => some (.pointer none)
  | some .unsafePointer, some (.pointer u), .pointer (some ⟨b, 0, some ver⟩) => match T.size u, H.blks.get b with
    | some n, some (.cells _ m v _ _ ty) => bif Nat.beq ver v && Nat.beq ty u && Nat.ble 1 n && Nat.ble n m then some (.pointer (some ⟨b, 0, some ver⟩)) else none
    | _, _ => none
  | _, _, _ => none

/-- a text out of bytes that nobody may write any more -/
def textOf (T : Tab) (O : Old) (H : Heap) (pt : Nat) (p n : Value) : Option (Value × Heap) :=
  match T.und pt, p, n with
  | some (.pointer _), .pointer none, .int _ 0 => some (.string ⟨⟨[]⟩⟩, H)
  | some (.pointer e), .pointer (some ⟨b, 0, some ver⟩), .int .i64 k =>
    match T.und e, T.size e, H.blks.get b with
    | some (.int .u8), some 1, some (.cells _ m v _ _ ty) =>
      if 0 < k ∧ k ≤ m ∧ k ≤ 1073741824 ∧ ver = v ∧ ty = e then
        match rdN O H b (some ver) k.toNat 0 with
        | some l => match bytesOf l with
          | some r => some (.string ⟨⟨r⟩⟩, ⟨H.blks.put b .dead, H.next⟩)
          | none => none
        | none => none
      else none
    | _, _, _ => none
  | _, _, _ => none

/-- how an operation is taken in a region whose order is open -/
inductive Cls where
  | p | l | a | w
  deriving DecidableEq

def isBytes (T : Tab) (t : Nat) : Bool := match T.und t with | some (.slice _) => true | _ => false

def cls (T : Tab) : Op → Cls
  | .move _ | .assign _ | .pick .. | .binOp .. | .unOp .. | .fieldAddr .. | .field .. | .indexAddr .. | .index .. | .extract .. | .nilCheck _ | .makeFunc .. | .makeInterface .. | .build .. => .p
  | .convert _ dst _ => if isBytes T dst then .a else .l
  | .load .. | .lookup .. | .slice .. => .l
  | .call { callee := .builtin .unsafeSliceData, .. } | .call { callee := .builtin .len, .. } | .call { callee := .builtin .max, .. } | .call { callee := .builtin .min, .. } => .l
  | .alloc _ | .box .. | .buildSlice .. | .makeMap .. | .makeSlice .. => .a
  | _ => .w

def pick (c a b : Option Value) : Option Value :=
  match c with
  | some (.bool true) => a
  | some (.bool false) => b
  | _ => none

/-- what leaves memory alone, and does not look at it -/
def opP (T : Tab) (ρ : Operand → Option Value) : Op → Option Value
  | .move x | .assign x => ρ x
  | .pick c a b => pick (ρ c) (ρ a) (ρ b)
  | .binOp op t x y _ => match ρ x, ρ y with
    | some a, some b => binV T op t (isConstO x || isConstO y) a b
    | _, _ => none
  | .unOp op _ x => match ρ x with
    | some a => unV op a
    | none => none
  | .fieldAddr t x i => match ρ x with
    | some a => fieldAt T t a i
    | none => none
  | .field t x i => match ρ x with
    | some a => fieldV T t a i
    | none => none
  | .indexAddr t x i => match ρ x, ρ i with
    | some a, some b => indexAt T t a b
    | _, _ => none
  | .index t x i => match ρ x, ρ i with
    | some a, some b => indexV T t a b
    | _, _ => none
  | .extract x i => match ρ x with
    | some (.tuple vs) => vs.toList[i]?
    | _ => none
  | .nilCheck x => match ρ x with
    | some (.pointer (some a)) => some (.pointer (some a))
    | some (.func (.func g) a b) => some (.func (.func g) a b)
    | some (.iface t v) => some (.iface t v)
    | _ => none
  | .makeFunc fn first captured => match args ρ first.toList, args ρ captured.toList with
    | some l, some r => some (.func fn l.toArray r.toArray)
    | _, _ => none
  | .makeInterface t x => match T.und t, ρ x with
    | some d, some a => bif isIface d then none else some (.iface t a)
    | _, _ => none
  | .build t ps => match parts ρ ps.toList with
    | some l => build T t l
    | none => none
  | _ => none

/-- what looks at memory -/
def opL (T : Tab) (O : Old) (H : Heap) (ρ : Operand → Option Value) : Op → Option Value
  | .load t a => match ρ a with
    | some v => load T O H t v
    | none => none
  | .slice t x lo hi mx => match ρ x, optV ρ lo, optV ρ hi, optV ρ mx with
    | some a, some l, some h, some m => sliceV T H t a l h m
    | _, _, _, _ => none
  | .lookup t m k ok => match ρ m, ρ k with
    | some a, some b => lookup T H t a b ok
    | _, _ => none
  | .convert src dst x => match ρ x with
    | some a => convV T O H src dst a
    | none => none
  | .call { callee := .builtin .len, args := xa, argTypes := ts } => match xa.toList, ts.toList with
    | [x], t :: _ => match ρ x with
      | some a => lenV T H t a
      | none => none
    | _, _ => none
  | .call { callee := .builtin .unsafeSliceData, args := xa, .. } => match args ρ xa.toList with
    | some [.slice none 0 0] => some (.pointer none)
    | some [.slice (some ⟨b, off, some ver⟩) (n + 1) _] => some (.pointer (some ⟨b, off, some ver⟩))
    | _ => none
  | .call { callee := .builtin .max, args := xa, .. } => match args ρ xa.toList with
    | some (x :: l) => mm true x l
    | _ => none
  | .call { callee := .builtin .min, args := xa, .. } => match args ρ xa.toList with
    | some (x :: l) => mm false x l
    | _ => none
  | _ => none

/-- what makes a block -/
def opA (T : Tab) (H : Heap) (ρ : Operand → Option Value) : Op → Option (Value × Heap)
  | .alloc t => alloc T H t
  | .box t x => match ρ x with
    | some v => box H t v
    | none => none
  | .buildSlice t n ps => match parts ρ ps.toList with
    | some l => buildSlice T H t n l
    | none => none
  | .makeMap t r => match r with
    | none => some (.map (some H.next), H.new (.map []))
    | some _ => none
  | .makeSlice t l c => match ρ l, ρ c with
    | some a, some b => makeSlice T H t a b
    | _, _ => none
  | .convert src dst x => match ρ x with
    | some a => toBytes T H src dst a
    | none => none
  | _ => none

abbrev Call := Nat → List Value → Heap → Option (Value × Heap)

def skipped : Value := .tuple #[]

/-- what writes, or calls -/
def opW (T : Tab) (O : Old) (call : Call) (H : Heap) (ρ : Operand → Option Value) : Op → Option (Value × Heap)
  | .store t a x => match ρ a, ρ x with
    | some p, some v => match store T H t p v with
      | some H' => some (skipped, H')
      | none => none
    | _, _ => none
  | .mapUpdate t m k x | .insert t m k x => match ρ m, ρ k, ρ x with
    | some a, some b, some v => match mapUpdate T H t a b v with
      | some H' => some (skipped, H')
      | none => none
    | _, _, _ => none
  | .call { callee := .builtin .append, args := xa, argTypes := ts } => match xa.toList, ts.toList with
    | [s, x], [t, u] => match T.und u, ρ s, ρ x with
      | some (.int _), _, _ => none
      | some _, some a, some b => append T O H t a b
      | _, _, _ => none
    | _, _ => none
  | .call { callee := .builtin .copy, args := xa, argTypes := ts } => match xa.toList, ts.toList with
    | [d, x], t :: _ => match ρ d, ρ x with
      | some a, some b => copyV T O H t a b
      | _, _ => none
    | _, _ => none
  | .call { callee := .builtin .clear, args := xa, argTypes := ts } => match args ρ xa.toList, ts.toList with
    | some [x], t :: _ => match clearV T H t x with
      | some H' => some (skipped, H')
      | none => none
    | _, _ => none
  | .call { callee := .builtin .unsafeString, args := xa, argTypes := ts } => match args ρ xa.toList, ts.toList with
    | some [p, n], t :: _ => textOf T O H t p n
    | _, _ => none
  | .call { callee := .value f, args := xa, .. } => match ρ f, args ρ xa.toList with
    | some (.func (.func g) first captured), some l => call g (first.toList ++ l ++ captured.toList) H
    | _, _ => none
  | _ => none

def evalOp (T : Tab) (O : Old) (call : Call) (ρ : Operand → Option Value) (o : Oper) (H : Heap) : Option (Value × Heap) :=
  match cls T o.op with
  | .p => match opP T ρ o.op with
    | some v => some (v, H)
    | none => none
  | .l => match opL T O H ρ o.op with
    | some v => some (v, H)
    | none => none
  | .a => opA T H ρ o.op
  | .w => opW T O call H ρ o.op

def putT (N : Nat) (τ : Tr Value) (d : Option Nat) (v : Value) : Option (Tr Value) :=
  match d with
  | some d => bif Nat.blt d N then some (τ.put d v) else none
  | none => some τ

def dstOf (ops : List Oper) (j : Nat) : Option Nat := (ops[j]?).bind (·.dst)

/-- Is an operation wanted? -/
def wanted (ops : List Oper) (τ : Tr Value) (o : Oper) : Option Bool :=
  match o.guard with
  | none => some true
  | some (j, want) => match dstOf ops j with
    | none => some false
    | some d => match τ.get d with
      | some (.bool b) => some (b == want)
      | some _ => some false
      | none => none

def evalOne (T : Tab) (O : Old) (call : Call) (N : Nat) (all : List Oper) (o : Oper) (τ : Tr Value) (H : Heap) : Option (Tr Value × Heap) :=
  match wanted all τ o with
  | none => none
  | some false => match putT N τ o.dst skipped with
    | some τ' => some (τ', H)
    | none => none
  | some true => match evalOp T O call (ev τ) o H with
    | some (v, H') => match putT N τ o.dst v with
      | some τ' => some (τ', H')
      | none => none
    | none => none

/-- operations one behind the other -/
def evalOps (T : Tab) (O : Old) (call : Call) (N : Nat) (all : List Oper) : List Oper → Tr Value → Heap → Option (Tr Value × Heap)
  | [], τ, H => some (τ, H)
  | o :: l, τ, H => match evalOne T O call N all o τ H with
    | some (τ', H') => evalOps T O call N all l τ' H'
    | none => none

/-! Regions whose order is open. -/

def maskOf (acc : Tr Nat) : List Edge → Nat → Nat
  | [], s => s
  | e :: l, s => maskOf acc l (bif Region.binds .any e then Nat.lor s (Nat.lor (2 ^ e.on) ((acc.get e.on).getD 0)) else s)

/-- of each operation: which ones are surely before it, as bits -/
def masks : List Oper → Nat → Tr Nat → Tr Nat
  | [], _, acc => acc
  | o :: l, i, acc => masks l (i + 1) (acc.put i (maskOf acc o.after.toList 0))

def tmpsOf : List Operand → List Nat
  | [] => []
  | .tmp t :: l => t :: tmpsOf l
  | _ :: l => tmpsOf l

def looks (ops : List Oper) (o : Oper) : List Nat :=
  tmpsOf o.op.operands.toList ++ (match o.guard with | some (g, _) => (dstOf ops g).toList | none => [])

def writers : List Oper → Nat → Tr Nat → Option (Tr Nat)
  | [], _, acc => some acc
  | o :: l, i, acc => match o.dst with
    | none => writers l (i + 1) acc
    | some d => match acc.get d with
      | some _ => none
      | none => writers l (i + 1) (acc.put d i)

/-- a temporary that an operation looks at is written by one that is surely before it, or surely behind it, or by nobody -/
def lookOk (ms W : Tr Nat) (j : Nat) : List Nat → Bool
  | [] => true
  | t :: l => (match W.get t with
      | none => true
      | some i => Nat.beq i j || Nat.testBit ((ms.get j).getD 0) i || Nat.testBit ((ms.get i).getD 0) j) && lookOk ms W j l

def looksOk (ops : List Oper) (ms W : Tr Nat) : List Oper → Nat → Bool
  | [], _ => true
  | o :: l, j => lookOk ms W j (looks ops o) && looksOk ops ms W l (j + 1)

def isW (T : Tab) (o : Oper) : Bool := match cls T o.op with | .w => true | _ => false

def wsOf (T : Tab) : List Oper → Nat → List Nat
  | [], _ => []
  | o :: l, i => bif isW T o then i :: wsOf T l (i + 1) else wsOf T l (i + 1)

def bitsOf : List Nat → Nat
  | [] => 0
  | i :: l => Nat.lor (2 ^ i) (bitsOf l)

/-- the operations that are no writers and have just these writers before them -/
def level (T : Tab) (ms : Tr Nat) (all X : Nat) : List Oper → Nat → List (Nat × Oper)
  | [], _ => []
  | o :: l, i => bif !(isW T o) && Nat.beq (Nat.land ((ms.get i).getD 0) all) X then (i, o) :: level T ms all X l (i + 1) else level T ms all X l (i + 1)

def order (T : Tab) (ops : List Oper) (ms : Tr Nat) (all : Nat) : List Nat → Nat → List (Nat × Oper)
  | [], X => level T ms all X ops 0
  | w :: ws, X => level T ms all X ops 0 ++ (match ops[w]? with | some o => [(w, o)] | none => []) ++ order T ops ms all ws (Nat.lor X (2 ^ w))

/-- a look at memory that may come later, too -/
structure Pend where
  j : Nat
  τ : Tr Value
  op : Op
  v : Value

def veqC : Value → Value → Bool
  | .bool a, .bool b => a == b
  | .int k a, .int k' b => decide (k = k') && a == b
  | .string a, .string b => a.data.toList == b.data.toList
  | .pointer a, .pointer b => decide (a = b)
  | .slice a l c, .slice b m d => decide (a = b) && Nat.beq l m && Nat.beq c d
  | .map a, .map b => decide (a = b)
  | .chan a, .chan b => decide (a = b)
  | .complex k m r, .complex k' m' r' => decide (k = k') && Nat.beq m m' && Nat.beq r r'
  | .nilFunc, .nilFunc => true
  | .nilIface, .nilIface => true
  | _, _ => false

def veqL : List Value → List Value → Bool
  | [], [] => true
  | x :: l, y :: r => veqC x y && veqL l r
  | _, _ => false

def veq : Value → Value → Bool
  | .agg a, .agg b => veqL a.toList b.toList
  | .tuple a, .tuple b => veqL a.toList b.toList
  | .func f a b, .func g c d => decide (f = g) && veqL a.toList c.toList && veqL b.toList d.toList
  | x, y => veqC x y

def stable (T : Tab) (O : Old) (m : Nat) (H : Heap) : List Pend → Bool
  | [] => true
  | p :: l => (bif Nat.testBit m p.j then true else match opL T O H (ev p.τ) p.op with
      | some v => veq v p.v
      | none => false) && stable T O m H l

def drawRun (T : Tab) (O : Old) (call : Call) (N : Nat) (all : List Oper) (ms : Tr Nat) : List (Nat × Oper) → (E X : Nat) → List Pend → Tr Value → Heap → Option (Nat × Tr Value × Heap)
  | [], E, _, _, τ, H => some (E, τ, H)
  | (j, o) :: l, E, X, pend, τ, H =>
    match ms.get j with
    | none => none
    | some m =>
      bif Nat.testBit E j || !(Nat.beq (Nat.land m E) m) || !(Nat.beq (Nat.land X m) X) then none else
      match wanted all τ o with
      | none => none
      | some false => match putT N τ o.dst skipped with
        | some τ' => drawRun T O call N all ms l (Nat.lor E (2 ^ j)) (bif isW T o then Nat.lor X (2 ^ j) else X) pend τ' H
        | none => none
      | some true => match evalOp T O call (ev τ) o H with
        | none => none
        | some (v, H') => match putT N τ o.dst v with
          | none => none
          | some τ' => match cls T o.op with
            | .w => bif stable T O m H' pend && Nat.ble H.next H'.next then drawRun T O call N all ms l (Nat.lor E (2 ^ j)) (Nat.lor X (2 ^ j)) (pend.filter fun p => !(Nat.testBit m p.j)) τ' H' else none
            | .l => drawRun T O call N all ms l (Nat.lor E (2 ^ j)) X (⟨j, τ, o.op, v⟩ :: pend) τ' H'
            | .a => bif stable T O 0 H' pend then drawRun T O call N all ms l (Nat.lor E (2 ^ j)) X pend τ' H' else none
            | .p => drawRun T O call N all ms l (Nat.lor E (2 ^ j)) X pend τ' H'

def drawRegion (T : Tab) (O : Old) (call : Call) (N : Nat) (ops : List Oper) (τ : Tr Value) (H : Heap) : Option (Tr Value × Heap) :=
  match masks ops 0 .lf, writers ops 0 .lf with
  | ms, some W =>
    bif looksOk ops ms W ops 0 then
      match wsOf T ops 0 with
      | ws => match drawRun T O call N ops ms (order T ops ms (bitsOf ws) ws 0) 0 0 [] τ H with
        | some (E, τ', H') => bif Nat.beq E (2 ^ ops.length - 1) then some (τ', H') else none
        | none => none
    else none
  | _, none => none

inductive Ex where
  | normal
  | exit (id : Nat)
  | ret

def iter : Nat → (Tr Value → Heap → Option (Ex × Tr Value × Heap)) → Tr Value → Heap → Option (Ex × Tr Value × Heap)
  | 0, _, _, _ => none
  | n + 1, f, τ, H => match f τ H with
    | some (.normal, τ', H') => iter n f τ' H'
    | r => r

def evalC (T : Tab) (O : Old) (call : Call) (N lf : Nat) : Code → Tr Value → Heap → Option (Ex × Tr Value × Heap)
  | .skip, τ, H => some (.normal, τ, H)
  | .label _, τ, H => some (.normal, τ, H)
  | .region _ ops draw, τ, H => match (bif draw then drawRegion T O call N ops.toList τ H else evalOps T O call N ops.toList ops.toList τ H) with
    | some (τ', H') => some (.normal, τ', H')
    | none => none
  | .seq a b, τ, H => match evalC T O call N lf a τ H with
    | some (.normal, τ', H') => evalC T O call N lf b τ' H'
    | r => r
  | .cond c x y, τ, H => match ev τ c with
    | some (.bool true) => evalC T O call N lf x τ H
    | some (.bool false) => evalC T O call N lf y τ H
    | _ => none
  | .block id c, τ, H => match evalC T O call N lf c τ H with
    | some (.exit i, τ', H') => bif Nat.beq i id then some (.normal, τ', H') else some (.exit i, τ', H')
    | r => r
  | .loop c, τ, H => iter lf (evalC T O call N lf c) τ H
  | .exit id, τ, H => some (.exit id, τ, H)
  | .ret, τ, H => some (.ret, τ, H)
  | _, _, _ => none

def resV (T : Tab) (O : Old) (τ : Tr Value) (H : Heap) : List ResultVar → Option (List Value)
  | [] => some []
  | .tmp t :: l => match τ.get t, resV T O τ H l with
    | some v, some r => some (v :: r)
    | _, _ => none
  | .cell a t :: l => match τ.get a with
    | some p => match load T O H t p, resV T O τ H l with
      | some v, some r => some (v :: r)
      | _, _ => none
    | none => none

def oneOf : List Value → Value
  | [v] => v
  | l => .tuple l.toArray

def evalCall (T : Tab) (O : Old) (lf : Nat) : Nat → Nat → List Value → Heap → Option (Value × Heap)
  | 0, _, _, _ => none
  | k + 1, f, xa, H =>
    match T.prim f with
    | some p => p O xa H
    | none => match T.fn f with
      | none => none
      | some fn => match fn.body with
        | none => none
        | some c => bif Nat.ble xa.length fn.ntmps then
            match evalC T O (evalCall T O lf k) fn.ntmps lf c (Tr.fill xa 0 .lf) H with
            | some (.normal, τ, H') => match resV T O τ H' fn.results.toList with
              | some l => some (oneOf l, H')
              | none => none
            | some (.ret, τ, H') => match resV T O τ H' fn.results.toList with
              | some l => some (oneOf l, H')
              | none => none
            | _ => none
          else none
end
end Go.Ev
