/-
  Lemmas for the laws of this seat.
-/
import Derived.Calls
import GoSem.Dispatch
import Derived.Laws.Sem
import Derived.Laws.Strings
import Derived.Laws.StructEq
import Derived.Laws.Tables
set_option linter.unusedVariables false
set_option linter.unusedSimpArgs false
namespace Go.Ev
inductive Tr (α : Type) where
  | lf
  | nd (v : Option α) (l r : Tr α)
noncomputable section
namespace Tr
variable {α : Type}
def get (t : Tr α) : Nat → Option α :=
  Tr.rec (fun _ => none) (fun v _ _ gl gr i => Bool.rec (Bool.rec (gr (Nat.pred (Nat.div i 2))) (gl (Nat.div i 2)) (Nat.beq (Nat.mod i 2) 1)) v (Nat.beq i 0)) t
def single (x : α) (f : Nat) : Nat → Tr α :=
  Nat.rec (fun _ => .lf) (fun _ s i => Bool.rec (Bool.rec (.nd none .lf (s (Nat.pred (Nat.div i 2)))) (.nd none (s (Nat.div i 2)) .lf) (Nat.beq (Nat.mod i 2) 1)) (.nd (some x) .lf .lf) (Nat.beq i 0)) f
def set (x : α) (t : Tr α) : Nat → Tr α :=
  Tr.rec (fun i => single x (Nat.succ i) i) (fun v l r sl sr i => Bool.rec (Bool.rec (.nd v l (sr (Nat.pred (Nat.div i 2)))) (.nd v (sl (Nat.div i 2)) r) (Nat.beq (Nat.mod i 2) 1)) (.nd (some x) l r) (Nat.beq i 0)) t
def put (t : Tr α) (i : Nat) (x : α) : Tr α := set x t i
theorem get_nd (v : Option α) (l r : Tr α) (i : Nat) : (Tr.nd v l r).get i = if i = 0 then v else if i % 2 = 1 then l.get (i / 2) else r.get (i / 2 - 1) := by
  show Bool.rec (motive := fun _ => Option α) (Bool.rec (motive := fun _ => Option α) (r.get (Nat.pred (Nat.div i 2))) (l.get (Nat.div i 2)) (Nat.beq (Nat.mod i 2) 1)) v (Nat.beq i 0) = _
  by_cases h : i = 0
  · subst h; rfl
  · have e1 : Nat.beq i 0 = false := by cases hb : Nat.beq i 0 with
      | false => rfl
      | true => exact absurd (Nat.eq_of_beq_eq_true hb) h
    rw [e1, if_neg h]
    by_cases h2 : i % 2 = 1
    · have e2 : Nat.beq (Nat.mod i 2) 1 = true := by show Nat.beq (i % 2) 1 = true; rw [h2]; rfl
      rw [e2, if_pos h2]; rfl
    · have e2 : Nat.beq (Nat.mod i 2) 1 = false := by cases hb : Nat.beq (Nat.mod i 2) 1 with
        | false => rfl
        | true => exact absurd (Nat.eq_of_beq_eq_true hb) h2
      rw [e2, if_neg h2]; rfl
theorem single_succ (x : α) (f i : Nat) : single x (f + 1) i = if i = 0 then .nd (some x) .lf .lf else if i % 2 = 1 then .nd none (single x f (i / 2)) .lf else .nd none .lf (single x f (i / 2 - 1)) := by
  show Bool.rec (motive := fun _ => Tr α) (Bool.rec (motive := fun _ => Tr α) (Tr.nd none .lf (single x f (Nat.pred (Nat.div i 2)))) (.nd none (single x f (Nat.div i 2)) .lf) (Nat.beq (Nat.mod i 2) 1)) (.nd (some x) .lf .lf) (Nat.beq i 0) = _
  by_cases h : i = 0
  · subst h; rfl
  · have e1 : Nat.beq i 0 = false := by cases hb : Nat.beq i 0 with
      | false => rfl
      | true => exact absurd (Nat.eq_of_beq_eq_true hb) h
    rw [e1, if_neg h]
    by_cases h2 : i % 2 = 1
    · have e2 : Nat.beq (Nat.mod i 2) 1 = true := by show Nat.beq (i % 2) 1 = true; rw [h2]; rfl
      rw [e2, if_pos h2]; rfl
    · have e2 : Nat.beq (Nat.mod i 2) 1 = false := by cases hb : Nat.beq (Nat.mod i 2) 1 with
        | false => rfl
        | true => exact absurd (Nat.eq_of_beq_eq_true hb) h2
      rw [e2, if_neg h2]; rfl
theorem set_nd (x : α) (v : Option α) (l r : Tr α) (i : Nat) : set x (Tr.nd v l r) i = if i = 0 then .nd (some x) l r else if i % 2 = 1 then .nd v (set x l (i / 2)) r else .nd v l (set x r (i / 2 - 1)) := by
  show Bool.rec (motive := fun _ => Tr α) (Bool.rec (motive := fun _ => Tr α) (Tr.nd v l (set x r (Nat.pred (Nat.div i 2)))) (.nd v (set x l (Nat.div i 2)) r) (Nat.beq (Nat.mod i 2) 1)) (.nd (some x) l r) (Nat.beq i 0) = _
  by_cases h : i = 0
  · subst h; rfl
  · have e1 : Nat.beq i 0 = false := by cases hb : Nat.beq i 0 with
      | false => rfl
      | true => exact absurd (Nat.eq_of_beq_eq_true hb) h
    rw [e1, if_neg h]
    by_cases h2 : i % 2 = 1
    · have e2 : Nat.beq (Nat.mod i 2) 1 = true := by show Nat.beq (i % 2) 1 = true; rw [h2]; rfl
      rw [e2, if_pos h2]; rfl
    · have e2 : Nat.beq (Nat.mod i 2) 1 = false := by cases hb : Nat.beq (Nat.mod i 2) 1 with
        | false => rfl
        | true => exact absurd (Nat.eq_of_beq_eq_true hb) h2
      rw [e2, if_neg h2]; rfl
def cutTo (t : Tr α) : Nat → Tr α :=
  Tr.rec (fun _ => .lf) (fun v _ _ cl cr k => Bool.rec (.nd v (cl (Nat.div k 2)) (cr (Nat.div (Nat.pred k) 2))) .lf (Nat.beq k 0)) t
theorem cutTo_nd (v : Option α) (l r : Tr α) (k : Nat) : cutTo (Tr.nd v l r) k = if k = 0 then .lf else .nd v (cutTo l (k / 2)) (cutTo r ((k - 1) / 2)) := by
  show Bool.rec (motive := fun _ => Tr α) (Tr.nd v (cutTo l (Nat.div k 2)) (cutTo r (Nat.div (Nat.pred k) 2))) .lf (Nat.beq k 0) = _
  by_cases h : k = 0
  · subst h; rfl
  · have e1 : Nat.beq k 0 = false := by cases hb : Nat.beq k 0 with
      | false => rfl
      | true => exact absurd (Nat.eq_of_beq_eq_true hb) h
    rw [e1, if_neg h]; rfl
theorem get_lf (i : Nat) : (Tr.lf : Tr α).get i = none := rfl
theorem get_cutTo : ∀ (t : Tr α) (k j : Nat), (cutTo t k).get j = if j < k then t.get j else none
  | .lf, k, j => by
    show (Tr.lf : Tr α).get j = _
    rw [get_lf]; simp
  | .nd v l r, k, j => by
    rw [cutTo_nd]
    by_cases h : k = 0
    · rw [if_pos h, get_lf, if_neg (by omega)]
    · rw [if_neg h, get_nd, get_nd]
      by_cases hj : j = 0
      · rw [if_pos hj, if_pos hj, if_pos (by omega)]
      · rw [if_neg hj, if_neg hj]
        by_cases h2 : j % 2 = 1
        · rw [if_pos h2, if_pos h2, get_cutTo l]
          by_cases hk : j < k
          · rw [if_pos hk, if_pos (by omega)]
          · rw [if_neg hk, if_neg (by omega)]
        · rw [if_neg h2, if_neg h2, get_cutTo r]
          by_cases hk : j < k
          · rw [if_pos hk, if_pos (by omega)]
          · rw [if_neg hk, if_neg (by omega)]
theorem get_single (x : α) : ∀ (f i j : Nat), i < f → (single x f i).get j = if j = i then some x else none
  | 0, i, j, h => by omega
  | f + 1, i, j, h => by
    rw [single_succ]
    by_cases h0 : i = 0
    · subst h0
      rw [if_pos rfl, get_nd]
      by_cases hj : j = 0
      · simp [hj]
      · simp [hj, get_lf]
    · rw [if_neg h0]
      by_cases h2 : i % 2 = 1
      · rw [if_pos h2, get_nd]
        by_cases hj : j = 0
        · have : ¬ j = i := by omega
          simp [hj]; omega
        · rw [if_neg hj]
          by_cases hj2 : j % 2 = 1
          · rw [if_pos hj2, get_single x f _ _ (by omega)]
            by_cases e : j = i
            · subst e; simp
            · have : ¬ j / 2 = i / 2 := by omega
              simp [this, e]
          · rw [if_neg hj2, get_lf]
            have : ¬ j = i := by omega
            simp [this]
      · rw [if_neg h2, get_nd]
        by_cases hj : j = 0
        · simp [hj]; omega
        · rw [if_neg hj]
          by_cases hj2 : j % 2 = 1
          · rw [if_pos hj2, get_lf]
            have : ¬ j = i := by omega
            simp [this]
          · rw [if_neg hj2, get_single x f _ _ (by omega)]
            by_cases e : j = i
            · subst e; simp
            · have : ¬ j / 2 - 1 = i / 2 - 1 := by omega
              simp [this, e]
theorem get_set (x : α) : ∀ (t : Tr α) (i j : Nat), (set x t i).get j = if j = i then some x else t.get j
  | .lf, i, j => by
    show (single x (i + 1) i).get j = _
    rw [get_single x _ _ _ (Nat.lt_succ_self i), get_lf]
  | .nd v l r, i, j => by
    rw [set_nd]
    by_cases h0 : i = 0
    · subst h0
      rw [if_pos rfl, get_nd, get_nd]
      by_cases hj : j = 0
      · simp [hj]
      · simp [hj]
    · rw [if_neg h0]
      by_cases h2 : i % 2 = 1
      · rw [if_pos h2, get_nd, get_nd]
        by_cases hj : j = 0
        · have : ¬ j = i := by omega
          have h9 : ¬ 0 = i := by omega
          simp [hj, h9]
        · rw [if_neg hj, if_neg hj]
          by_cases hj2 : j % 2 = 1
          · rw [if_pos hj2, if_pos hj2, get_set x l]
            by_cases e : j = i
            · subst e; simp
            · have : ¬ j / 2 = i / 2 := by omega
              simp [this, e]
          · rw [if_neg hj2, if_neg hj2]
            have : ¬ j = i := by omega
            simp [this]
      · rw [if_neg h2, get_nd, get_nd]
        by_cases hj : j = 0
        · have h9 : ¬ 0 = i := by omega
          simp [hj, h9]
        · rw [if_neg hj, if_neg hj]
          by_cases hj2 : j % 2 = 1
          · rw [if_pos hj2, if_pos hj2]
            have : ¬ j = i := by omega
            simp [this]
          · rw [if_neg hj2, if_neg hj2, get_set x r]
            by_cases e : j = i
            · subst e; simp
            · have : ¬ j / 2 - 1 = i / 2 - 1 := by omega
              simp [this, e]
theorem get_put (t : Tr α) (i j : Nat) (x : α) : (t.put i x).get j = if j = i then some x else t.get j := get_set x t i j
theorem get_put_self (t : Tr α) (i : Nat) (x : α) : (t.put i x).get i = some x := by simp [get_put]
theorem get_put_ne (t : Tr α) {i j : Nat} (x : α) (h : j ≠ i) : (t.put i x).get j = t.get j := by simp [get_put, h]
def fill : List α → Nat → Tr α → Tr α
  | [], _, t => t
  | x :: xs, i, t => fill xs (i + 1) (t.put i x)
theorem get_fill : ∀ (l : List α) (i : Nat) (t : Tr α) (j : Nat), (fill l i t).get j = if i ≤ j ∧ j < i + l.length then l[j - i]? else t.get j
  | [], i, t, j => by simp [fill]; intro h h2; omega
  | x :: xs, i, t, j => by
    simp only [fill]
    rw [get_fill xs (i + 1) (t.put i x) j, get_put]
    by_cases h1 : j = i
    · subst h1
      simp
      omega
    · by_cases h2 : i + 1 ≤ j ∧ j < i + 1 + xs.length
      · have h3 : i ≤ j ∧ j < i + (x :: xs).length := by simp; omega
        rw [if_pos h2, if_pos h3]
        obtain ⟨k, rfl⟩ : ∃ k, j = i + 1 + k := ⟨j - (i + 1), by omega⟩
        have e1 : i + 1 + k - (i + 1) = k := by omega
        have e2 : i + 1 + k - i = k + 1 := by omega
        rw [e1, e2]
        simp
      · have h3 : ¬ (i ≤ j ∧ j < i + (x :: xs).length) := by simp; omega
        rw [if_neg h2, if_neg h3, if_neg h1]
end Tr
inductive Blk where
  | cells (cs : Tr Value) (n ver : Nat) (prev : Option Nat) (esz ty : Nat)
  | map (es : List (Value × Value))
  | dead
structure Heap where
  blks : Tr Blk
  next : Nat
def Heap.empty : Heap := ⟨.lf, 0⟩
structure Tab where
  fn : Nat → Option Func
  info : Nat → Option TypeInfo
  eqs : Nat → Bool
  prim : Nat → Option ((Addr → Option Value) → List Value → Heap → Option (Value × Heap))
  sym : Nat → Option Value := fun _ => none
  bin : BinOp → Value → Value → Option Value := fun _ _ _ => none
  slen : Nat → Option Value := fun _ => none
  sconv : Nat → IntKind → Option Value := fun _ _ => none
def Tab.und (T : Tab) (t : Nat) : Option TypeDesc :=
  match T.info t with
  | some { desc := .named _ u, .. } => (T.info u).map (·.desc)
  | some i => some i.desc
  | none => none
def Tab.size (T : Tab) (t : Nat) : Option Nat := (T.info t).map (·.size)
def Tab.zero (T : Tab) (t : Nat) : Option Value := (T.info t).bind (·.zero)
def unk : Nat := 4611686018427387904
def flat : Value → Bool
  | .bool _ | .int _ _ | .string _ | .float _ _ | .pointer none | .map none | .chan none | .nilFunc | .nilIface => true
  | .pointer (some a) => a.spot.isNone
  | .slice none l c => l == 0 && c == 0
  | .slice (some a) _ _ => a.spot.isNone
  | _ => false
def closedC : Value → Bool
  | .agg cs => cs.toList.all flat
  | .tuple cs => cs.toList.all flat
  | v => flat v
def isCell : Value → Bool
  | .agg _ | .tuple _ => false
  | _ => true
def ev (τ : Tr Value) : Operand → Option Value
  | .tmp t => τ.get t
  | .const v => bif closedC v then some v else none
  | .global _ => none
  | .func f => some (.func (.func f) #[] #[])
def Blk.at (k : Blk) (ver i : Nat) : Option Value :=
  match k with
  | .cells cs _ v p _ _ =>
    bif Nat.beq ver v then cs.get i
    else bif Nat.beq (ver + 1) v then
      match p with
      | some pn => bif Nat.blt i pn then cs.get i else none
      | none => none
    else none
  | _ => none
abbrev Old := Addr → Option Value
def keepFlat : Option Value → Option Value
  | some v => bif flat v then some v else none
  | none => none
def rd (O : Old) (H : Heap) (b off : Nat) (spot : Option Nat) : Option Value :=
  match spot with
  | none => keepFlat (O ⟨b, off, none⟩)
  | some ver => match H.blks.get b with
    | some k => k.at ver off
    | none => none
def rdN (O : Old) (H : Heap) (b : Nat) (spot : Option Nat) : Nat → Nat → Option (List Value)
  | 0, _ => some []
  | n + 1, off => match rd O H b off spot with
    | none => none
    | some v => match rdN O H b spot n (off + 1) with
      | none => none
      | some l => some (v :: l)
def wrN : List Value → Nat → Tr Value → Option (Tr Value)
  | [], _, t => some t
  | v :: l, i, t => bif isCell v then match t.get i with
    | none => none
    | some _ => wrN l (i + 1) (t.put i v)
    else none
def Heap.new (H : Heap) (k : Blk) : Heap := ⟨H.blks.put H.next k, H.next + 1⟩
def Heap.newCells (H : Heap) (l : List Value) (esz ty : Nat) : Heap := H.new (.cells (Tr.fill l 0 .lf) l.length 0 none esz ty)
def aggOf : Value → Option (List Value)
  | .agg cs => some cs.toList
  | _ => none
def isAggD : TypeDesc → Bool
  | .struct _ => true
  | .array _ _ => true
  | _ => false
def load (T : Tab) (O : Old) (H : Heap) (t : Nat) (a : Value) : Option Value :=
  match a with
  | .pointer (some ⟨b, off, spot⟩) =>
    match T.und t with
    | none => none
    | some d => bif isAggD d then
        match T.size t with
        | none => none
        | some n => match rdN O H b spot n off with
          | none => none
          | some l => some (.agg l.toArray)
      else rd O H b off spot
  | _ => none
def store (T : Tab) (H : Heap) (t : Nat) (a x : Value) : Option Heap :=
  match a with
  | .pointer (some ⟨b, off, some ver⟩) =>
    match T.size t, H.blks.get b with
    | some n, some (.cells cs m v _ esz ty) =>
      bif Nat.beq ver v && Nat.beq x.cells.size n then
        match wrN x.cells.toList off cs with
        | none => none
        | some cs' => some ⟨H.blks.put b (.cells cs' m v none esz ty), H.next⟩
      else none
    | _, _ => none
  | _ => none
def newPtr (H : Heap) : Value := .pointer (some ⟨H.next, 0, some 0⟩)
def alloc (T : Tab) (H : Heap) (t : Nat) : Option (Value × Heap) :=
  match T.zero t with
  | none => none
  | some z => bif closedC z then some (newPtr H, H.newCells z.cells.toList 0 t) else none
def box (H : Heap) (t : Nat) (v : Value) : Option (Value × Heap) := some (newPtr H, H.newCells v.cells.toList 0 t)
def lay (place : Nat → Option (Nat × Nat)) : List Value → List (Nat × Value) → Option (List Value)
  | cs, [] => some cs
  | cs, (i, v) :: rest =>
    match place i with
    | none => none
    | some (off, size) =>
      bif Nat.beq v.cells.size size && Nat.ble (off + size) cs.length then
        lay place (cs.take off ++ v.cells.toList ++ cs.drop (off + size)) rest
      else none
def places (T : Tab) : List Field → Option (List (Nat × Nat))
  | [] => some []
  | f :: fs => match T.size f.type, places T fs with
    | some n, some l => some ((f.offset, n) :: l)
    | _, _ => none
def parts (ρ : Operand → Option Value) : List (Nat × Operand) → Option (List (Nat × Value))
  | [] => some []
  | (i, x) :: l => match ρ x, parts ρ l with
    | some v, some r => some ((i, v) :: r)
    | _, _ => none
def args (ρ : Operand → Option Value) : List Operand → Option (List Value)
  | [] => some []
  | x :: l => match ρ x, args ρ l with
    | some v, some r => some (v :: r)
    | _, _ => none
def build (T : Tab) (t : Nat) (ps : List (Nat × Value)) : Option Value :=
  match T.zero t, T.und t with
  | some z, some (.struct fields) =>
    bif closedC z then
      match places T fields.toList with
      | none => none
      | some pl => match lay (fun i => pl[i]?) z.cells.toList ps with
        | none => none
        | some l => some (.agg l.toArray)
    else none
  | some z, some (.array _ elem) =>
    bif closedC z then
      match T.size elem with
      | none => none
      | some n => match lay (fun i => some (i * n, n)) z.cells.toList ps with
        | none => none
        | some l => some (.agg l.toArray)
    else none
  | _, _ => none
def reps (z : List Value) : Nat → List Value
  | 0 => []
  | n + 1 => z ++ reps z n
def buildSlice (T : Tab) (H : Heap) (t len : Nat) (ps : List (Nat × Value)) : Option (Value × Heap) :=
  match T.und t with
  | some (.slice elem) => match T.size elem, T.zero elem with
    | some n, some z =>
      bif closedC z && Nat.beq z.cells.size n && Nat.ble 1 n && Nat.ble (len * n) 16777216 then
        match lay (fun i => some (i * n, n)) (reps z.cells.toList len) ps with
        | none => none
        | some l => some (.slice (some ⟨H.next, 0, some 0⟩) len len, H.newCells l n elem)
      else none
    | _, _ => none
  | _ => none
def eqCell (T : Tab) : TypeDesc → Value → Value → Option Bool
  | .bool, .bool a, .bool b => some (a == b)
  | .int _, .int k a, .int k' b => if k = k' then some (a == b) else none
  | .string, .string a, .string b => some (a.data.toList == b.data.toList)
  | .pointer _, .pointer none, .pointer b => some b.isNone
  | .pointer _, .pointer (some _), .pointer none => some false
  | .pointer e, .pointer (some ⟨b, o, some v⟩), .pointer (some ⟨b', o', some v'⟩) => if b = b' ∧ o = o' ∧ v = v' ∧ (T.size e).isSome = true then some true else none
  | .slice _, .slice none _ _, .slice b _ _ => some b.isNone
  | .slice _, .slice (some _) _ _, .slice none _ _ => some false
  | .map _ _, .map none, .map b => some b.isNone
  | .map _ _, .map (some _), .map none => some false
  | .func _ _ _, .nilFunc, .nilFunc => some true
  | .func _ _ _, .nilFunc, .func _ _ _ => some false
  | .func _ _ _, .func _ _ _, .nilFunc => some false
  | .interface _, .nilIface, .iface _ _ => some false
  | .interface _, .iface _ _, .nilIface => some false
  | _, _, _ => none
def eqSym (T : Tab) (k : TypeDesc) (x y : Value) : Option Bool :=
  match x, y with
  | .chan (some i), .chan (some j) => bif Nat.beq i j then (match k, T.sym i with
    | .int _, some (.int _ _) => some true
    | .string, some (.string _) => some true
    | _, _ => none) else none
  | x, y => eqCell T k x y
def eqFields (eq : Nat → List Value → List Value → Option Bool) (T : Tab) : List Field → List Value → List Value → Option Bool
  | [], _, _ => some true
  | f :: fs, xs, ys =>
    if f.name = "_" then none else
    match T.size f.type with
    | none => none
    | some n => match eq f.type ((xs.drop f.offset).take n) ((ys.drop f.offset).take n) with
      | some true => eqFields eq T fs xs ys
      | some false => some false
      | none => none
def eqAt (T : Tab) : Nat → Nat → List Value → List Value → Option Bool
  | 0, _, _, _ => none
  | d + 1, t, xs, ys =>
    match T.und t with
    | some (.struct fields) => bif T.eqs t then eqFields (eqAt T d) T fields.toList xs ys else none
    | some (.array _ _) => none
    | some k => match xs, ys with
      | [x], [y] => eqSym T k x y
      | _, _ => none
    | none => none
def eqV (T : Tab) (t : Nat) (x y : Value) : Option Bool :=
  match x, y with
  | .agg xs, .agg ys => match T.und t with
    | some (.struct _) => eqAt T 8 t xs.toList ys.toList
    | _ => none
  | x, y => match T.und t with
    | some (.struct _) => none
    | some (.array _ _) => none
    | some k => eqCell T k x y
    | none => none
def intOp (op : BinOp) (k : IntKind) (x y : Int) : Option Value :=
  match op with
  | .add => some (.int k (k.wrap (x + y)))
  | .sub => some (.int k (k.wrap (x - y)))
  | .mul => some (.int k (k.wrap (x * y)))
  | .quo => if y = 0 then none else some (.int k (k.wrap (x.tdiv y)))
  | .rem => if y = 0 then none else some (.int k (x.tmod y))
  | .and => some (.int k (k.wrap (BitVec.ofInt k.bits x &&& BitVec.ofInt k.bits y).toNat))
  | .or => some (.int k (k.wrap (BitVec.ofInt k.bits x ||| BitVec.ofInt k.bits y).toNat))
  | .xor => some (.int k (k.wrap (BitVec.ofInt k.bits x ^^^ BitVec.ofInt k.bits y).toNat))
  | .andNot => some (.int k (k.wrap (BitVec.ofInt k.bits x &&& ~~~BitVec.ofInt k.bits y).toNat))
  | .eql => some (.bool (x == y))
  | .neq => some (.bool (x != y))
  | .lss => some (.bool (decide (x < y)))
  | .leq => some (.bool (decide (x ≤ y)))
  | .gtr => some (.bool (decide (x > y)))
  | .geq => some (.bool (decide (x ≥ y)))
  | .shl => if y < 0 then none else some (.int k (k.wrap (x * 2 ^ (min y.toNat k.bits))))
  | .shr => if y < 0 then none else some (.int k (x.fdiv (2 ^ (min y.toNat k.bits))))
def strOp (op : BinOp) (x y : ByteArray) : Option Value :=
  match op with
  | .add => bif Nat.ble (x.size + y.size) 9223372036854775807 then some (.string (x ++ y)) else none
  | .eql => some (.bool (x.data.toList == y.data.toList))
  | .neq => some (.bool (!(x.data.toList == y.data.toList)))
  | .lss => some (.bool (Op.bytesLess x.data.toList y.data.toList))
  | .leq => some (.bool (Op.bytesLess x.data.toList y.data.toList || x.data.toList == y.data.toList))
  | .gtr => some (.bool (!(Op.bytesLess x.data.toList y.data.toList || x.data.toList == y.data.toList)))
  | .geq => some (.bool (!(Op.bytesLess x.data.toList y.data.toList)))
  | _ => none
def isShift : BinOp → Bool
  | .shl | .shr => true
  | _ => false
def isConstO : Operand → Bool
  | .const _ => true
  | _ => false
def numish : Value → Bool
  | .int _ _ | .float _ _ | .complex _ _ _ | .string _ | .chan (some _) => true
  | _ => false
def resK : FloatKind → IntKind
  | .f32 => .u8
  | .f64 => .i64
def resBin (op : BinOp) (fk : FloatKind) (m r : Nat) (y : Value) : Option Value :=
  match op, y with
  | .rem, .int k n => if k = resK fk ∧ 0 < n ∧ m % n.toNat = 0 then some (.int k (r % n.toNat : Nat)) else none
  | .quo, .int k n => if k = resK fk ∧ 0 < n ∧ m % n.toNat = 0 then some (.complex fk (m / n.toNat) (r / n.toNat)) else none
  | _, _ => none
def symV : Value → Bool
  | .chan (some _) | .int _ _ | .string _ => true
  | _ => false
def binV (T : Tab) (op : BinOp) (t : Nat) (cst : Bool) (x y : Value) : Option Value :=
  match x, y with
  | .int k a, .int k' b => if isShift op then intOp op k a b else if k = k' then intOp op k a b else none
  | .string a, .string b => strOp op a b
  | .complex fk m r, y => resBin op fk m r y
  | .chan (some i), y => bif symV y then T.bin op (.chan (some i)) y else none
  | x, .chan (some j) => bif symV x then T.bin op x (.chan (some j)) else none
  | .nilIface, .nilIface => bif cst then (match T.und t, op with | some (.interface _), .eql => some (.bool true) | some (.interface _), .neq => some (.bool false) | _, _ => none) else none
  | x, y => bif numish x then none else match op with
    | .eql => match eqV T t x y with
      | some b => some (.bool b)
      | none => none
    | .neq => match eqV T t x y with
      | some b => some (.bool (!b))
      | none => none
    | _ => none
def unV (op : UnOp) (x : Value) : Option Value :=
  match op, x with
  | .neg, .int k n => some (.int k (k.wrap (0 - n)))
  | .xor, .int k n => intOp .xor k (if k.signed then -1 else k.max) n
  | .not, .bool b => some (.bool !b)
  | _, _ => none
def isIface : TypeDesc → Bool
  | .interface _ => true
  | _ => false
def asN : Value → Option Int
  | .int _ n => some n
  | _ => none
def bounds (len cap : Nat) (low high max : Option Value) : Option (Nat × Nat × Nat) :=
  let m : Option Nat := match max with
    | some v => match asN v with
      | some i => if 0 ≤ i ∧ i ≤ cap then some i.toNat else none
      | none => none
    | none => some cap
  match m with
  | none => none
  | some m =>
    let h : Option Nat := match high, max with
      | some v, some _ => match asN v with
        | some i => if 0 ≤ i ∧ i ≤ m then some i.toNat else none
        | none => none
      | some v, none => match asN v with
        | some i => if 0 ≤ i ∧ i ≤ m then some i.toNat else none
        | none => none
      | none, none => some len
      | none, some _ => none
    match h with
    | none => none
    | some h =>
      match low with
      | some v => match asN v with
        | some i => if 0 ≤ i ∧ i ≤ h then some (i.toNat, h, m) else none
        | none => none
      | none => some (0, h, m)
def optV (ρ : Operand → Option Value) : Option Operand → Option (Option Value)
  | none => some none
  | some x => match ρ x with
    | some v => some (some v)
    | none => none
def cutCap (mx : Option Value) (m l cap : Nat) : Nat :=
  match mx with
  | some _ => m - l
  | none => bif Nat.beq cap unk then unk else cap - l
def sliceV (T : Tab) (H : Heap) (t : Nat) (x : Value) (lo hi mx : Option Value) : Option Value :=
  match T.und t, x with
  | some .string, .string s => bif mx.isSome then none else
    match bounds s.size s.size lo hi none with
    | some (l, h, _) => some (.string ⟨⟨(s.data.toList.take h).drop l⟩⟩)
    | none => none
  | some (.slice elem), .slice none 0 0 => match T.size elem, bounds 0 0 lo hi mx with
    | some _, some _ => some (.slice none 0 0)
    | _, _ => none
  | some (.slice elem), .slice (some ⟨b, off, some ver⟩) len cap => match T.size elem, H.blks.get b with
    | some z, some (.cells _ _ _ _ esz _) => match bounds len len lo hi mx with
      | none => none
      | some (l, h, m) => if esz ≠ z then none else some (.slice (some ⟨b, off + l * z, some ver⟩) (h - l)
        (cutCap mx m l cap))
    | _, _ => none
  | some (.slice elem), .slice (some ⟨b, off, none⟩) len cap => match T.size elem with
    | none => none
    | some z => match bounds len cap lo hi mx with
      | none => none
      | some (l, h, m) => some (.slice (some (if m = l then ⟨b, off, none⟩ else ⟨b, off + l * z, none⟩)) (h - l) (m - l))
  | _, _ => none
def fieldAt (T : Tab) (t : Nat) (x : Value) (i : Nat) : Option Value :=
  match T.und t, x with
  | some (.struct fields), .pointer (some ⟨b, off, spot⟩) => match fields.toList[i]? with
    | none => none
    | some f => match T.size f.type with
      | some (_ + 1) => some (.pointer (some ⟨b, off + f.offset, spot⟩))
      | _ => none
  | _, _ => none
def partV (T : Tab) (t : Nat) (cs : List Value) (off : Nat) : Option Value :=
  match T.und t, T.size t with
  | some d, some n => bif isAggD d then some (.agg (((cs.drop off).take n)).toArray) else cs[off]?
  | _, _ => none
def fieldV (T : Tab) (t : Nat) (x : Value) (i : Nat) : Option Value :=
  match T.und t, x with
  | some (.struct fields), .agg cs => match fields.toList[i]? with
    | none => none
    | some f => partV T f.type cs.toList f.offset
  | _, _ => none
def indexAt (T : Tab) (t : Nat) (x ix : Value) : Option Value :=
  match T.und t, x, ix with
  | some (.slice elem), .slice (some ⟨b, off, spot⟩) len _, .int _ i => match T.size elem with
    | none => none
    | some z => if 0 ≤ i ∧ i < len then some (.pointer (some ⟨b, off + i.toNat * z, spot⟩)) else none
  | some (.array len elem), .pointer (some ⟨b, off, spot⟩), .int _ i => match T.size elem with
    | none => none
    | some z => if 0 ≤ i ∧ i < len then some (.pointer (some ⟨b, off + i.toNat * z, spot⟩)) else none
  | _, _, _ => none
def indexV (T : Tab) (t : Nat) (x ix : Value) : Option Value :=
  match T.und t, x, ix with
  | some .string, .string s, .int _ i => if 0 ≤ i then match s.data.toList[i.toNat]? with
      | some c => some (.int .u8 c.toNat)
      | none => none
    else none
  | some (.array len elem), .agg cs, .int _ i => match T.size elem with
    | none => none
    | some z => if 0 ≤ i ∧ i < len then partV T elem cs.toList (i.toNat * z) else none
  | _, _, _ => none
def isKey : TypeDesc → Value → Bool
  | .int k, .int k' _ => decide (k' = k)
  | .string, .string _ => true
  | .bool, .bool _ => true
  | _, _ => false
def sameKey : Value → Value → Option Bool
  | .int k a, .int k' b => if k = k' then some (a == b) else none
  | .string a, .string b => some (a.data.toList == b.data.toList)
  | .bool a, .bool b => some (a == b)
  | _, _ => none
def find (k : Value) : List (Value × Value) → Option (Option Value)
  | [] => some none
  | (k', v) :: es => match sameKey k k' with
    | some true => some (some v)
    | some false => find k es
    | none => none
def upd (k v : Value) : List (Value × Value) → Option (List (Value × Value))
  | [] => some [(k, v)]
  | (k', v') :: es => match sameKey k k' with
    | some true => some ((k', v) :: es)
    | some false => match upd k v es with
      | some r => some ((k', v') :: r)
      | none => none
    | none => none
def entries (H : Heap) : Value → Option (List (Value × Value))
  | .map none => some []
  | .map (some m) => match H.blks.get m with
    | some (.map es) => some es
    | _ => none
  | _ => none
def noKey (T : Tab) (i : Nat) : List (Value × Value) → Bool
  | [] => true
  | (.string b, _) :: es => match T.bin .eql (.chan (some i)) (.string b) with
    | some (.bool false) => noKey T i es
    | _ => false
  | _ => false
def lookup0 (T : Tab) (H : Heap) (t : Nat) (x k : Value) (ok : Bool) : Option Value :=
  match T.und t with
  | some (.map kt et) => match T.und kt, T.zero et, entries H x with
    | some d, some z, some es =>
      bif isKey d k && closedC z then
        match find k es with
        | some (some v) => some (bif ok then .tuple #[v, .bool true] else v)
        | some none => some (bif ok then .tuple #[z, .bool false] else z)
        | none => none
      else none
    | _, _, _ => none
  | _ => none
def lookup (T : Tab) (H : Heap) (t : Nat) (x k : Value) (ok : Bool) : Option Value :=
  match k with
  | .chan (some i) => match T.und t with
    | some (.map kt et) => match T.und kt, T.zero et, entries H x, T.slen i with
      | some .string, some z, some es, some _ => bif closedC z && noKey T i es then some (bif ok then .tuple #[z, .bool false] else z) else none
      | _, _, _, _ => none
    | _ => none
  | k => lookup0 T H t x k ok
def mapUpdate (T : Tab) (H : Heap) (t : Nat) (m k v : Value) : Option Heap :=
  match T.und t, m with
  | some (.map kt _), .map (some r) => match T.und kt, H.blks.get r with
    | some d, some (.map es) => bif isKey d k then
        match upd k v es with
        | some es' => some ⟨H.blks.put r (.map es'), H.next⟩
        | none => none
      else none
    | _, _ => none
  | _, _ => none
def makeSlice (T : Tab) (H : Heap) (t : Nat) (len cap : Value) : Option (Value × Heap) :=
  match T.und t, len, cap with
  | some (.slice elem), .int _ l, .int _ c => match T.info elem with
    | none => none
    | some i => match i.zero with
      | none => none
      | some z =>
        if closedC z = true ∧ z.cells.size = i.size ∧ 1 ≤ i.size ∧ 0 ≤ l ∧ l ≤ c ∧ c ≤ 1073741824 ∧ i.bytes ≤ 65536 then
          some (.slice (some ⟨H.next, 0, some 0⟩) l.toNat unk, H.newCells (reps z.cells.toList l.toNat) i.size elem)
        else none
  | _, _, _ => none
def lenV (T : Tab) (H : Heap) (t : Nat) (x : Value) : Option Value :=
  match T.und t, x with
  | some .string, .string s => some (.int .i64 s.data.toList.length)
  | some .string, .chan (some i) => T.slen i
  | some (.slice _), .slice _ n _ => some (.int .i64 n)
  | some (.array n _), _ => some (.int .i64 n)
  | some (.map _ _), .map none => some (.int .i64 0)
  | some (.map _ _), .map (some m) => match H.blks.get m with
    | some (.map es) => some (.int .i64 es.length)
    | _ => none
  | _, _ => none
def mm (mx : Bool) : Value → List Value → Option Value
  | x, [] => some x
  | .int k a, .int _ b :: l => mm mx (.int k (bif mx then (if b > a then b else a) else (if b < a then b else a))) l
  | _, _ => none
def src (O : Old) (H : Heap) (z : Nat) : Value → Option (Nat × List Value)
  | .slice none 0 0 => some (0, [])
  | .slice (some ⟨b, off, spot⟩) n _ => match rdN O H b spot (n * z) off with
    | some l => some (n, l)
    | none => none
  | .string s => some (s.data.toList.length, s.data.toList.map fun c => .int .u8 c.toNat)
  | _ => none
def zeroOk (i : TypeInfo) : Bool :=
  match i.zero with
  | some z => Nat.beq z.cells.size i.size
  | none => false
def append (T : Tab) (O : Old) (H : Heap) (t : Nat) (s x : Value) : Option (Value × Heap) :=
  match T.und t with
  | some (.slice elem) => match T.info elem with
    | none => none
    | some i =>
      match src O H i.size x with
      | none => none
      | some (n, new) =>
        bif !(new.all isCell) || !(Nat.ble 1 i.size) || Nat.blt 65536 i.bytes || !(zeroOk i) || !(Nat.beq new.length (n * i.size)) then none else
        match s with
        | .slice none 0 0 =>
          bif Nat.beq n 0 then some (.slice none 0 0, H)
          else bif Nat.ble n 1073741824 then some (.slice (some ⟨H.next, 0, some 0⟩) n unk, H.newCells new i.size elem) else none
        | .slice (some ⟨b, off, spot⟩) len cap =>
          bif Nat.beq n 0 then (bif spot.isSome || Nat.ble len cap then some (s, H) else none)
          else bif Nat.blt 1073741824 (len + n) then none
          else bif Nat.beq cap unk then
            match spot, H.blks.get b with
            | some ver, some (.cells cs m v _ esz ty) =>
              bif Nat.beq ver v && Nat.beq esz i.size && Nat.beq ty elem && Nat.beq (off + len * i.size) m then
                some (.slice (some ⟨b, off, some (v + 1)⟩) (len + n) unk, ⟨H.blks.put b (.cells (Tr.fill new m cs) (m + new.length) (v + 1) (some m) esz ty), H.next⟩)
              else bif Nat.beq ver v && Nat.beq esz i.size && Nat.beq ty elem && Nat.ble (off + len * i.size) m then
                some (.slice (some ⟨b, off, some (v + 1)⟩) (len + n) unk, ⟨H.blks.put b (.cells (Tr.fill new (off + len * i.size) (Tr.cutTo cs (off + len * i.size))) (off + len * i.size + new.length) (v + 1) none esz ty), H.next⟩)
              else none
            | _, _ => none
          else bif Nat.ble (len + n) cap then none
          else match rdN O H b spot (len * i.size) off with
            | some old => some (.slice (some ⟨H.next, 0, some 0⟩) (len + n) unk, H.newCells (old ++ new) i.size elem)
            | none => none
        | _ => none
  | _ => none
def copyV (T : Tab) (O : Old) (H : Heap) (t : Nat) (dst s : Value) : Option (Value × Heap) :=
  match T.und t with
  | some (.slice elem) => match T.size elem, dst with
    | some z, .slice none 0 0 => match src O H z s with
      | some (n, l) => bif Nat.beq l.length (n * z) then some (.int .i64 0, H) else none
      | none => none
    | some z, .slice (some ⟨b, off, some ver⟩) len _ => match src O H z s with
      | some (n, l) =>
        match H.blks.get b with
        | some (.cells cs m v _ esz ty) =>
          bif Nat.beq ver v && Nat.beq l.length (n * z) then
            match wrN (l.take (min n len * z)) off cs with
            | some cs' => some (.int .i64 (min n len : Nat), ⟨H.blks.put b (.cells cs' m v none esz ty), H.next⟩)
            | none => none
          else none
        | _ => none
      | none => none
    | _, _ => none
  | _ => none
def clearV (T : Tab) (H : Heap) (t : Nat) (x : Value) : Option Heap :=
  match T.und t with
  | some (.slice elem) => match T.size elem, T.zero elem, x with
    | some _, some _, .slice none 0 0 => some H
    | some z, some zv, .slice (some ⟨b, off, some ver⟩) len _ =>
      match H.blks.get b with
      | some (.cells cs m v _ esz ty) =>
        bif Nat.beq ver v && closedC zv && Nat.beq zv.cells.size z && Nat.ble 1 z then
          match wrN (reps zv.cells.toList len) off cs with
          | some cs' => some ⟨H.blks.put b (.cells cs' m v none esz ty), H.next⟩
          | none => none
        else none
      | _ => none
    | _, _, _ => none
  | _ => none
def toBytes (T : Tab) (H : Heap) (src dst : Nat) (x : Value) : Option (Value × Heap) :=
  match T.und src, T.und dst, x with
  | some _, some (.slice e), .string s => match T.und e with
    | some (.int .u8) => some (.slice (some ⟨H.next, 0, some 0⟩) s.data.toList.length unk, H.newCells (s.data.toList.map fun c => .int .u8 c.toNat) 1 e)
    | _ => none
  | _, _, _ => none
def bytesOf : List Value → Option (List UInt8)
  | [] => some []
  | .int .u8 n :: l => match bytesOf l with
    | some r => some (UInt8.ofNat n.toNat :: r)
    | none => none
  | _ :: _ => none
def convV (T : Tab) (O : Old) (H : Heap) (src dst : Nat) (x : Value) : Option Value :=
  match T.und src, T.und dst, x with
  | some _, some (.int k), .int _ n => some (.int k (k.wrap n))
  | some _, some (.int .i64), .complex .f32 m r => some (.complex .f64 m r)
  | some _, some (.int k), .chan (some i) => T.sconv i k
  | some _, some .string, .string s => some (.string s)
  | some (.slice e), some .string, .slice none 0 0 => match T.und e with
    | some (.int .u8) => some (.string ⟨⟨[]⟩⟩)
    | _ => none
  | some (.slice e), some .string, .slice (some ⟨b, off, spot⟩) n _ => match T.und e with
    | some (.int .u8) => match rdN O H b spot n off with
      | some l => match bytesOf l with
        | some r => some (.string ⟨⟨r⟩⟩)
        | none => none
      | none => none
    | _ => none
  | some (.slice _), some (.slice e), .slice (some ⟨b, off, some ver⟩) n c => match T.und e, H.blks.get b with
    | some (.int .u8), some (.cells _ _ v _ _ _) => bif Nat.beq src dst && Nat.beq ver v then some (.slice (some ⟨b, off, some ver⟩) n c) else none
    | _, _ => none
  | some (.pointer _), some .unsafePointer, .pointer none => some (.pointer none)
  | some (.pointer t), some .unsafePointer, .pointer (some ⟨b, off, some ver⟩) => match T.size t, H.blks.get b with
    | some (_ + 1), some (.cells cs _ v _ _ _) => bif Nat.beq ver v && (cs.get off).isSome then some (.pointer (some ⟨b, off, some ver⟩)) else none
    | _, _ => none
  | some .unsafePointer, some (.pointer _), .pointer none => some (.pointer none)
  | some .unsafePointer, some (.pointer u), .pointer (some ⟨b, 0, some ver⟩) => match T.size u, H.blks.get b with
    | some n, some (.cells _ m v _ _ ty) => bif Nat.beq ver v && Nat.beq ty u && Nat.ble 1 n && Nat.ble n m then some (.pointer (some ⟨b, 0, some ver⟩)) else none
    | _, _ => none
  | _, _, _ => none
def textOf (T : Tab) (O : Old) (H : Heap) (pt : Nat) (p n : Value) : Option (Value × Heap) :=
  match T.und pt, p, n with
  | some (.pointer _), .pointer none, .int _ 0 => some (.string ⟨⟨[]⟩⟩, H)
  | some (.pointer e), .pointer (some ⟨b, 0, some ver⟩), .int .i64 k =>
    match T.und e, T.size e, H.blks.get b with
    | some (.int .u8), some 1, some (.cells _ m v _ _ ty) =>
      if 0 < k ∧ k ≤ m ∧ k ≤ 1073741824 ∧ ver = v ∧ ty = e then
        match rdN O H b (some ver) k.toNat 0 with
        | some l => match bytesOf l with
          | some r => some (.string ⟨⟨r⟩⟩, ⟨H.blks.put b .dead, H.next⟩)
          | none => none
        | none => none
      else none
    | _, _, _ => none
  | _, _, _ => none
inductive Cls where
  | p | l | a | w
  deriving DecidableEq
def isBytes (T : Tab) (t : Nat) : Bool := match T.und t with | some (.slice _) => true | _ => false
def cls (T : Tab) : Op → Cls
  | .move _ | .assign _ | .pick .. | .binOp .. | .unOp .. | .fieldAddr .. | .field .. | .indexAddr .. | .index .. | .extract .. | .nilCheck _ | .makeFunc .. | .makeInterface .. | .build .. => .p
  | .convert src dst _ => if isBytes T dst && !isBytes T src then .a else .l
  | .load .. | .lookup .. | .slice .. => .l
  | .call { callee := .builtin .unsafeSliceData, .. } | .call { callee := .builtin .len, .. } | .call { callee := .builtin .max, .. } | .call { callee := .builtin .min, .. } => .l
  | .alloc _ | .box .. | .buildSlice .. | .makeMap .. | .makeSlice .. => .a
  | _ => .w
def pick (c a b : Option Value) : Option Value :=
  match c with
  | some (.bool true) => a
  | some (.bool false) => b
  | _ => none
def opP (T : Tab) (ρ : Operand → Option Value) : Op → Option Value
  | .move x | .assign x => ρ x
  | .pick c a b => pick (ρ c) (ρ a) (ρ b)
  | .binOp op t x y _ => match ρ x, ρ y with
    | some a, some b => binV T op t (isConstO x || isConstO y) a b
    | _, _ => none
  | .unOp op _ x => match ρ x with
    | some a => unV op a
    | none => none
  | .fieldAddr t x i => match ρ x with
    | some a => fieldAt T t a i
    | none => none
  | .field t x i => match ρ x with
    | some a => fieldV T t a i
    | none => none
  | .indexAddr t x i => match ρ x, ρ i with
    | some a, some b => indexAt T t a b
    | _, _ => none
  | .index t x i => match ρ x, ρ i with
    | some a, some b => indexV T t a b
    | _, _ => none
  | .extract x i => match ρ x with
    | some (.tuple vs) => vs.toList[i]?
    | _ => none
  | .nilCheck x => match ρ x with
    | some (.pointer (some a)) => some (.pointer (some a))
    | some (.func (.func g) a b) => some (.func (.func g) a b)
    | some (.iface t v) => some (.iface t v)
    | _ => none
  | .makeFunc fn first captured => match args ρ first.toList, args ρ captured.toList with
    | some l, some r => some (.func fn l.toArray r.toArray)
    | _, _ => none
  | .makeInterface t x => match T.und t, ρ x with
    | some d, some a => bif isIface d then none else some (.iface t a)
    | _, _ => none
  | .build t ps => match parts ρ ps.toList with
    | some l => build T t l
    | none => none
  | _ => none
def opL (T : Tab) (O : Old) (H : Heap) (ρ : Operand → Option Value) : Op → Option Value
  | .load t a => match ρ a with
    | some v => load T O H t v
    | none => none
  | .slice t x lo hi mx => match ρ x, optV ρ lo, optV ρ hi, optV ρ mx with
    | some a, some l, some h, some m => sliceV T H t a l h m
    | _, _, _, _ => none
  | .lookup t m k ok => match ρ m, ρ k with
    | some a, some b => lookup T H t a b ok
    | _, _ => none
  | .convert src dst x => match ρ x with
    | some a => convV T O H src dst a
    | none => none
  | .call { callee := .builtin .len, args := xa, argTypes := ts } => match xa.toList, ts.toList with
    | [x], t :: _ => match ρ x with
      | some a => lenV T H t a
      | none => none
    | _, _ => none
  | .call { callee := .builtin .unsafeSliceData, args := xa, .. } => match args ρ xa.toList with
    | some [.slice none 0 0] => some (.pointer none)
    | some [.slice (some ⟨b, off, some ver⟩) (n + 1) _] => some (.pointer (some ⟨b, off, some ver⟩))
    | _ => none
  | .call { callee := .builtin .max, args := xa, .. } => match args ρ xa.toList with
    | some (x :: l) => mm true x l
    | _ => none
  | .call { callee := .builtin .min, args := xa, .. } => match args ρ xa.toList with
    | some (x :: l) => mm false x l
    | _ => none
  | _ => none
def opA (T : Tab) (H : Heap) (ρ : Operand → Option Value) : Op → Option (Value × Heap)
  | .alloc t => alloc T H t
  | .box t x => match ρ x with
    | some v => box H t v
    | none => none
  | .buildSlice t n ps => match parts ρ ps.toList with
    | some l => buildSlice T H t n l
    | none => none
  | .makeMap t r => match r with
    | none => some (.map (some H.next), H.new (.map []))
    | some _ => none
  | .makeSlice t l c => match ρ l, ρ c with
    | some a, some b => makeSlice T H t a b
    | _, _ => none
  | .convert src dst x => match ρ x with
    | some a => toBytes T H src dst a
    | none => none
  | _ => none
abbrev Call := Nat → List Value → Heap → Option (Value × Heap)
def skipped : Value := .tuple #[]
def opW (T : Tab) (O : Old) (call : Call) (H : Heap) (ρ : Operand → Option Value) : Op → Option (Value × Heap)
  | .store t a x => match ρ a, ρ x with
    | some p, some v => match store T H t p v with
      | some H' => some (skipped, H')
      | none => none
    | _, _ => none
  | .mapUpdate t m k x | .insert t m k x => match ρ m, ρ k, ρ x with
    | some a, some b, some v => match mapUpdate T H t a b v with
      | some H' => some (skipped, H')
      | none => none
    | _, _, _ => none
  | .call { callee := .builtin .append, args := xa, argTypes := ts } => match xa.toList, ts.toList with
    | [s, x], [t, u] => match T.und u, ρ s, ρ x with
      | some (.int _), _, _ => none
      | some _, some a, some b => append T O H t a b
      | _, _, _ => none
    | _, _ => none
  | .call { callee := .builtin .copy, args := xa, argTypes := ts } => match xa.toList, ts.toList with
    | [d, x], t :: _ => match ρ d, ρ x with
      | some a, some b => copyV T O H t a b
      | _, _ => none
    | _, _ => none
  | .call { callee := .builtin .clear, args := xa, argTypes := ts } => match args ρ xa.toList, ts.toList with
    | some [x], t :: _ => match clearV T H t x with
      | some H' => some (skipped, H')
      | none => none
    | _, _ => none
  | .call { callee := .builtin .unsafeString, args := xa, argTypes := ts } => match args ρ xa.toList, ts.toList with
    | some [p, n], t :: _ => textOf T O H t p n
    | _, _ => none
  | .call { callee := .value f, args := xa, .. } => match ρ f, args ρ xa.toList with
    | some (.func (.func g) first captured), some l => call g (first.toList ++ l ++ captured.toList) H
    | _, _ => none
  | _ => none
def evalOp (T : Tab) (O : Old) (call : Call) (ρ : Operand → Option Value) (o : Oper) (H : Heap) : Option (Value × Heap) :=
  match cls T o.op with
  | .p => match opP T ρ o.op with
    | some v => some (v, H)
    | none => none
  | .l => match opL T O H ρ o.op with
    | some v => some (v, H)
    | none => none
  | .a => opA T H ρ o.op
  | .w => opW T O call H ρ o.op
def putT (N : Nat) (τ : Tr Value) (d : Option Nat) (v : Value) : Option (Tr Value) :=
  match d with
  | some d => bif Nat.blt d N then some (τ.put d v) else none
  | none => some τ
def dstOf (ops : List Oper) (j : Nat) : Option Nat := (ops[j]?).bind (·.dst)
def wanted (ops : List Oper) (τ : Tr Value) (o : Oper) : Option Bool :=
  match o.guard with
  | none => some true
  | some (j, want) => match dstOf ops j with
    | none => some false
    | some d => match τ.get d with
      | some (.bool b) => some (b == want)
      | some _ => some false
      | none => none
def evalOne (T : Tab) (O : Old) (call : Call) (N : Nat) (all : List Oper) (o : Oper) (τ : Tr Value) (H : Heap) : Option (Tr Value × Heap) :=
  match wanted all τ o with
  | none => none
  | some false => match putT N τ o.dst skipped with
    | some τ' => some (τ', H)
    | none => none
  | some true => match evalOp T O call (ev τ) o H with
    | some (v, H') => match putT N τ o.dst v with
      | some τ' => some (τ', H')
      | none => none
    | none => none
def evalOps (T : Tab) (O : Old) (call : Call) (N : Nat) (all : List Oper) : List Oper → Tr Value → Heap → Option (Tr Value × Heap)
  | [], τ, H => some (τ, H)
  | o :: l, τ, H => match evalOne T O call N all o τ H with
    | some (τ', H') => evalOps T O call N all l τ' H'
    | none => none
def maskOf (acc : Tr Nat) : List Edge → Nat → Nat
  | [], s => s
  | e :: l, s => maskOf acc l (bif Region.binds .any e then Nat.lor s (Nat.lor (2 ^ e.on) ((acc.get e.on).getD 0)) else s)
def masks : List Oper → Nat → Tr Nat → Tr Nat
  | [], _, acc => acc
  | o :: l, i, acc => masks l (i + 1) (acc.put i (maskOf acc o.after.toList 0))
def tmpsOf : List Operand → List Nat
  | [] => []
  | .tmp t :: l => t :: tmpsOf l
  | _ :: l => tmpsOf l
def looks (ops : List Oper) (o : Oper) : List Nat :=
  tmpsOf o.op.operands.toList ++ (match o.guard with | some (g, _) => (dstOf ops g).toList | none => [])
def writers : List Oper → Nat → Tr Nat → Option (Tr Nat)
  | [], _, acc => some acc
  | o :: l, i, acc => match o.dst with
    | none => writers l (i + 1) acc
    | some d => match acc.get d with
      | some _ => none
      | none => writers l (i + 1) (acc.put d i)
def lookOk (ms W : Tr Nat) (j : Nat) : List Nat → Bool
  | [] => true
  | t :: l => (match W.get t with
      | none => true
      | some i => Nat.beq i j || Nat.testBit ((ms.get j).getD 0) i || Nat.testBit ((ms.get i).getD 0) j) && lookOk ms W j l
def looksOk (ops : List Oper) (ms W : Tr Nat) : List Oper → Nat → Bool
  | [], _ => true
  | o :: l, j => lookOk ms W j (looks ops o) && looksOk ops ms W l (j + 1)
def isW (T : Tab) (o : Oper) : Bool := match cls T o.op with | .w => true | _ => false
def wsOf (T : Tab) : List Oper → Nat → List Nat
  | [], _ => []
  | o :: l, i => bif isW T o then i :: wsOf T l (i + 1) else wsOf T l (i + 1)
def bitsOf : List Nat → Nat
  | [] => 0
  | i :: l => Nat.lor (2 ^ i) (bitsOf l)
def level (T : Tab) (ms : Tr Nat) (all X : Nat) : List Oper → Nat → List (Nat × Oper)
  | [], _ => []
  | o :: l, i => bif !(isW T o) && Nat.beq (Nat.land ((ms.get i).getD 0) all) X then (i, o) :: level T ms all X l (i + 1) else level T ms all X l (i + 1)
def order (T : Tab) (ops : List Oper) (ms : Tr Nat) (all : Nat) : List Nat → Nat → List (Nat × Oper)
  | [], X => level T ms all X ops 0
  | w :: ws, X => level T ms all X ops 0 ++ (match ops[w]? with | some o => [(w, o)] | none => []) ++ order T ops ms all ws (Nat.lor X (2 ^ w))
structure Pend where
  j : Nat
  τ : Tr Value
  op : Op
  v : Value
def veqC : Value → Value → Bool
  | .bool a, .bool b => a == b
  | .int k a, .int k' b => decide (k = k') && a == b
  | .string a, .string b => a.data.toList == b.data.toList
  | .pointer a, .pointer b => decide (a = b)
  | .slice a l c, .slice b m d => decide (a = b) && Nat.beq l m && Nat.beq c d
  | .map a, .map b => decide (a = b)
  | .chan a, .chan b => decide (a = b)
  | .complex k m r, .complex k' m' r' => decide (k = k') && Nat.beq m m' && Nat.beq r r'
  | .nilFunc, .nilFunc => true
  | .nilIface, .nilIface => true
  | _, _ => false
def veqL : List Value → List Value → Bool
  | [], [] => true
  | x :: l, y :: r => veqC x y && veqL l r
  | _, _ => false
def veq : Value → Value → Bool
  | .agg a, .agg b => veqL a.toList b.toList
  | .tuple a, .tuple b => veqL a.toList b.toList
  | .func f a b, .func g c d => decide (f = g) && veqL a.toList c.toList && veqL b.toList d.toList
  | x, y => veqC x y
def stable (T : Tab) (O : Old) (m : Nat) (H : Heap) : List Pend → Bool
  | [] => true
  | p :: l => (bif Nat.testBit m p.j then true else match opL T O H (ev p.τ) p.op with
      | some v => veq v p.v
      | none => false) && stable T O m H l
def drawRun (T : Tab) (O : Old) (call : Call) (N : Nat) (all : List Oper) (ms : Tr Nat) : List (Nat × Oper) → (E X : Nat) → List Pend → Tr Value → Heap → Option (Nat × Tr Value × Heap)
  | [], E, _, _, τ, H => some (E, τ, H)
  | (j, o) :: l, E, X, pend, τ, H =>
    match ms.get j with
    | none => none
    | some m =>
      bif Nat.testBit E j || !(Nat.beq (Nat.land m E) m) || !(Nat.beq (Nat.land X m) X) then none else
      match wanted all τ o with
      | none => none
      | some false => match putT N τ o.dst skipped with
        | some τ' => drawRun T O call N all ms l (Nat.lor E (2 ^ j)) (bif isW T o then Nat.lor X (2 ^ j) else X) pend τ' H
        | none => none
      | some true => match evalOp T O call (ev τ) o H with
        | none => none
        | some (v, H') => match putT N τ o.dst v with
          | none => none
          | some τ' => match cls T o.op with
            | .w => bif stable T O m H' pend && Nat.ble H.next H'.next then drawRun T O call N all ms l (Nat.lor E (2 ^ j)) (Nat.lor X (2 ^ j)) (pend.filter fun p => !(Nat.testBit m p.j)) τ' H' else none
            | .l => drawRun T O call N all ms l (Nat.lor E (2 ^ j)) X (⟨j, τ, o.op, v⟩ :: pend) τ' H'
            | .a => bif stable T O 0 H' pend then drawRun T O call N all ms l (Nat.lor E (2 ^ j)) X pend τ' H' else none
            | .p => drawRun T O call N all ms l (Nat.lor E (2 ^ j)) X pend τ' H'
def drawRegion (T : Tab) (O : Old) (call : Call) (N : Nat) (ops : List Oper) (τ : Tr Value) (H : Heap) : Option (Tr Value × Heap) :=
  match masks ops 0 .lf, writers ops 0 .lf with
  | ms, some W =>
    bif looksOk ops ms W ops 0 then
      match wsOf T ops 0 with
      | ws => match drawRun T O call N ops ms (order T ops ms (bitsOf ws) ws 0) 0 0 [] τ H with
        | some (E, τ', H') => bif Nat.beq E (2 ^ ops.length - 1) then some (τ', H') else none
        | none => none
    else none
  | _, none => none
inductive Ex where
  | normal
  | exit (id : Nat)
  | ret
def iter : Nat → (Tr Value → Heap → Option (Ex × Tr Value × Heap)) → Tr Value → Heap → Option (Ex × Tr Value × Heap)
  | 0, _, _, _ => none
  | n + 1, f, τ, H => match f τ H with
    | some (.normal, τ', H') => iter n f τ' H'
    | r => r
def evalC (T : Tab) (O : Old) (call : Call) (N lf : Nat) : Code → Tr Value → Heap → Option (Ex × Tr Value × Heap)
  | .skip, τ, H => some (.normal, τ, H)
  | .label _, τ, H => some (.normal, τ, H)
  | .region _ ops draw, τ, H => match (bif draw then drawRegion T O call N ops.toList τ H else evalOps T O call N ops.toList ops.toList τ H) with
    | some (τ', H') => some (.normal, τ', H')
    | none => none
  | .seq a b, τ, H => match evalC T O call N lf a τ H with
    | some (.normal, τ', H') => evalC T O call N lf b τ' H'
    | r => r
  | .cond c x y, τ, H => match ev τ c with
    | some (.bool true) => evalC T O call N lf x τ H
    | some (.bool false) => evalC T O call N lf y τ H
    | _ => none
  | .block id c, τ, H => match evalC T O call N lf c τ H with
    | some (.exit i, τ', H') => bif Nat.beq i id then some (.normal, τ', H') else some (.exit i, τ', H')
    | r => r
  | .loop c, τ, H => iter lf (evalC T O call N lf c) τ H
  | .exit id, τ, H => some (.exit id, τ, H)
  | .ret, τ, H => some (.ret, τ, H)
  | _, _, _ => none
def resV (T : Tab) (O : Old) (τ : Tr Value) (H : Heap) : List ResultVar → Option (List Value)
  | [] => some []
  | .tmp t :: l => match τ.get t, resV T O τ H l with
    | some v, some r => some (v :: r)
    | _, _ => none
  | .cell a t :: l => match τ.get a with
    | some p => match load T O H t p, resV T O τ H l with
      | some v, some r => some (v :: r)
      | _, _ => none
    | none => none
def oneOf : List Value → Value
  | [v] => v
  | l => .tuple l.toArray
def evalCall (T : Tab) (O : Old) (lf : Nat) : Nat → Nat → List Value → Heap → Option (Value × Heap)
  | 0, _, _, _ => none
  | k + 1, f, xa, H =>
    match T.prim f with
    | some p => p O xa H
    | none => match T.fn f with
      | none => none
      | some fn => match fn.body with
        | none => none
        | some c => bif Nat.ble xa.length fn.ntmps then
            match evalC T O (evalCall T O lf k) fn.ntmps lf c (Tr.fill xa 0 .lf) H with
            | some (.normal, τ, H') => match resV T O τ H' fn.results.toList with
              | some l => some (oneOf l, H')
              | none => none
            | some (.ret, τ, H') => match resV T O τ H' fn.results.toList with
              | some l => some (oneOf l, H')
              | none => none
            | _ => none
          else none
end
end Go.Ev
namespace Go.Ev
inductive All2 {α β : Type} (R : α → β → Prop) : List α → List β → Prop
  | nil : All2 R [] []
  | cons {x y l r} (h : R x y) (t : All2 R l r) : All2 R (x :: l) (y :: r)
namespace All2
variable {α β : Type} {R S : α → β → Prop}
theorem mono (h : ∀ x y, R x y → S x y) {l : List α} {r : List β} (a : All2 R l r) : All2 S l r := by
  induction a with
  | nil => exact .nil
  | cons h' _ ih => exact .cons (h _ _ h') ih
theorem length {l : List α} {r : List β} (a : All2 R l r) : l.length = r.length := by
  induction a with
  | nil => rfl
  | cons _ _ ih => simp [ih]
theorem get {l : List α} {r : List β} (a : All2 R l r) : ∀ {i : Nat} {x : α}, l[i]? = some x → ∃ y, r[i]? = some y ∧ R x y := by
  induction a with
  | nil => intro i x h; simp at h
  | cons h' _ ih =>
    intro i x h
    cases i with
    | zero => simp at h; subst h; exact ⟨_, by simp, h'⟩
    | succ i => simp at h; obtain ⟨y, hy, hr⟩ := ih h; exact ⟨y, by simpa using hy, hr⟩
theorem append {l l' : List α} {r r' : List β} (a : All2 R l r) (b : All2 R l' r') : All2 R (l ++ l') (r ++ r') := by
  induction a with
  | nil => exact b
  | cons h _ ih => exact .cons h ih
theorem take {l : List α} {r : List β} (a : All2 R l r) : ∀ n, All2 R (l.take n) (r.take n) := by
  induction a with
  | nil => intro n; simp; exact .nil
  | cons h _ ih =>
    intro n
    cases n with
    | zero => simp; exact .nil
    | succ n => simp; exact .cons h (ih n)
theorem drop {l : List α} {r : List β} (a : All2 R l r) : ∀ n, All2 R (l.drop n) (r.drop n) := by
  induction a with
  | nil => intro n; simp; exact .nil
  | cons h t ih =>
    intro n
    cases n with
    | zero => simp; exact .cons h t
    | succ n => simp; exact ih n
theorem refl {R : α → α → Prop} : ∀ (l : List α), (∀ x ∈ l, R x x) → All2 R l l
  | [], _ => .nil
  | x :: l, h => .cons (h x (by simp)) (refl l fun y hy => h y (by simp [hy]))
end All2
structure Loc where
  r : Nat
  d : Nat
  s : Nat
structure Ren where
  loc : Nat → Nat → Option Loc
  esz : Nat → Nat
  sym : Nat → Option Value
def Ren.le (ρ ρ' : Ren) : Prop := (∀ b v l, ρ.loc b v = some l → ρ'.loc b v = some l ∧ ρ'.esz b = ρ.esz b) ∧ ρ'.sym = ρ.sym
theorem Ren.le_refl (ρ : Ren) : ρ.le ρ := ⟨fun _ _ _ h => ⟨h, rfl⟩, rfl⟩
theorem Ren.le_trans {a b c : Ren} (h : a.le b) (h' : b.le c) : a.le c := ⟨fun x v l hl =>
  let ⟨h1, e1⟩ := h.1 x v l hl
  let ⟨h2, e2⟩ := h'.1 x v l h1
  ⟨h2, e2.trans e1⟩, h'.2.trans h.2⟩
def symOk : Value → Bool
  | .int _ _ | .string _ => true
  | _ => false
inductive FR (ρ : Ren) : Value → Value → Prop
  | same {v : Value} (h : flat v = true) : FR ρ v v
  | ptr {b off ver : Nat} {l : Loc} (h : ρ.loc b ver = some l) (hd : l.d ≤ off) :
      FR ρ (.pointer (some ⟨b, off, some ver⟩)) (.pointer (some ⟨l.r, off - l.d, none⟩))
  | slice {b off ver len cap cap' o' : Nat} {l : Loc} (h : ρ.loc b ver = some l) (hd : l.d ≤ off) (ho : o' = off - l.d ∨ (len = 0 ∧ cap' = 0))
      (hs : off - l.d + cap' * ρ.esz b ≤ l.s) (hl : len ≤ cap') (hc : cap = unk ∨ cap = cap') :
      FR ρ (.slice (some ⟨b, off, some ver⟩) len cap) (.slice (some ⟨l.r, o', none⟩) len cap')
  | res {fk : FloatKind} {m r n : Nat} (h1 : n ≤ 255) (h2 : n % m = r) : FR ρ (.complex fk m r) (.int (resK fk) n)
  | sym {i : Nat} {v : Value} (h : ρ.sym i = some v) (hv : symOk v = true) : FR ρ (.chan (some i)) v
  | map {m : Nat} {l : Loc} (h : ρ.loc m 0 = some l) : FR ρ (.map (some m)) (.map (some l.r))
theorem FR.mono {ρ ρ' : Ren} (hr : ρ.le ρ') {v v' : Value} (h : FR ρ v v') : FR ρ' v v' := by
  cases h with
  | same h => exact .same h
  | ptr h hd => exact .ptr (hr.1 _ _ _ h).1 hd
  | slice h hd ho hs hl hc => exact .slice (hr.1 _ _ _ h).1 hd ho (by rw [(hr.1 _ _ _ h).2]; exact hs) hl hc
  | res h1 h2 => exact .res h1 h2
  | sym h hv => exact .sym (by rw [hr.2]; exact h) hv
  | map h => exact .map (hr.1 _ _ _ h).1
def VN (ρ : Ren) : Nat → Value → Value → Prop
  | 0, v, v' => FR ρ v v'
  | n + 1, v, v' => FR ρ v v' ∨
      (∃ a b : Array Value, v = .agg a ∧ v' = .agg b ∧ All2 (VN ρ n) a.toList b.toList) ∨
      (∃ a b : Array Value, v = .tuple a ∧ v' = .tuple b ∧ All2 (VN ρ n) a.toList b.toList) ∨
      (∃ (f : Fn) (x y x' y' : Array Value), v = .func f x y ∧ v' = .func f x' y' ∧ All2 (VN ρ n) x.toList x'.toList ∧ All2 (VN ρ n) y.toList y'.toList) ∨
      (∃ (t : TypeId) (x x' : Value), v = .iface t x ∧ v' = .iface t x' ∧ VN ρ n x x')
theorem VN.mono {ρ ρ' : Ren} (hr : ρ.le ρ') : ∀ {n : Nat} {v v' : Value}, VN ρ n v v' → VN ρ' n v v'
  | 0, _, _, h => FR.mono hr h
  | n + 1, _, _, h => by
    rcases h with h | ⟨a, b, e1, e2, h⟩ | ⟨a, b, e1, e2, h⟩ | ⟨f, x, y, x', y', e1, e2, h1, h2⟩ | ⟨t, x, x', e1, e2, h⟩
    · exact .inl (FR.mono hr h)
    · exact .inr (.inl ⟨a, b, e1, e2, h.mono fun _ _ => VN.mono hr⟩)
    · exact .inr (.inr (.inl ⟨a, b, e1, e2, h.mono fun _ _ => VN.mono hr⟩))
    · exact .inr (.inr (.inr (.inl ⟨f, x, y, x', y', e1, e2, h1.mono fun _ _ => VN.mono hr, h2.mono fun _ _ => VN.mono hr⟩)))
    · exact .inr (.inr (.inr (.inr ⟨t, x, x', e1, e2, VN.mono hr h⟩)))
theorem VN.up {ρ : Ren} : ∀ {n : Nat} {v v' : Value}, VN ρ n v v' → VN ρ (n + 1) v v'
  | 0, _, _, h => .inl h
  | n + 1, _, _, h => by
    rcases h with h | ⟨a, b, e1, e2, h⟩ | ⟨a, b, e1, e2, h⟩ | ⟨f, x, y, x', y', e1, e2, h1, h2⟩ | ⟨t, x, x', e1, e2, h⟩
    · exact .inl h
    · exact .inr (.inl ⟨a, b, e1, e2, h.mono fun _ _ => VN.up⟩)
    · exact .inr (.inr (.inl ⟨a, b, e1, e2, h.mono fun _ _ => VN.up⟩))
    · exact .inr (.inr (.inr (.inl ⟨f, x, y, x', y', e1, e2, h1.mono fun _ _ => VN.up, h2.mono fun _ _ => VN.up⟩)))
    · exact .inr (.inr (.inr (.inr ⟨t, x, x', e1, e2, VN.up h⟩)))
theorem VN.add {ρ : Ren} {n : Nat} {v v' : Value} (h : VN ρ n v v') : ∀ k, VN ρ (n + k) v v'
  | 0 => h
  | k + 1 => (VN.add h k).up
def V (ρ : Ren) (v v' : Value) : Prop := ∃ n, VN ρ n v v'
theorem V.mono {ρ ρ' : Ren} (hr : ρ.le ρ') {v v' : Value} : V ρ v v' → V ρ' v v' := fun ⟨n, h⟩ => ⟨n, h.mono hr⟩
theorem all2_V {ρ : Ren} {l r : List Value} (h : All2 (V ρ) l r) : ∃ n, All2 (VN ρ n) l r := by
  induction h with
  | nil => exact ⟨0, .nil⟩
  | cons h _ ih =>
    obtain ⟨n, hn⟩ := h
    obtain ⟨m, hm⟩ := ih
    refine ⟨n + m, .cons (hn.add m) (hm.mono fun _ _ h => ?_)⟩
    have := h.add n
    rwa [Nat.add_comm] at this
theorem V.fr {ρ : Ren} {v v' : Value} (h : FR ρ v v') : V ρ v v' := ⟨0, h⟩
theorem V.flat {ρ : Ren} {v : Value} (h : flat v = true) : V ρ v v := .fr (.same h)
theorem V.agg {ρ : Ren} {a b : Array Value} (h : All2 (V ρ) a.toList b.toList) : V ρ (.agg a) (.agg b) :=
  let ⟨n, hn⟩ := all2_V h
  ⟨n + 1, .inr (.inl ⟨a, b, rfl, rfl, hn⟩)⟩
theorem V.tuple {ρ : Ren} {a b : Array Value} (h : All2 (V ρ) a.toList b.toList) : V ρ (.tuple a) (.tuple b) :=
  let ⟨n, hn⟩ := all2_V h
  ⟨n + 1, .inr (.inr (.inl ⟨a, b, rfl, rfl, hn⟩))⟩
theorem V.iface {ρ : Ren} {t : TypeId} {x y : Value} (h : V ρ x y) : V ρ (.iface t x) (.iface t y) :=
  let ⟨n, hn⟩ := h
  ⟨n + 1, .inr (.inr (.inr (.inr ⟨t, x, y, rfl, rfl, hn⟩)))⟩
theorem V.func {ρ : Ren} {f : Fn} {x y x' y' : Array Value} (h : All2 (V ρ) x.toList x'.toList) (h' : All2 (V ρ) y.toList y'.toList) : V ρ (.func f x y) (.func f x' y') := by
  obtain ⟨n, hn⟩ := all2_V h
  obtain ⟨m, hm⟩ := all2_V h'
  refine ⟨n + m + 1, .inr (.inr (.inr (.inl ⟨f, x, y, x', y', rfl, rfl, hn.mono fun _ _ h => h.add m, hm.mono fun _ _ h => ?_⟩)))⟩
  have := h.add n
  rwa [Nat.add_comm] at this
theorem V.inv {ρ : Ren} {v v' : Value} (h : V ρ v v') : FR ρ v v' ∨
    (∃ a b : Array Value, v = .agg a ∧ v' = .agg b ∧ All2 (V ρ) a.toList b.toList) ∨
    (∃ a b : Array Value, v = .tuple a ∧ v' = .tuple b ∧ All2 (V ρ) a.toList b.toList) ∨
    (∃ (f : Fn) (x y x' y' : Array Value), v = .func f x y ∧ v' = .func f x' y' ∧ All2 (V ρ) x.toList x'.toList ∧ All2 (V ρ) y.toList y'.toList) ∨
    (∃ (t : TypeId) (x x' : Value), v = .iface t x ∧ v' = .iface t x' ∧ V ρ x x') := by
  obtain ⟨n, h⟩ := h
  cases n with
  | zero => exact .inl h
  | succ n =>
    rcases h with h | ⟨a, b, e1, e2, h⟩ | ⟨a, b, e1, e2, h⟩ | ⟨f, x, y, x', y', e1, e2, h1, h2⟩ | ⟨t, x, x', e1, e2, h⟩
    · exact .inl h
    · exact .inr (.inl ⟨a, b, e1, e2, h.mono fun _ _ h => ⟨n, h⟩⟩)
    · exact .inr (.inr (.inl ⟨a, b, e1, e2, h.mono fun _ _ h => ⟨n, h⟩⟩))
    · exact .inr (.inr (.inr (.inl ⟨f, x, y, x', y', e1, e2, h1.mono fun _ _ h => ⟨n, h⟩, h2.mono fun _ _ h => ⟨n, h⟩⟩)))
    · exact .inr (.inr (.inr (.inr ⟨t, x, x', e1, e2, n, h⟩)))
section inv
variable {ρ : Ren} {v' : Value}
theorem V.int_inv {k : IntKind} {n : Int} (h : V ρ (.int k n) v') : v' = .int k n := by
  rcases h.inv with h | ⟨_, _, e, _⟩ | ⟨_, _, e, _⟩ | ⟨_, _, _, _, _, e, _⟩ | ⟨_, _, _, e, _⟩ <;> first | (cases e; done) | (cases h; rfl)
theorem V.bool_inv {b : Bool} (h : V ρ (.bool b) v') : v' = .bool b := by
  rcases h.inv with h | ⟨_, _, e, _⟩ | ⟨_, _, e, _⟩ | ⟨_, _, _, _, _, e, _⟩ | ⟨_, _, _, e, _⟩ <;> first | (cases e; done) | (cases h; rfl)
theorem V.string_inv {s : ByteArray} (h : V ρ (.string s) v') : v' = .string s := by
  rcases h.inv with h | ⟨_, _, e, _⟩ | ⟨_, _, e, _⟩ | ⟨_, _, _, _, _, e, _⟩ | ⟨_, _, _, e, _⟩ <;> first | (cases e; done) | (cases h; rfl)
theorem V.nilFunc_inv (h : V ρ .nilFunc v') : v' = .nilFunc := by
  rcases h.inv with h | ⟨_, _, e, _⟩ | ⟨_, _, e, _⟩ | ⟨_, _, _, _, _, e, _⟩ | ⟨_, _, _, e, _⟩ <;> first | (cases e; done) | (cases h; rfl)
theorem V.nilIface_inv (h : V ρ .nilIface v') : v' = .nilIface := by
  rcases h.inv with h | ⟨_, _, e, _⟩ | ⟨_, _, e, _⟩ | ⟨_, _, _, _, _, e, _⟩ | ⟨_, _, _, e, _⟩ <;> first | (cases e; done) | (cases h; rfl)
theorem V.agg_inv {a : Array Value} (h : V ρ (.agg a) v') : ∃ b : Array Value, v' = .agg b ∧ All2 (V ρ) a.toList b.toList := by
  rcases h.inv with h | ⟨_, _, e, e2, h⟩ | ⟨_, _, e, _⟩ | ⟨_, _, _, _, _, e, _⟩ | ⟨_, _, _, e, _⟩
  · cases h with | same hh => simp [Ev.flat] at hh
  · cases e; exact ⟨_, e2, h⟩
  all_goals cases e
theorem V.tuple_inv {a : Array Value} (h : V ρ (.tuple a) v') : ∃ b : Array Value, v' = .tuple b ∧ All2 (V ρ) a.toList b.toList := by
  rcases h.inv with h | ⟨_, _, e, _⟩ | ⟨_, _, e, e2, h⟩ | ⟨_, _, _, _, _, e, _⟩ | ⟨_, _, _, e, _⟩
  · cases h with | same hh => simp [Ev.flat] at hh
  · cases e
  · cases e; exact ⟨_, e2, h⟩
  all_goals cases e
theorem V.func_inv {f : Fn} {x y : Array Value} (h : V ρ (.func f x y) v') : ∃ x' y' : Array Value, v' = .func f x' y' ∧ All2 (V ρ) x.toList x'.toList ∧ All2 (V ρ) y.toList y'.toList := by
  rcases h.inv with h | ⟨_, _, e, _⟩ | ⟨_, _, e, _⟩ | ⟨_, _, _, _, _, e, e2, h1, h2⟩ | ⟨_, _, _, e, _⟩
  · cases h with | same hh => simp [Ev.flat] at hh
  · cases e
  · cases e
  · cases e; exact ⟨_, _, e2, h1, h2⟩
  · cases e
theorem V.iface_inv {t : TypeId} {x : Value} (h : V ρ (.iface t x) v') : ∃ x', v' = .iface t x' ∧ V ρ x x' := by
  rcases h.inv with h | ⟨_, _, e, _⟩ | ⟨_, _, e, _⟩ | ⟨_, _, _, _, _, e, _⟩ | ⟨_, _, _, e, e2, h⟩
  · cases h with | same hh => simp [Ev.flat] at hh
  · cases e
  · cases e
  · cases e
  · cases e; exact ⟨_, e2, h⟩
theorem V.ptr_inv {a : Option Addr} (h : V ρ (.pointer a) v') : FR ρ (.pointer a) v' := by
  rcases h.inv with h | ⟨_, _, e, _⟩ | ⟨_, _, e, _⟩ | ⟨_, _, _, _, _, e, _⟩ | ⟨_, _, _, e, _⟩ <;> first | exact h | (cases e; done)
theorem V.slice_inv {a : Option Addr} {l c : Nat} (h : V ρ (.slice a l c) v') : FR ρ (.slice a l c) v' := by
  rcases h.inv with h | ⟨_, _, e, _⟩ | ⟨_, _, e, _⟩ | ⟨_, _, _, _, _, e, _⟩ | ⟨_, _, _, e, _⟩ <;> first | exact h | (cases e; done)
theorem V.map_inv {m : Option Nat} (h : V ρ (.map m) v') : FR ρ (.map m) v' := by
  rcases h.inv with h | ⟨_, _, e, _⟩ | ⟨_, _, e, _⟩ | ⟨_, _, _, _, _, e, _⟩ | ⟨_, _, _, e, _⟩ <;> first | exact h | (cases e; done)
theorem V.nilPtr_inv (h : V ρ (.pointer none) v') : v' = .pointer none := by
  have := h.ptr_inv; cases this; rfl
theorem V.newPtr_inv {b off ver : Nat} (h : V ρ (.pointer (some ⟨b, off, some ver⟩)) v') : ∃ l, ρ.loc b ver = some l ∧ l.d ≤ off ∧ v' = .pointer (some ⟨l.r, off - l.d, none⟩) := by
  have := h.ptr_inv
  cases this with
  | same hh => simp [Ev.flat] at hh
  | ptr hh hd => exact ⟨_, hh, hd, rfl⟩
theorem V.oldPtr_inv {b off : Nat} (h : V ρ (.pointer (some ⟨b, off, none⟩)) v') : v' = .pointer (some ⟨b, off, none⟩) := by
  have := h.ptr_inv
  cases this; rfl
theorem V.nilSlice_inv {l c : Nat} (h : V ρ (.slice none l c) v') : v' = .slice none l c := by
  have := h.slice_inv; cases this; rfl
theorem V.oldSlice_inv {b off l c : Nat} (h : V ρ (.slice (some ⟨b, off, none⟩) l c) v') : v' = .slice (some ⟨b, off, none⟩) l c := by
  have := h.slice_inv
  cases this; rfl
theorem V.newSlice_inv {b off ver len cap : Nat} (h : V ρ (.slice (some ⟨b, off, some ver⟩) len cap) v') :
    ∃ l o' cap', ρ.loc b ver = some l ∧ l.d ≤ off ∧ (o' = off - l.d ∨ (len = 0 ∧ cap' = 0)) ∧ off - l.d + cap' * ρ.esz b ≤ l.s ∧ len ≤ cap' ∧ (cap = unk ∨ cap = cap') ∧ v' = .slice (some ⟨l.r, o', none⟩) len cap' := by
  have := h.slice_inv
  cases this with
  | same hh => simp [Ev.flat] at hh
  | slice hh hd ho hs hl hc => exact ⟨_, _, _, hh, hd, ho, hs, hl, hc, rfl⟩
theorem V.nilMap_inv (h : V ρ (.map none) v') : v' = .map none := by
  have := h.map_inv; cases this; rfl
theorem V.newMap_inv {m : Nat} (h : V ρ (.map (some m)) v') : ∃ l, ρ.loc m 0 = some l ∧ v' = .map (some l.r) := by
  have := h.map_inv
  cases this with
  | same hh => simp [Ev.flat] at hh
  | map hh => exact ⟨_, hh, rfl⟩
end inv
theorem V.isCell {ρ : Ren} {v v' : Value} (h : V ρ v v') : isCell v' = isCell v := by
  rcases h.inv with h | ⟨_, _, rfl, rfl, _⟩ | ⟨_, _, rfl, rfl, _⟩ | ⟨_, _, _, _, _, rfl, rfl, _⟩ | ⟨_, _, _, rfl, rfl, _⟩
  · cases h with
    | sym _ hv => cases v' <;> first | rfl | (simp [symOk] at hv)
    | _ => rfl
  all_goals rfl
theorem cells_of_isCell {v : Value} (h : isCell v = true) : v.cells = #[v] := by
  cases v <;> first | rfl | (simp [Ev.isCell] at h)
theorem V.closed {ρ : Ren} {v : Value} (h : closedC v = true) : V ρ v v := by
  cases v
  case agg cs => exact .agg (All2.refl _ fun x hx => .flat (by simp only [closedC, List.all_eq_true] at h; exact h x hx))
  case tuple cs => exact .tuple (All2.refl _ fun x hx => .flat (by simp only [closedC, List.all_eq_true] at h; exact h x hx))
  all_goals exact .flat h
theorem V.cells {ρ : Ren} {v v' : Value} (h : V ρ v v') : All2 (V ρ) v.cells.toList v'.cells.toList := by
  by_cases hc : Ev.isCell v = true
  · rw [cells_of_isCell hc, cells_of_isCell (h.isCell.trans hc)]
    exact .cons h .nil
  · cases v with
    | agg a => obtain ⟨b, rfl, hb⟩ := h.agg_inv; exact hb
    | tuple a =>
      obtain ⟨b, rfl, hb⟩ := h.tuple_inv
      exact .cons h .nil
    | _ => simp [Ev.isCell] at hc
def CR (ρ : Ren) (cs : Tr Value) (n ty : Nat) (l : Loc) (w : World) : Prop :=
  ∃ (c : Array Value) (fz : Nat × Nat), w.heap[l.r]? = some (.cells c ty fz) ∧ c.size = l.s ∧ (fz.1 ≤ fz.2 ∧ ∀ i, i < c.size → ¬ (fz.1 ≤ i ∧ i < fz.2)) ∧ n ≤ l.d + l.s ∧
    ∀ i x, l.d ≤ i → i < n → cs.get i = some x → ∃ y, c[i - l.d]? = some y ∧ V ρ x y
def BR (ρ : Ren) (b : Nat) (k : Blk) (w : World) : Prop :=
  match k with
  | .cells cs n ver prev esz ty => ρ.esz b = esz ∧ (∀ i x, cs.get i = some x → i < n) ∧ (∀ v, ver < v → ρ.loc b v = none) ∧
      (∀ l, ρ.loc b ver = some l → CR ρ cs n ty l w) ∧
      (∀ pn, prev = some pn → ∀ v l, v + 1 = ver → ρ.loc b v = some l → pn ≤ n ∧ CR ρ cs pn ty l w)
  | .map es => ∀ l, ρ.loc b 0 = some l → ∃ (en : Array MapEntry) (clock : Nat), w.heap[l.r]? = some (.map en clock) ∧ All2 (fun (x : Value × Value) (e : MapEntry) => e.key = x.1 ∧ V ρ x.2 e.val) es en.toList
  | .dead => True
structure HR (w0 : World) (ρ : Ren) (H : Heap) (w : World) : Prop where
  old : ∀ r, r < w0.heap.size → w.heap[r]? = w0.heap[r]?
  big : w0.heap.size ≤ w.heap.size
  io : w.os = w0.os ∧ w.output = w0.output
  dom : ∀ b v l, ρ.loc b v = some l → b < H.next ∧ w0.heap.size ≤ l.r ∧ l.r < w.heap.size
  inj : ∀ b v l b' v' l', ρ.loc b v = some l → ρ.loc b' v' = some l' → l.r = l'.r → b = b'
  blk : ∀ b v l, ρ.loc b v = some l → ∃ k, H.blks.get b = some k ∧ BR ρ b k w
def TR (ρ : Ren) (τ : Tr Value) (ts : Array Value) : Prop := ∀ t v, τ.get t = some v → ∃ v', ts[t]? = some v' ∧ V ρ v v'
theorem TR.mono {ρ ρ' : Ren} (hr : ρ.le ρ') {τ : Tr Value} {ts : Array Value} (h : TR ρ τ ts) : TR ρ' τ ts := fun t v ht =>
  let ⟨v', h1, h2⟩ := h t v ht
  ⟨v', h1, h2.mono hr⟩
theorem TR.ev {ρ : Ren} {τ : Tr Value} {a : Act} (h : TR ρ τ a.tmps) {x : Operand} {v : Value} (hx : ev τ x = some v) : V ρ v (a.eval x) := by
  cases x with
  | tmp t =>
    simp only [Ev.ev] at hx
    obtain ⟨v', h1, h2⟩ := h t v hx
    simp only [Act.eval]
    rw [Array.getD_eq_getD_getElem?, h1]
    exact h2
  | const c =>
    simp only [Ev.ev] at hx
    cases hc : closedC c with
    | false => simp [hc] at hx
    | true => simp [hc] at hx; subst hx; exact .closed hc
  | global g => simp [Ev.ev] at hx
  | func f => simp [Ev.ev] at hx; subst hx; exact .func .nil .nil
def SV (S : Nat → Option Value) (v v' : Value) : Prop :=
  (∃ i, v = .chan (some i) ∧ S i = some v' ∧ symOk v' = true) ∨ ((∃ b, v = .bool b) ∨ symOk v = true) ∧ v' = v
structure Tab.Ok (T : Tab) (P : Program) : Prop where
  fn : ∀ f x, T.fn f = some x → P.funcs[f]? = some x
  info : ∀ t i, T.info t = some i → P.info? t = some i
  eqs : ∀ t, T.eqs t = true → P.stoodInHeld t = false ∧ P.eqGuardType P.depth t = false
  bin : ∀ op x y v, T.bin op x y = some v → ∀ x' y', SV T.sym x x' → SV T.sym y y' → ∃ v', SV T.sym v v' ∧
    ((∃ k a b, x' = .int k a ∧ y' = .int k b ∧ intOp op k a b = some v') ∨ (∃ a b, x' = .string a ∧ y' = .string b ∧ strOp op a b = some v'))
  slen : ∀ i v, T.slen i = some v → ∃ s : ByteArray, T.sym i = some (.string s) ∧ SV T.sym v (.int .i64 s.data.toList.length)
  sconv : ∀ i k v, T.sconv i k = some v → ∃ k0 n, T.sym i = some (.int k0 n) ∧ SV T.sym v (.int k (k.wrap n))
theorem SV.toV {ρ : Ren} {S : Nat → Option Value} (hS : ρ.sym = S) {v v' : Value} (h : SV S v v') : V ρ v v' := by
  rcases h with ⟨i, rfl, h1, h2⟩ | ⟨h, rfl⟩
  · exact .fr (.sym (by rw [hS]; exact h1) h2)
  · refine .flat ?_
    rcases h with ⟨b, rfl⟩ | h
    · rfl
    · cases v' <;> first | rfl | (simp [symOk] at h)
theorem V.toSV {ρ : Ren} {S : Nat → Option Value} (hS : ρ.sym = S) {v v' : Value} (hs : symV v = true) (h : V ρ v v') : SV S v v' := by
  rcases h.inv with h | ⟨_, _, rfl, rfl, _⟩ | ⟨_, _, rfl, rfl, _⟩ | ⟨_, _, _, _, _, rfl, rfl, _⟩ | ⟨_, _, _, rfl, rfl, _⟩
  · cases h with
    | same hf => cases v with
      | int k n => exact .inr ⟨.inr rfl, rfl⟩
      | string s => exact .inr ⟨.inr rfl, rfl⟩
      | chan r => cases r with
        | none => simp [symV] at hs
        | some i => simp [Ev.flat] at hf
      | _ => simp [symV] at hs
    | sym h1 h2 => exact .inl ⟨_, rfl, by rw [← hS]; exact h1, h2⟩
    | _ => simp [symV] at hs
  all_goals simp [symV] at hs
theorem V.sym_inv {ρ : Ren} {S : Nat → Option Value} (hS : ρ.sym = S) {i : Nat} {v' : Value} (h : V ρ (.chan (some i)) v') : S i = some v' ∧ symOk v' = true := by
  rcases V.toSV hS rfl h with ⟨j, e, h1, h2⟩ | ⟨h3, _⟩
  · cases e; exact ⟨h1, h2⟩
  · exfalso
    rcases h3 with ⟨b, e⟩ | h4
    · cases e
    · simp [symOk] at h4
section tab
variable {T : Tab} {P : Program} (ok : T.Ok P)
include ok
theorem Tab.Ok.und {t : Nat} {d : TypeDesc} (h : T.und t = some d) : P.underlying t = some d := by
  unfold Tab.und at h
  unfold Program.underlying
  cases hi : T.info t with
  | none => simp [hi] at h
  | some i =>
    rw [ok.info _ _ hi]
    rw [hi] at h
    cases i with
    | mk desc str size bytes hp al fa zero comparable methods =>
      cases desc with
      | named nm u =>
        simp only at h ⊢
        cases hu : T.info u with
        | none => simp [hu] at h
        | some j => rw [ok.info _ _ hu]; rw [hu] at h; exact h
      | _ => exact h
theorem Tab.Ok.size {t n : Nat} (h : T.size t = some n) : ∃ i, P.info? t = some i ∧ i.size = n := by
  unfold Tab.size at h
  cases hi : T.info t with
  | none => simp [hi] at h
  | some i => exact ⟨i, ok.info _ _ hi, by simpa [hi] using h⟩
theorem Tab.Ok.zero {t : Nat} {z : Value} (h : T.zero t = some z) : ∃ i, P.info? t = some i ∧ i.zero = some z := by
  unfold Tab.zero at h
  cases hi : T.info t with
  | none => simp [hi] at h
  | some i => exact ⟨i, ok.info _ _ hi, by simpa [hi] using h⟩
end tab
end Go.Ev
namespace Go.Ev
section run
variable {T : Tab} {P : Program} (ok : T.Ok P)
include ok
theorem Tab.Ok.runUnd {t : Nat} {d : TypeDesc} (h : T.und t = some d) (w : World) : (underlying t).run P w = .ok d w := by
  simp [underlying, ok.und h]
theorem Tab.Ok.runInfo {t : Nat} {i : TypeInfo} (h : T.info t = some i) (w : World) : (typeInfo t).run P w = .ok i w := by
  simp [typeInfo, ok.info _ _ h]
theorem Tab.Ok.runSize {t n : Nat} (h : T.size t = some n) (w : World) : (sizeOf t).run P w = .ok n w := by
  obtain ⟨i, hi, rfl⟩ := ok.size h
  simp [sizeOf, typeInfo, hi]
theorem Tab.Ok.runZero {t : Nat} {z : Value} (h : T.zero t = some z) (w : World) : (zeroValue t).run P w = .ok z w := by
  obtain ⟨i, hi, hz⟩ := ok.zero h
  simp [zeroValue, typeInfo, hi, hz]
theorem Tab.Ok.runAgg {t : Nat} {d : TypeDesc} (h : T.und t = some d) (w : World) : (isAgg t).run P w = .ok (isAggD d) w := by
  simp only [isAgg, Sem.run_bind, ok.runUnd h, Result.andThen_ok]
  cases d <;> rfl
end run
theorem run_eqGuard_int (P : Program) (op : BinOp) (t : TypeId) (x y : Operand) (k k' : IntKind) (a b : Int) (w : World) : (eqGuard op t x y (.int k a) (.int k' b)).run P w = .ok () w := by
  cases op <;> simp [eqGuard]
theorem run_eqGuard_string (P : Program) (op : BinOp) (t : TypeId) (x y : Operand) (a b : ByteArray) (w : World) : (eqGuard op t x y (.string a) (.string b)).run P w = .ok () w := by
  cases op <;> simp [eqGuard]
theorem run_int {P : Program} {op : BinOp} {t : TypeId} {k k' : IntKind} {a b : Int} {v : Value} (hk : isShift op = true ∨ k = k') (h : intOp op k a b = some v) (w : World) :
    (binOp op t (.int k a) (.int k' b)).run P w = .ok v w := by
  cases op
  case shl =>
    simp only [intOp] at h
    split at h
    · cases h
    · rename_i hb
      cases h
      simp [binOp, Op.shift, hb]
  case shr =>
    simp only [intOp] at h
    split at h
    · cases h
    · rename_i hb
      cases h
      simp [binOp, Op.shift, hb]
  case quo =>
    obtain rfl : k = k' := by simpa [isShift] using hk
    simp only [intOp] at h
    split at h
    · cases h
    · rename_i hb
      cases h
      simp [binOp, Op.intDiv, hb]
  case rem =>
    obtain rfl : k = k' := by simpa [isShift] using hk
    simp only [intOp] at h
    split at h
    · cases h
    · rename_i hb
      cases h
      simp [binOp, Op.intDiv, hb]
  all_goals
    obtain rfl : k = k' := by simpa [isShift] using hk
    simp only [intOp] at h
    cases h
    simp [binOp, Op.intArith, Op.intBits, Op.intCmp]
theorem toList_eq (s : ByteArray) : s.toList = s.data.toList := ByteArray.toList_eq s
theorem run_str {P : Program} {op : BinOp} {t : TypeId} {a b : ByteArray} {v : Value} (h : strOp op a b = some v) (w : World) :
    (binOp op t (.string a) (.string b)).run P w = .ok v w := by
  cases op
  case add =>
    simp only [strOp] at h
    cases hb : Nat.ble (a.size + b.size) 9223372036854775807 with
    | false => simp [hb] at h
    | true =>
      simp [hb] at h
      subst h
      have := Nat.le_of_ble_eq_true hb
      have h2 : ¬ (((a.size + b.size : Nat) : Int) > IntKind.i64.max) := by simp [IntKind.max, IntKind.signed, IntKind.bits]; omega
      simp only [binOp, Op.stringOp]
      rw [if_neg h2]
      rfl
  all_goals
    simp only [strOp] at h
    first
      | (cases h; simp [binOp, Op.stringOp, toList_eq]; done)
      | (cases h; done)
theorem part_run {T : Tab} {P : Program} (ok : T.Ok P) {t n : Nat} {d : TypeDesc} (hd : T.und t = some d) (hn : T.size t = some n) (cs : Array Value) (off : Nat) (w : World) :
    (part t cs off).run P w = if isAggD d = true then .ok (.agg ((cs.toList.drop off).take n).toArray) w else match cs[off]? with
      | some v => .ok v w
      | none => .halt (.stuck "part: no such cell") w := by
  simp only [part, Sem.run_bind, ok.runAgg hd, Result.andThen_ok]
  cases isAggD d with
  | true =>
    simp only [if_true, Sem.run_bind, ok.runSize hn, Result.andThen_ok, Sem.run_pure]
    congr 2
    apply Array.ext'
    simp [List.take_drop, Nat.add_comm, Array.toList_extract, List.extract]
  | false =>
    simp only [Bool.false_eq_true, if_false]
    cases cs[off]? <;> simp
section eq
variable {T : Tab} {P : Program} (ok : T.Ok P) {ρ : Ren}
include ok
theorem sim_eqCell {t : Nat} {d : TypeDesc} (hd : P.underlying t = some d) {x y x' y' : Value} {r : Bool} (h : eqCell T d x y = some r) (hx : V ρ x x') (hy : V ρ y y') (m : Nat) (w : World) :
    (Op.equalIn (m + 1) t x' y').run P w = .ok r w := by
  have hu : (underlying t).run P w = .ok d w := by simp [underlying, hd]
  unfold eqCell at h
  split at h
  · cases h; obtain rfl := hx.bool_inv; obtain rfl := hy.bool_inv
    simp [Op.equalIn, hu]
  · split at h
    · cases h; obtain rfl := hx.int_inv; obtain rfl := hy.int_inv
      rename_i hk; subst hk
      simp [Op.equalIn, hu]
    · cases h
  · cases h; obtain rfl := hx.string_inv; obtain rfl := hy.string_inv
    rw [run_equalIn_string w m t _ _ hd, toList_eq, toList_eq]
  · cases h; obtain rfl := hx.nilPtr_inv
    have := hy.ptr_inv
    cases this <;> simp [Op.equalIn, hu]
  · cases h; obtain rfl := hy.nilPtr_inv
    have := hx.ptr_inv
    cases this <;> simp [Op.equalIn, hu]
  · split at h
    · cases h
      rename_i hc
      obtain ⟨rfl, rfl, rfl, hs⟩ := hc
      obtain ⟨l, hl, hdl, rfl⟩ := hx.newPtr_inv
      obtain ⟨l', hl', _, rfl⟩ := hy.newPtr_inv
      obtain rfl : l = l' := by rw [hl] at hl'; exact Option.some.inj hl'
      obtain ⟨n, hn⟩ := Option.isSome_iff_exists.1 hs
      simp only [Op.equalIn, Sem.run_bind, hu, Result.andThen_ok, ok.runSize hn]
      by_cases h0 : n = 0
      · simp [h0]
      · simp [h0, sameAddr]
    · cases h
  · cases h; obtain rfl := hx.nilSlice_inv
    have := hy.slice_inv
    cases this <;> simp [Op.equalIn, hu]
  · cases h; obtain rfl := hy.nilSlice_inv
    have := hx.slice_inv
    cases this <;> simp [Op.equalIn, hu]
  · cases h; obtain rfl := hx.nilMap_inv
    have := hy.map_inv
    cases this <;> simp [Op.equalIn, hu]
  · cases h; obtain rfl := hy.nilMap_inv
    have := hx.map_inv
    cases this <;> simp [Op.equalIn, hu]
  · cases h; obtain rfl := hx.nilFunc_inv; obtain rfl := hy.nilFunc_inv
    simp [Op.equalIn, hu]
  · cases h; obtain rfl := hx.nilFunc_inv; obtain ⟨_, _, rfl, _⟩ := hy.func_inv
    simp [Op.equalIn, hu]
  · cases h; obtain rfl := hy.nilFunc_inv; obtain ⟨_, _, rfl, _⟩ := hx.func_inv
    simp [Op.equalIn, hu]
  · cases h; obtain rfl := hx.nilIface_inv; obtain ⟨_, rfl, _⟩ := hy.iface_inv
    simp [Op.equalIn, hu]
  · cases h; obtain rfl := hy.nilIface_inv; obtain ⟨_, rfl, _⟩ := hx.iface_inv
    simp [Op.equalIn, hu]
  · cases h
def valOf (d : TypeDesc) (l : List Value) : Value := if isAggD d = true then .agg l.toArray else l.headD undef
theorem part_val {t n : Nat} {d : TypeDesc} (hd : T.und t = some d) (hn : T.size t = some n) (cs : Array Value) (off : Nat) (hc : isAggD d = true ∨ ∃ x, (cs.toList.drop off).take n = [x]) (w : World) :
    (part t cs off).run P w = .ok (valOf d ((cs.toList.drop off).take n)) w := by
  rw [part_run ok hd hn]
  unfold valOf
  by_cases h : isAggD d = true
  · simp [h]
  · obtain ⟨x, hx⟩ := hc.resolve_left h
    rw [if_neg h, if_neg h, getElem?_of_chunk' hx, hx]
    rfl
where
  getElem?_of_chunk' {xs : Array Value} {off c : Nat} {a : Value} (h : (xs.toList.drop off).take c = [a]) : xs[off]? = some a := by
    have h0 := congrArg (·[0]?) h
    simp only [List.getElem?_cons_zero] at h0
    cases c with
    | zero => simp at h
    | succ c =>
      simp only [List.getElem?_take, Nat.zero_lt_succ, if_true, List.getElem?_drop, Nat.add_zero] at h0
      simpa using h0
theorem sim_eqSym (hS : ρ.sym = T.sym) {t : Nat} {d : TypeDesc} (hd : P.underlying t = some d) {x y x' y' : Value} {r : Bool} (h : eqSym T d x y = some r) (hx : V ρ x x') (hy : V ρ y y') (m : Nat) (w : World) :
    (Op.equalIn (m + 1) t x' y').run P w = .ok r w := by
  have hu : (underlying t).run P w = .ok d w := by simp [underlying, hd]
  unfold eqSym at h
  split at h
  · rename_i i j
    cases hb : Nat.beq i j with
    | false => simp [hb] at h
    | true =>
      obtain rfl := Nat.eq_of_beq_eq_true hb
      obtain ⟨h1, _⟩ := hx.sym_inv hS
      obtain ⟨h2, _⟩ := hy.sym_inv hS
      rw [h1] at h2
      cases h2
      simp only [hb, cond_true] at h
      split at h
      · rename_i h3
        rw [h1] at h3
        cases h3
        cases h
        simp [Op.equalIn, hu]
      · rename_i h3
        rw [h1] at h3
        cases h3
        cases h
        rw [run_equalIn_string w m t _ _ hd]
        simp
      · cases h
  · exact sim_eqCell ok hd h hx hy m w
theorem sim_eqAt (hS : ρ.sym = T.sym) : ∀ (d t : Nat) (xs ys xs' ys' : List Value) (r : Bool) (k : TypeDesc), T.und t = some k → eqAt T d t xs ys = some r → All2 (V ρ) xs xs' → All2 (V ρ) ys ys' → ∀ (m : Nat) (w : World),
    (Op.equalIn (d + m) t (valOf k xs') (valOf k ys')).run P w = .ok r w
  | 0, _, _, _, _, _, _, _, _, h, _, _ => by simp [eqAt] at h
  | d + 1, t, xs, ys, xs', ys', r, k, hk, h, hx, hy => by
    intro m w
    simp only [eqAt, hk] at h
    have hu := ok.und hk
    cases k
    case struct fields =>
      simp only at h
      cases he : T.eqs t with
      | false => simp [he] at h
      | true =>
        simp only [he, cond_true] at h
        have hf : P.fieldsOf t = fields := by simp [Program.fieldsOf, hu]
        have hv : ∀ l, valOf (.struct fields) l = .agg l.toArray := fun l => by simp [valOf, isAggD]
        rw [hv, hv, show d + 1 + m = (d + m) + 1 by omega, run_equalIn_struct w (d + m) t _ _ (by rw [hf]; exact hu) (ok.eqs t he).1, hf]
        revert h
        generalize fields.toList = fs
        intro h
        clear hf hu hv hk he
        induction fs with
        | nil => simp [eqFields] at h; subst h; simp [Op.eqFields]
        | cons f fs ih =>
          simp only [eqFields] at h
          split at h
          · cases h
          · rename_i hname
            cases hn : T.size f.type with
            | none => simp [hn] at h
            | some n =>
              simp only [hn] at h
              cases he : eqAt T d f.type ((xs.drop f.offset).take n) ((ys.drop f.offset).take n) with
              | none => simp [he] at h
              | some b =>
                obtain ⟨kf, hkf⟩ : ∃ kf, T.und f.type = some kf := by
                  cases d with
                  | zero => simp [eqAt] at he
                  | succ d =>
                    simp only [eqAt] at he
                    cases hh : T.und f.type with
                    | none => simp [hh] at he
                    | some kf => exact ⟨kf, rfl⟩
                have hone : isAggD kf = true ∨ (∃ x, (xs.drop f.offset).take n = [x]) ∧ (∃ y, (ys.drop f.offset).take n = [y]) := by
                  cases d with
                  | zero => simp [eqAt] at he
                  | succ d =>
                    simp only [eqAt, hkf] at he
                    cases kf
                    case struct => exact .inl rfl
                    case array => exact .inl rfl
                    all_goals
                      simp only at he
                      split at he
                      · rename_i e1 e2; exact .inr ⟨⟨_, e1⟩, ⟨_, e2⟩⟩
                      · cases he
                have hxs := (hx.drop f.offset).take n
                have hys := (hy.drop f.offset).take n
                have one : ∀ (l : List Value) (l' : List Value), All2 (V ρ) l l' → (∃ x, l = [x]) → ∃ x, l' = [x] := by
                  rintro l l' hl ⟨x, rfl⟩
                  cases hl with
                  | cons _ t => cases t; exact ⟨_, rfl⟩
                have p1 := part_val ok hkf hn xs'.toArray f.offset (by
                  rcases hone with h | ⟨h, _⟩
                  · exact .inl h
                  · exact .inr (by simpa using one _ _ hxs h)) w
                have p2 := part_val ok hkf hn ys'.toArray f.offset (by
                  rcases hone with h | ⟨_, h⟩
                  · exact .inl h
                  · exact .inr (by simpa using one _ _ hys h)) w
                have p3 := sim_eqAt hS d f.type _ _ _ _ b kf hkf he hxs hys m w
                simp only [List.toList_toArray] at p1 p2
                simp only [Op.eqFields, ne_eq, hname, not_false_eq_true, if_true, Sem.run_bind, p1, p2, Result.andThen_ok, p3]
                simp only [he] at h
                cases b
                · simp only at h
                  cases h
                  simp
                · simp only at h
                  simpa using ih h
    case array => simp at h
    all_goals
      simp only at h
      split at h
      · cases hx with
        | cons hx1 hx2 =>
          cases hx2
          cases hy with
          | cons hy1 hy2 =>
            cases hy2
            rw [show d + 1 + m = (d + m) + 1 by omega]
            exact sim_eqSym ok hS hu h hx1 hy1 _ w
      · cases h
theorem sim_eqV (hS : ρ.sym = T.sym) {t : Nat} {x y x' y' : Value} {r : Bool} (h : eqV T t x y = some r) (hx : V ρ x x') (hy : V ρ y y') (w : World) : (Op.equal t x' y').run P w = .ok r w := by
  unfold eqV at h
  split at h
  · rename_i xs ys
    split at h
    · rename_i f hf
      obtain ⟨a, rfl, ha⟩ := hx.agg_inv
      obtain ⟨b, rfl, hb⟩ := hy.agg_inv
      have := sim_eqAt ok hS 8 t _ _ _ _ r _ hf h ha hb 9992 w
      simpa [valOf, isAggD, Op.equal, Op.maxDepth] using this
    · cases h
  · split at h
    · cases h
    · cases h
    · rename_i hk
      exact sim_eqCell ok (ok.und hk) h hx hy 9999 w
    · cases h
end eq
theorem run_eqGuard {T : Tab} {P : Program} (ok : T.Ok P) {op : BinOp} {t : Nat} {x y : Operand} {a b a' b' : Value} {r : Bool} (h : eqV T t a b = some r) {ρ : Ren} (ha : V ρ a a') (hb : V ρ b b') (w : World) :
    (eqGuard op t x y a' b').run P w = .ok () w := by
  unfold eqGuard
  cases hop : (!(op matches .eql | .neq)) with
  | true => simp
  | false =>
    simp only [Bool.false_eq_true, if_false]
    unfold eqV at h
    split at h
    · rename_i xs ys
      split at h
      · rename_i f hf
        obtain ⟨a, rfl, ha⟩ := ha.agg_inv
        obtain ⟨b, rfl, hb⟩ := hb.agg_inv
        have he : T.eqs t = true := by
          simp only [eqAt, hf] at h
          cases he : T.eqs t with
          | true => rfl
          | false => simp [he] at h
        simp [(ok.eqs t he).2]
      · cases h
    · split at h
      · cases h
      · cases h
      · rename_i k _ _ hk
        unfold eqCell at h
        split at h
        · obtain rfl := ha.bool_inv; obtain rfl := hb.bool_inv; simp
        · obtain rfl := ha.int_inv; obtain rfl := hb.int_inv; simp
        · obtain rfl := ha.string_inv; obtain rfl := hb.string_inv; simp
        · obtain rfl := ha.nilPtr_inv; simp
        · obtain rfl := hb.nilPtr_inv; have := ha.ptr_inv; cases this <;> simp
        · obtain ⟨l, hl, hdl, rfl⟩ := ha.newPtr_inv; simp
        · obtain rfl := ha.nilSlice_inv; simp
        · obtain rfl := hb.nilSlice_inv; have := ha.slice_inv; cases this <;> simp
        · obtain rfl := ha.nilMap_inv; simp
        · obtain rfl := hb.nilMap_inv; have := ha.map_inv; cases this <;> simp
        · obtain rfl := ha.nilFunc_inv; simp
        · obtain rfl := ha.nilFunc_inv; simp
        · obtain ⟨_, _, rfl, _⟩ := ha.func_inv; simp
        · obtain rfl := ha.nilIface_inv; obtain ⟨_, rfl, _⟩ := hb.iface_inv; simp
        · obtain rfl := hb.nilIface_inv; obtain ⟨_, rfl, _⟩ := ha.iface_inv; simp
        · cases h
      · cases h
theorem asN_inv {v : Value} {i : Int} (h : asN v = some i) : ∃ k, v = .int k i := by
  cases v <;> simp [asN] at h
  subst h; exact ⟨_, rfl⟩
theorem run_sliceBound {P : Program} {ρ : Ren} {v v' : Value} {i : Int} (h : asN v = some i) (hv : V ρ v v') {y : Nat} (h0 : 0 ≤ i ∧ i ≤ y) (code : BoundsCode) (w : World) : (Instr.sliceBound v' y code).run P w = .ok i.toNat w := by
  obtain ⟨k, rfl⟩ := asN_inv h
  obtain rfl := hv.int_inv
  simp [Instr.sliceBound, asIntOf, h0]
def OV (ρ : Ren) : Option Value → Option Value → Prop
  | none, none => True
  | some v, some v' => V ρ v v'
  | _, _ => False
theorem bounds_le {len cap : Nat} {lo hi mx : Option Value} {l h m : Nat} (hb : bounds len cap lo hi mx = some (l, h, m)) (hlc : len ≤ cap) : l ≤ h ∧ h ≤ m ∧ m ≤ cap ∧ (mx = none → m = cap) := by
  unfold bounds at hb
  cases mx with
  | none =>
    simp only at hb
    cases hi with
    | none =>
      simp only at hb
      cases lo with
      | none => simp at hb; exact ⟨by omega, by omega, by omega, fun hh => by first | omega | cases hh⟩
      | some v =>
        simp only at hb
        cases hn : asN v with
        | none => simp [hn] at hb
        | some i =>
          simp only [hn] at hb
          split at hb
          · simp at hb; exact ⟨by omega, by omega, by omega, fun hh => by first | omega | cases hh⟩
          · cases hb
    | some u =>
      cases hn : asN u with
      | none => simp [hn] at hb
      | some i =>
        simp only [hn] at hb
        split at hb
        · simp at hb
        · rename_i heq
          split at heq
          · cases heq
            cases lo with
            | none => simp at hb; exact ⟨by omega, by omega, by omega, fun hh => by first | omega | cases hh⟩
            | some v =>
              simp only at hb
              cases hn2 : asN v with
              | none => simp [hn2] at hb
              | some j =>
                simp only [hn2] at hb
                split at hb
                · simp at hb; exact ⟨by omega, by omega, by omega, fun hh => by first | omega | cases hh⟩
                · cases hb
          · cases heq
  | some x =>
    cases hx : asN x with
    | none => simp [hx] at hb
    | some q =>
      simp only [hx] at hb
      split at hb
      · cases hb
      · rename_i heq
        split at heq
        · cases heq
          cases hi with
          | none => simp at hb
          | some u =>
            cases hn : asN u with
            | none => simp [hn] at hb
            | some i =>
              simp only [hn] at hb
              split at hb
              · simp at hb
              · rename_i heq
                split at heq
                · cases heq
                  cases lo with
                  | none => simp at hb; exact ⟨by omega, by omega, by omega, fun hh => by first | omega | cases hh⟩
                  | some v =>
                    simp only at hb
                    cases hn2 : asN v with
                    | none => simp [hn2] at hb
                    | some j =>
                      simp only [hn2] at hb
                      split at hb
                      · simp at hb; exact ⟨by omega, by omega, by omega, fun hh => by first | omega | cases hh⟩
                      · cases hb
                · cases heq
        · cases heq
theorem run_bounds {P : Program} {ρ : Ren} {len cap cap' : Nat} {lo hi mx lo' hi' mx' : Option Value} {l h m : Nat} (hb : bounds len cap lo hi mx = some (l, h, m)) (hc : cap ≤ cap')
    (hlo : OV ρ lo lo') (hhi : OV ρ hi hi') (hmx : OV ρ mx mx') (isS : Bool) (w : World) :
    (Instr.sliceBounds isS len cap' lo' hi' mx').run P w = .ok (l, h, if mx.isSome then m else cap') w := by
  unfold bounds at hb
  cases mx with
  | none =>
    cases mx' with
    | some _ => simp [OV] at hmx
    | none =>
      simp only at hb
      cases hi with
      | none =>
        cases hi' with
        | some _ => simp [OV] at hhi
        | none =>
          simp only at hb
          cases lo with
          | none =>
            cases lo' with
            | some _ => simp [OV] at hlo
            | none => simp at hb; obtain ⟨rfl, rfl, rfl⟩ := hb; simp [Instr.sliceBounds]
          | some v =>
            cases lo' with
            | none => simp [OV] at hlo
            | some v' =>
              simp only at hb
              cases hn : asN v with
              | none => simp [hn] at hb
              | some i =>
                simp only [hn] at hb
                split at hb
                · simp at hb; obtain ⟨rfl, rfl, rfl⟩ := hb
                  rename_i hi0
                  simp [Instr.sliceBounds, run_sliceBound hn hlo hi0]
                · cases hb
      | some u =>
        cases hi' with
        | none => simp [OV] at hhi
        | some u' =>
          cases hn : asN u with
          | none => simp [hn] at hb
          | some i =>
            simp only [hn] at hb
            split at hb
            · simp at hb
            · rename_i heq
              split at heq
              · cases heq
                rename_i hi0
                have hi1 : 0 ≤ i ∧ i ≤ cap' := ⟨hi0.1, by omega⟩
                cases lo with
                | none =>
                  cases lo' with
                  | some _ => simp [OV] at hlo
                  | none => simp at hb; obtain ⟨rfl, rfl, rfl⟩ := hb; simp [Instr.sliceBounds, run_sliceBound hn hhi hi1]
                | some v =>
                  cases lo' with
                  | none => simp [OV] at hlo
                  | some v' =>
                    simp only at hb
                    cases hn2 : asN v with
                    | none => simp [hn2] at hb
                    | some j =>
                      simp only [hn2] at hb
                      split at hb
                      · simp at hb; obtain ⟨rfl, rfl, rfl⟩ := hb
                        rename_i hj
                        simp [Instr.sliceBounds, run_sliceBound hn hhi hi1, run_sliceBound hn2 hlo hj]
                      · cases hb
              · cases heq
  | some x =>
    cases mx' with
    | none => simp [OV] at hmx
    | some x' =>
      cases hx : asN x with
      | none => simp [hx] at hb
      | some q =>
        simp only [hx] at hb
        split at hb
        · cases hb
        · rename_i heq
          split at heq
          · cases heq
            rename_i hq0
            have hq1 : 0 ≤ q ∧ q ≤ cap' := ⟨hq0.1, by omega⟩
            cases hi with
            | none => simp at hb
            | some u =>
              cases hi' with
              | none => simp [OV] at hhi
              | some u' =>
                cases hn : asN u with
                | none => simp [hn] at hb
                | some i =>
                  simp only [hn] at hb
                  split at hb
                  · simp at hb
                  · rename_i heq
                    split at heq
                    · cases heq
                      rename_i hi0
                      cases lo with
                      | none =>
                        cases lo' with
                        | some _ => simp [OV] at hlo
                        | none => simp at hb; obtain ⟨rfl, rfl, rfl⟩ := hb; simp [Instr.sliceBounds, run_sliceBound hx hmx hq1, run_sliceBound hn hhi hi0]
                      | some v =>
                        cases lo' with
                        | none => simp [OV] at hlo
                        | some v' =>
                          simp only at hb
                          cases hn2 : asN v with
                          | none => simp [hn2] at hb
                          | some j =>
                            simp only [hn2] at hb
                            split at hb
                            · simp at hb; obtain ⟨rfl, rfl, rfl⟩ := hb
                              rename_i hj
                              simp [Instr.sliceBounds, run_sliceBound hx hmx hq1, run_sliceBound hn hhi hi0, run_sliceBound hn2 hlo hj]
                            · cases hb
                    · cases heq
          · cases heq
end Go.Ev
namespace Go.Ev
theorem numish_V {ρ : Ren} {a a' : Value} (h : V ρ a a') : numish a' = numish a := by
  rcases h.inv with h | ⟨_, _, rfl, rfl, _⟩ | ⟨_, _, rfl, rfl, _⟩ | ⟨_, _, _, _, _, rfl, rfl, _⟩ | ⟨_, _, _, rfl, rfl, _⟩
  · cases h with
    | sym _ hv => cases a' <;> first | rfl | (simp [symOk] at hv)
    | _ => rfl
  all_goals rfl
theorem binOp_eql {t : TypeId} {a b : Value} (h : numish a = false) : binOp .eql t a b = (do pure (.bool (← Op.equal t a b)) : Sem Value) := by
  cases a <;> first | (simp [numish] at h; done) | (cases b <;> rfl)
theorem binOp_neq {t : TypeId} {a b : Value} (h : numish a = false) : binOp .neq t a b = (do pure (.bool (!(← Op.equal t a b))) : Sem Value) := by
  cases a <;> first | (simp [numish] at h; done) | (cases b <;> rfl)
theorem run_eqGuard_nil (P : Program) (op : BinOp) (t : TypeId) {x y : Operand} (h : (isConstO x || isConstO y) = true) (w : World) : (eqGuard op t x y .nilIface .nilIface).run P w = .ok () w := by
  cases x with
  | const v => cases op <;> cases y <;> rfl
  | _ =>
    cases y with
    | const v => cases op <;> rfl
    | _ => cases h
theorem intOp_flat {op : BinOp} {k : IntKind} {a b : Int} {v : Value} (h : intOp op k a b = some v) : flat v = true := by
  cases op <;> simp only [intOp] at h <;> first | (cases h; rfl) | (split at h <;> first | (cases h; done) | (cases h; rfl))
theorem strOp_flat {op : BinOp} {a b : ByteArray} {v : Value} (h : strOp op a b = some v) : flat v = true := by
  cases op
  case add =>
    simp only [strOp] at h
    cases hb : Nat.ble (a.size + b.size) 9223372036854775807 with
    | false => simp [hb] at h
    | true => simp [hb] at h; subst h; rfl
  all_goals simp only [strOp] at h; first | (cases h; rfl) | (cases h; done)
theorem run_nil_equalIn {T : Tab} {P : Program} (ok : T.Ok P) {t : Nat} {ms : Array (String × TypeId)} (hu : T.und t = some (.interface ms)) (d : Nat) (w : World) : (Op.equalIn (d + 1) t .nilIface .nilIface).run P w = .ok true w := by
  simp only [Op.equalIn, Sem.run_bind, ok.runUnd hu, Result.andThen_ok, Sem.run_pure]
theorem run_nil_equal {T : Tab} {P : Program} (ok : T.Ok P) {t : Nat} {ms : Array (String × TypeId)} (hu : T.und t = some (.interface ms)) (w : World) : (Op.equal t .nilIface .nilIface).run P w = .ok true w :=
  run_nil_equalIn ok hu 9999 w
theorem V.res_inv {ρ : Ren} {fk : FloatKind} {m r : Nat} {v' : Value} (h : V ρ (.complex fk m r) v') : ∃ n : Nat, v' = .int (resK fk) n ∧ n ≤ 255 ∧ n % m = r := by
  rcases h.inv with h1 | ⟨_, _, e, _⟩ | ⟨_, _, e, _⟩ | ⟨_, _, _, _, _, e, _⟩ | ⟨_, _, _, e, _⟩
  · cases h1 with
    | same hf => cases hf
    | res g1 g2 => exact ⟨_, rfl, g1, g2⟩
  all_goals cases e
theorem wrap_res {fk : FloatKind} {n : Nat} (h : n ≤ 255) : (resK fk).wrap (n : Int) = n := by
  cases fk <;> simp only [resK, IntKind.wrap, IntKind.signed, IntKind.bits] <;> simp <;> omega
theorem sim_resBin {ρ : Ren} {P : Program} {op : BinOp} {t : Nat} {x y : Operand} {fk : FloatKind} {m r : Nat} {a' b b' v : Value} (h : resBin op fk m r b = some v) (ha : V ρ (.complex fk m r) a') (hb : V ρ b b') (w : World) :
    ∃ v', ((do eqGuard op t x y a' b'; binOp op t a' b') : Sem Value).run P w = .ok v' w ∧ V ρ v v' := by
  obtain ⟨n, rfl, hn, rfl⟩ := ha.res_inv
  unfold resBin at h
  split at h
  · rename_i k d
    obtain rfl := hb.int_inv
    split at h
    · rename_i hc
      obtain ⟨rfl, hd, hm⟩ := hc
      cases h
      obtain ⟨d, rfl⟩ : ∃ d' : Nat, d = d' := ⟨d.toNat, by omega⟩
      simp only [Int.toNat_natCast] at hm ⊢
      have e : n % m % d = n % d := Nat.mod_mod_of_dvd _ (Nat.dvd_of_mod_eq_zero hm)
      have hi : intOp .rem (resK fk) (n : Int) (d : Int) = some (.int (resK fk) ((n % m % d : Nat) : Int)) := by
        have hz : ¬ ((d : Int) = 0) := by omega
        simp only [intOp, hz, if_false, e]
        rfl
      exact ⟨_, by simp [run_eqGuard_int, run_int (.inr rfl) hi], .flat rfl⟩
    · cases h
  · rename_i k d
    obtain rfl := hb.int_inv
    split at h
    · rename_i hc
      obtain ⟨rfl, hd, hm⟩ := hc
      cases h
      obtain ⟨d, rfl⟩ : ∃ d' : Nat, d = d' := ⟨d.toNat, by omega⟩
      simp only [Int.toNat_natCast] at hm ⊢
      have hle : n / d ≤ 255 := Nat.le_trans (Nat.div_le_self _ _) hn
      have hi : intOp .quo (resK fk) (n : Int) (d : Int) = some (.int (resK fk) ((n / d : Nat) : Int)) := by
        have hz : ¬ ((d : Int) = 0) := by omega
        have e2 : Int.tdiv (n : Int) (d : Int) = ((n / d : Nat) : Int) := rfl
        simp only [intOp, hz, if_false, e2, wrap_res hle]
      refine ⟨_, by simp [run_eqGuard_int, run_int (.inr rfl) hi], .fr (.res hle ?_)⟩
      obtain ⟨q, rfl⟩ := Nat.dvd_of_mod_eq_zero hm
      rw [Nat.mul_div_cancel_left _ (by omega), Nat.mod_mul_right_div_self]
    · cases h
  · cases h
section
variable {T : Tab} {P : Program} (ok : T.Ok P) {ρ : Ren}
include ok
omit ok in
theorem sim_sym (ok : T.Ok P) (hS : ρ.sym = T.sym) {op : BinOp} {t : Nat} {x y : Operand} {a b a' b' v : Value} (h : T.bin op a b = some v) (sa : symV a = true) (sb : symV b = true) (ha : V ρ a a') (hb : V ρ b b') (w : World) :
    ∃ v', ((do eqGuard op t x y a' b'; binOp op t a' b') : Sem Value).run P w = .ok v' w ∧ V ρ v v' := by
  obtain ⟨v', h1, h2⟩ := ok.bin op a b v h a' b' (V.toSV hS sa ha) (V.toSV hS sb hb)
  refine ⟨v', ?_, h1.toV hS⟩
  rcases h2 with ⟨k, m, n, rfl, rfl, hi⟩ | ⟨m, n, rfl, rfl, hi⟩
  · simp [run_eqGuard_int, run_int (.inr rfl) hi]
  · simp [run_eqGuard_string, run_str hi]
theorem sim_binV (hS : ρ.sym = T.sym) {op : BinOp} {t : Nat} {cst : Bool} {x y : Operand} {a b a' b' v : Value} (hc : cst = (isConstO x || isConstO y)) (h : binV T op t cst a b = some v) (ha : V ρ a a') (hb : V ρ b b') (w : World) :
    ∃ v', ((do eqGuard op t x y a' b'; binOp op t a' b') : Sem Value).run P w = .ok v' w ∧ V ρ v v' := by
  unfold binV at h
  split at h
  · obtain rfl := ha.int_inv; obtain rfl := hb.int_inv
    rename_i k i k' j
    split at h
    · rename_i hs
      exact ⟨v, by simp [run_eqGuard_int, run_int (.inl hs) h], .flat (intOp_flat h)⟩
    · split at h
      · rename_i hk
        exact ⟨v, by simp [run_eqGuard_int, run_int (.inr hk) h], .flat (intOp_flat h)⟩
      · cases h
  · obtain rfl := ha.string_inv; obtain rfl := hb.string_inv
    exact ⟨v, by simp [run_eqGuard_string, run_str h], .flat (strOp_flat h)⟩
  · exact sim_resBin h ha hb w
  · cases hs : symV b with
    | false => simp [hs] at h
    | true =>
      simp only [hs, cond_true] at h
      exact sim_sym ok hS h rfl hs ha hb w
  · cases hs : symV a with
    | false => simp [hs] at h
    | true =>
      simp only [hs, cond_true] at h
      exact sim_sym ok hS h hs rfl ha hb w
  · obtain rfl := ha.nilIface_inv; obtain rfl := hb.nilIface_inv
    cases hcs : cst with
    | false => simp [hcs] at h
    | true =>
      simp only [hcs, cond_true] at h
      have hg := run_eqGuard_nil P op t (hc ▸ hcs) w
      split at h
      · rename_i hu
        cases h
        refine ⟨_, ?_, .flat rfl⟩
        simp only [Sem.run_bind, hg, Result.andThen_ok, binOp_eql (a := .nilIface) rfl, run_nil_equal ok hu, Sem.run_pure]
      · rename_i hu
        cases h
        refine ⟨_, ?_, .flat rfl⟩
        simp only [Sem.run_bind, hg, Result.andThen_ok, binOp_neq (a := .nilIface) rfl, run_nil_equal ok hu, Sem.run_pure]
        rfl
      · cases h
  · cases hn : numish a with
    | true => simp [hn] at h
    | false =>
      simp only [hn, cond_false] at h
      have hn' : numish a' = false := (numish_V ha).trans hn
      split at h
      · split at h
        · rename_i r he
          cases h
          refine ⟨.bool r, ?_, .flat rfl⟩
          simp only [Sem.run_bind, run_eqGuard ok he ha hb, Result.andThen_ok, binOp_eql hn', sim_eqV ok hS he ha hb, Sem.run_pure]
        · cases h
      · split at h
        · rename_i r he
          cases h
          refine ⟨.bool (!r), ?_, .flat rfl⟩
          simp only [Sem.run_bind, run_eqGuard ok he ha hb, Result.andThen_ok, binOp_neq hn', sim_eqV ok hS he ha hb, Sem.run_pure]
        · cases h
      · cases h
omit ok in
theorem sim_unV {op : UnOp} {x x' v : Value} (h : unV op x = some v) (hx : V ρ x x') (w : World) : (Op.unary op x').run P w = .ok v w ∧ V ρ v v := by
  unfold unV at h
  split at h
  · cases h; obtain rfl := hx.int_inv
    exact ⟨by simp [Op.unary, Op.intArith], .flat rfl⟩
  · obtain rfl := hx.int_inv
    simp only [intOp] at h
    cases h
    exact ⟨by simp [Op.unary, Op.intBits], .flat rfl⟩
  · cases h; obtain rfl := hx.bool_inv
    exact ⟨by simp [Op.unary], .flat rfl⟩
  · cases h
theorem sim_fieldAt {t i : Nat} {x x' v : Value} (h : fieldAt T t x i = some v) (hx : V ρ x x') (w : World) : ∃ v', (Instr.fieldAt t x' i).run P w = .ok v' w ∧ V ρ v v' := by
  unfold fieldAt at h
  split at h
  · rename_i fields b off spot hu
    split at h
    · cases h
    · rename_i f hf
      split at h
      · rename_i n hn
        cases h
        have hf' : fields[i]? = some f := by simpa using hf
        cases spot with
        | none =>
          obtain rfl := hx.oldPtr_inv
          refine ⟨.pointer (some ⟨b, off + f.offset, none⟩), ?_, .flat rfl⟩
          simp only [Instr.fieldAt, Sem.run_bind, ok.runUnd hu, Result.andThen_ok, hf', Instr.sureAddr, Sem.run_pure, fieldPlace, ok.runSize hn]
          by_cases h0 : f.offset = 0 <;> simp [Addr.add, h0]
        | some ver =>
          obtain ⟨l, hl, hd, rfl⟩ := hx.newPtr_inv
          refine ⟨.pointer (some ⟨l.r, off + f.offset - l.d, none⟩), ?_, .fr (.ptr hl (by omega))⟩
          simp only [Instr.fieldAt, Sem.run_bind, ok.runUnd hu, Result.andThen_ok, hf', Instr.sureAddr, Sem.run_pure, fieldPlace, ok.runSize hn]
          by_cases h0 : f.offset = 0
          · simp [Addr.add, h0]
          · simp [Addr.add, h0]; omega
      · cases h
  · cases h
theorem sim_partV {t off : Nat} {cs cs' : List Value} {v : Value} (h : partV T t cs off = some v) (hc : All2 (V ρ) cs cs') (w : World) : ∃ v', (part t cs'.toArray off).run P w = .ok v' w ∧ V ρ v v' := by
  unfold partV at h
  split at h
  · rename_i d n hd hn
    rw [part_run ok hd hn]
    cases ha : isAggD d with
    | true =>
      simp only [ha, cond_true] at h
      cases h
      exact ⟨_, by simp; rfl, .agg (by simpa using (hc.drop off).take n)⟩
    | false =>
      simp only [ha, cond_false] at h
      obtain ⟨y, hy, hv⟩ := hc.get h
      exact ⟨y, by simp [hy], hv⟩
  · cases h
theorem sim_fieldV {t i : Nat} {x x' v : Value} (h : fieldV T t x i = some v) (hx : V ρ x x') (w : World) : ∃ v', (Instr.field t x' i).run P w = .ok v' w ∧ V ρ v v' := by
  unfold fieldV at h
  split at h
  · rename_i fields cs hu
    obtain ⟨b, rfl, hb⟩ := hx.agg_inv
    split at h
    · cases h
    · rename_i f hf
      have hf' : fields[i]? = some f := by simpa using hf
      obtain ⟨v', h1, h2⟩ := sim_partV ok h hb w
      exact ⟨v', by simpa [Instr.field, ok.runUnd hu, hf', asAgg] using h1, h2⟩
  · cases h
theorem sim_indexAt {t : Nat} {x x' ix ix' v : Value} (h : indexAt T t x ix = some v) (hx : V ρ x x') (hi : V ρ ix ix') (w : World) : ∃ v', (Instr.indexAt t x' ix').run P w = .ok v' w ∧ V ρ v v' := by
  unfold indexAt at h
  split at h
  · rename_i elem b off spot len cap k i hu
    obtain rfl := hi.int_inv
    split at h
    · cases h
    · rename_i z hz
      split at h
      · rename_i hb
        cases h
        cases spot with
        | none =>
          obtain rfl := hx.oldSlice_inv
          refine ⟨.pointer (some ⟨b, off + i.toNat * z, none⟩), ?_, .flat rfl⟩
          simp only [Instr.indexAt, asIntOf, Sem.run_bind, Sem.run_pure, ok.runUnd hu, Result.andThen_ok, hb, and_self, if_true, ok.runSize hz]
          by_cases h0 : i.toNat * z = 0 <;> simp [Addr.add, h0]
        | some ver =>
          obtain ⟨l, o', cap', hl, hd, ho, hs, hlen, hc, rfl⟩ := hx.newSlice_inv
          have ho : o' = off - l.d := ho.resolve_right (by omega)
          subst ho
          refine ⟨.pointer (some ⟨l.r, off + i.toNat * z - l.d, none⟩), ?_, .fr (.ptr hl (by omega))⟩
          simp only [Instr.indexAt, asIntOf, Sem.run_bind, Sem.run_pure, ok.runUnd hu, Result.andThen_ok, hb, and_self, if_true, ok.runSize hz]
          by_cases h0 : i.toNat * z = 0
          · simp [Addr.add, h0]
          · simp [Addr.add, h0]; omega
      · cases h
  · rename_i len elem b off spot k i hu
    obtain rfl := hi.int_inv
    split at h
    · cases h
    · rename_i z hz
      split at h
      · rename_i hb
        cases h
        cases spot with
        | none =>
          obtain rfl := hx.oldPtr_inv
          refine ⟨.pointer (some ⟨b, off + i.toNat * z, none⟩), ?_, .flat rfl⟩
          simp only [Instr.indexAt, asIntOf, Sem.run_bind, Sem.run_pure, ok.runUnd hu, Result.andThen_ok, Instr.sureAddr, hb, and_self, if_true, ok.runSize hz]
          by_cases h0 : i.toNat * z = 0 <;> simp [Addr.add, h0]
        | some ver =>
          obtain ⟨l, hl, hd, rfl⟩ := hx.newPtr_inv
          refine ⟨.pointer (some ⟨l.r, off + i.toNat * z - l.d, none⟩), ?_, .fr (.ptr hl (by omega))⟩
          simp only [Instr.indexAt, asIntOf, Sem.run_bind, Sem.run_pure, ok.runUnd hu, Result.andThen_ok, Instr.sureAddr, hb, and_self, if_true, ok.runSize hz]
          by_cases h0 : i.toNat * z = 0
          · simp [Addr.add, h0]
          · simp [Addr.add, h0]; omega
      · cases h
  · cases h
theorem sim_indexV {t : Nat} {x x' ix ix' v : Value} (h : indexV T t x ix = some v) (hx : V ρ x x') (hi : V ρ ix ix') (w : World) : ∃ v', (Instr.index t x' ix').run P w = .ok v' w ∧ V ρ v v' := by
  unfold indexV at h
  split at h
  · rename_i s k i hu
    obtain rfl := hi.int_inv
    obtain rfl := hx.string_inv
    split at h
    · rename_i h0
      split at h
      · rename_i c hc
        cases h
        refine ⟨_, ?_, .flat rfl⟩
        have : s[i.toNat]? = some c := by
          rw [← hc]
          simp [getElem?_def]
          rfl
        simp [Instr.index, asIntOf, ok.runUnd hu, h0, this]
      · cases h
    · cases h
  · rename_i len elem cs k i hu
    obtain rfl := hi.int_inv
    obtain ⟨b, rfl, hb⟩ := hx.agg_inv
    split at h
    · cases h
    · rename_i z hz
      split at h
      · rename_i h0
        obtain ⟨v', h1, h2⟩ := sim_partV ok h hb w
        exact ⟨v', by simpa [Instr.index, asIntOf, ok.runUnd hu, h0, ok.runSize hz] using h1, h2⟩
      · cases h
  · cases h
end
end Go.Ev
namespace Go.Ev
theorem foldl_zipIdx (off : Nat) : ∀ (l : List Value) (k : Nat) (cells : Array Value), off + k + l.length ≤ cells.size →
    ((l.zipIdx k).foldl (fun cs (p : Value × Nat) => cs.setIfInBounds (off + p.2) p.1) cells).toList = cells.toList.take (off + k) ++ l ++ cells.toList.drop (off + k + l.length)
  | [], k, cells, h => by simp
  | c :: l, k, cells, h => by
    simp only [List.zipIdx_cons, List.foldl_cons]
    rw [foldl_zipIdx off l (k + 1) _ (by simp at h ⊢; omega)]
    simp at h
    have e : (cells.setIfInBounds (off + k) c).toList = cells.toList.set (off + k) c := by simp
    rw [e]
    have h1 : (cells.toList.set (off + k) c).take (off + (k + 1)) = cells.toList.take (off + k) ++ [c] := by
      rw [show off + (k + 1) = (off + k) + 1 by omega, List.take_add_one]
      simp [List.take_set, List.getElem?_set]
      have : off + k < cells.size := by omega
      simp [this]
      rw [List.set_eq_of_length_le (by simp; omega)]
    have h2 : (cells.toList.set (off + k) c).drop (off + (k + 1) + l.length) = cells.toList.drop (off + k + (c :: l).length) := by
      rw [List.drop_set_of_lt (by omega)]
      simp
      congr 1
      omega
    rw [h1, h2]
    simp
theorem fill_lay {ρ : Ren} {place : Nat → Option (Nat × Nat)} : ∀ {ps : List (Nat × Value)} {ps' : List (Nat × Value)} {cs cs' l : List Value}, lay place cs ps = some l → All2 (V ρ) cs cs' →
    All2 (fun (p q : Nat × Value) => p.1 = q.1 ∧ V ρ p.2 q.2) ps ps' → ∃ l', Instr.fill place cs'.toArray ps' = some l'.toArray ∧ All2 (V ρ) l l'
  | [], _, cs, cs', l, h, hc, hp => by
    cases hp
    simp [lay] at h
    subst h
    exact ⟨cs', rfl, hc⟩
  | (i, v) :: ps, _, cs, cs', l, h, hc, hp => by
    cases hp with
    | cons hq ht =>
      rename_i q ps'
      obtain ⟨j, v'⟩ := q
      obtain ⟨rfl, hv⟩ := hq
      simp only [lay] at h
      cases hpl : place i with
      | none => simp [hpl] at h
      | some p =>
        obtain ⟨off, size⟩ := p
        simp only [hpl] at h
        cases hb : (Nat.beq v.cells.size size && Nat.ble (off + size) cs.length) with
        | false => simp [hb] at h
        | true =>
          simp only [hb, cond_true] at h
          simp only [Bool.and_eq_true] at hb
          have hsz := Nat.eq_of_beq_eq_true hb.1
          have hle := Nat.le_of_ble_eq_true hb.2
          have hcl := hv.cells
          have hs' : v'.cells.size = size := by
            have := hcl.length
            simp at this
            omega
          have hlen := hc.length
          obtain ⟨l', h1, h2⟩ := fill_lay (ps' := ps') (cs' := cs'.take off ++ v'.cells.toList ++ cs'.drop (off + size)) h (((hc.take off).append hcl).append (hc.drop (off + size))) ht
          refine ⟨l', ?_, h2⟩
          simp only [Instr.fill, hpl]
          rw [if_neg (by simp [hs']; omega)]
          rw [← h1]
          congr 1
          apply Array.ext'
          have hf := foldl_zipIdx off v'.cells.toList 0 cs'.toArray (by simp; omega)
          rw [← Array.foldl_toList]
          simp only [Array.toList_zipIdx]
          simp only [Nat.add_zero] at hf
          rw [show (v'.cells.toList.zipIdx 0) = v'.cells.toList.zipIdx from rfl] at hf
          have e2 : v'.cells.toList.length = size := by simpa using hs'
          rw [e2] at hf
          simpa using hf
section
variable {T : Tab} {P : Program} (ok : T.Ok P) {ρ : Ren}
include ok
theorem run_places' : ∀ {fs : List Field} {pl : List (Nat × Nat)}, places T fs = some pl → fs.mapM (fun f => (P.info? f.type).map fun i => (f.offset, i.size)) = some pl
  | [], pl, h => by simp [places] at h; subst h; rfl
  | f :: fs, pl, h => by
    simp only [places] at h
    split at h
    · rename_i n l hn hl
      cases h
      obtain ⟨i, hi, rfl⟩ := ok.size hn
      have := run_places' hl
      simp [List.mapM_cons, hi, this]
    · cases h
theorem sim_build {t : Nat} {ps ps' : List (Nat × Value)} {v : Value} (h : build T t ps = some v) (hp : All2 (fun (p q : Nat × Value) => p.1 = q.1 ∧ V ρ p.2 q.2) ps ps') (w : World) :
    ∃ v', (Instr.build t ps'.toArray).run P w = .ok v' w ∧ V ρ v v' := by
  unfold build at h
  split at h
  · rename_i z fields hz hu
    cases hc : closedC z with
    | false => simp [hc] at h
    | true =>
      simp only [hc, cond_true] at h
      split at h
      · cases h
      · rename_i pl hpl
        split at h
        · cases h
        · rename_i l hl
          cases h
          obtain ⟨l', h1, h2⟩ := fill_lay hl (V.closed hc : V ρ z z).cells hp
          refine ⟨.agg l'.toArray, ?_, .agg (by simpa using h2)⟩
          obtain ⟨i, hi, hzi⟩ := ok.zero hz
          refine run_build w t _ _ ?_
          have e : (fun x => pl[x]?) = (fun (x : Nat) => pl.toArray[x]?) := by funext x; simp
          simp only [Program.built, hi, ok.und hu, hzi, run_places' ok hpl]
          rw [← h1]
          simp
  · rename_i z n elem hz hu
    cases hc : closedC z with
    | false => simp [hc] at h
    | true =>
      simp only [hc, cond_true] at h
      split at h
      · cases h
      · rename_i k hk
        split at h
        · cases h
        · rename_i l hl
          cases h
          obtain ⟨l', h1, h2⟩ := fill_lay hl (V.closed hc : V ρ z z).cells hp
          refine ⟨.agg l'.toArray, ?_, .agg (by simpa using h2)⟩
          obtain ⟨i, hi, hzi⟩ := ok.zero hz
          obtain ⟨j, hj, rfl⟩ := ok.size hk
          refine run_build w t _ _ ?_
          simp only [Program.built, hi, ok.und hu, hzi, hj]
          rw [← h1]
  · cases h
end
def OR (ρ : Ren) (e : Operand → Option Value) (g : Operand → Value) : Prop := ∀ x v, e x = some v → V ρ v (g x)
theorem parts_rel {ρ : Ren} {e : Operand → Option Value} {g : Operand → Value} (he : OR ρ e g) : ∀ {l : List (Nat × Operand)} {ps : List (Nat × Value)}, parts e l = some ps →
    All2 (fun (p q : Nat × Value) => p.1 = q.1 ∧ V ρ p.2 q.2) ps (l.map fun (p : Nat × Operand) => (p.1, g p.2))
  | [], ps, h => by simp [parts] at h; subst h; exact .nil
  | (i, x) :: l, ps, h => by
    simp only [parts] at h
    split at h
    · rename_i v r hv hr
      cases h
      exact .cons ⟨rfl, he _ _ hv⟩ (parts_rel he hr)
    · cases h
theorem args_rel {ρ : Ren} {e : Operand → Option Value} {g : Operand → Value} (he : OR ρ e g) : ∀ {l : List Operand} {ps : List Value}, args e l = some ps → All2 (V ρ) ps (l.map g)
  | [], ps, h => by simp [args] at h; subst h; exact .nil
  | x :: l, ps, h => by
    simp only [args] at h
    split at h
    · rename_i v r hv hr
      cases h
      exact .cons (he _ _ hv) (args_rel he hr)
    · cases h
theorem optV_rel {ρ : Ren} {e : Operand → Option Value} {g : Operand → Value} (he : OR ρ e g) {x : Option Operand} {v : Option Value} (h : optV e x = some v) : OV ρ v (x.map g) := by
  cases x with
  | none => simp [optV] at h; subst h; trivial
  | some x =>
    simp only [optV] at h
    split at h
    · rename_i u hu; cases h; exact he _ _ hu
    · cases h
theorem simP {T : Tab} {P : Program} (ok : T.Ok P) {ρ : Ren} (hS : ρ.sym = T.sym) {e : Operand → Option Value} {g : Operand → Value} (he : OR ρ e g) {o : Oper} {v : Value} (h : opP T e o.op = some v) (w : World) :
    ∃ v', (execOp g o).run P w = .ok (.value v') w ∧ V ρ v v' := by
  unfold execOp
  unfold opP at h
  split at h
  · rename_i x hop; simp only [hop]; exact ⟨g x, rfl, he _ _ h⟩
  · rename_i x hop; simp only [hop]; exact ⟨g x, rfl, he _ _ h⟩
  · rename_i c a b hop
    simp only [hop]
    unfold pick at h
    split at h
    · rename_i hc
      have := (he _ _ hc).bool_inv
      exact ⟨g a, by simp [this, asBool], he _ _ h⟩
    · rename_i hc
      have := (he _ _ hc).bool_inv
      exact ⟨g b, by simp [this, asBool], he _ _ h⟩
    · cases h
  · rename_i op t x y yt hop
    simp only [hop]
    split at h
    · rename_i a b ha hb
      obtain ⟨v', h1, h2⟩ := sim_binV ok hS (x := x) (y := y) rfl h (he _ _ ha) (he _ _ hb) w
      refine ⟨v', ?_, h2⟩
      simp only [Sem.run_bind] at h1 ⊢
      simp only [h1, Result.andThen_ok, Sem.run_pure]
    · cases h
  · rename_i op t x hop
    simp only [hop]
    split at h
    · rename_i a ha
      obtain ⟨h1, h2⟩ := sim_unV (P := P) h (he _ _ ha) w
      exact ⟨v, by simp [h1], h2⟩
    · cases h
  · rename_i t x i hop
    simp only [hop]
    split at h
    · rename_i a ha
      obtain ⟨v', h1, h2⟩ := sim_fieldAt ok h (he _ _ ha) w
      exact ⟨v', by simp [h1], h2⟩
    · cases h
  · rename_i t x i hop
    simp only [hop]
    split at h
    · rename_i a ha
      obtain ⟨v', h1, h2⟩ := sim_fieldV ok h (he _ _ ha) w
      exact ⟨v', by simp [h1], h2⟩
    · cases h
  · rename_i t x i hop
    simp only [hop]
    split at h
    · rename_i a b ha hb
      obtain ⟨v', h1, h2⟩ := sim_indexAt ok h (he _ _ ha) (he _ _ hb) w
      exact ⟨v', by simp [h1], h2⟩
    · cases h
  · rename_i t x i hop
    simp only [hop]
    split at h
    · rename_i a b ha hb
      obtain ⟨v', h1, h2⟩ := sim_indexV ok h (he _ _ ha) (he _ _ hb) w
      exact ⟨v', by simp [h1], h2⟩
    · cases h
  · rename_i x i hop
    simp only [hop]
    split at h
    · rename_i vs hx
      obtain ⟨b, hb, hv⟩ := (he _ _ hx).tuple_inv
      obtain ⟨y, hy, hvy⟩ := hv.get h
      exact ⟨y, by simp [hb, Instr.extract]; rw [show b[i]? = some y by simpa using hy]; rfl, hvy⟩
    · cases h
  · rename_i x hop
    simp only [hop]
    split at h
    · rename_i a hx
      cases h
      have hv := he _ _ hx
      have := hv.ptr_inv
      generalize g x = gx at *
      cases this with
      | same hf => exact ⟨_, rfl, hv⟩
      | ptr => exact ⟨_, rfl, hv⟩
    · rename_i f a b hx
      cases h
      have hv := he _ _ hx
      obtain ⟨x', y', e1, _⟩ := hv.func_inv
      rw [e1] at hv ⊢
      exact ⟨_, rfl, hv⟩
    · rename_i t u hx
      cases h
      have hv := he _ _ hx
      obtain ⟨x', e1, _⟩ := hv.iface_inv
      rw [e1] at hv ⊢
      exact ⟨_, rfl, hv⟩
    · cases h
  · rename_i fn first captured hop
    simp only [hop]
    split at h
    · rename_i l r hl hr
      cases h
      exact ⟨.func fn (first.map g) (captured.map g), by simp [Instr.makeFunc], .func (by simpa using args_rel he hl) (by simpa using args_rel he hr)⟩
    · cases h
  · rename_i t x hop
    simp only [hop]
    split at h
    · rename_i d a hd ha
      cases hi : isIface d with
      | true => simp [hi] at h
      | false =>
        simp [hi] at h
        subst h
        refine ⟨.iface t (g x), ?_, .iface (he _ _ ha)⟩
        simp only [Instr.makeInterface, Sem.run_bind, ok.runUnd hd, Result.andThen_ok]
        cases d <;> first | (simp [isIface] at hi; done) | rfl
    · cases h
  · rename_i t ps hop
    simp only [hop]
    split at h
    · rename_i l hl
      obtain ⟨v', h1, h2⟩ := sim_build ok h (parts_rel he hl) w
      refine ⟨v', ?_, h2⟩
      have e1 : (List.map (fun (p : Nat × Operand) => (p.1, g p.2)) ps.toList).toArray = ps.map fun (p : Nat × Operand) => (p.1, g p.2) := by
        apply Array.ext'; simp
      rw [e1] at h1
      simp only [Sem.run_bind]
      rw [h1]
      rfl
    · cases h
  · cases h
end Go.Ev
