/-
  The relation between the evaluator's values and blocks and the machine's. Definitions and their small laws.
-/
import Derived.Test.YtmmojhbboomgoaaGreatEvCore
namespace Go.Ev

inductive All2 {α β : Type} (R : α → β → Prop) : List α → List β → Prop
  | nil : All2 R [] []
  | cons {x y l r} (h : R x y) (t : All2 R l r) : All2 R (x :: l) (y :: r)

namespace All2
variable {α β : Type} {R S : α → β → Prop}

theorem mono (h : ∀ x y, R x y → S x y) {l : List α} {r : List β} (a : All2 R l r) : All2 S l r := by
  induction a with
  | nil => exact .nil
  | cons h' _ ih => exact .cons (h _ _ h') ih

theorem length {l : List α} {r : List β} (a : All2 R l r) : l.length = r.length := by
  induction a with
  | nil => rfl
  | cons _ _ ih => simp [ih]

theorem get {l : List α} {r : List β} (a : All2 R l r) : ∀ {i : Nat} {x : α}, l[i]? = some x → ∃ y, r[i]? = some y ∧ R x y := by
  induction a with
  | nil => intro i x h; simp at h
  | cons h' _ ih =>
    intro i x h
    cases i with
    | zero => simp at h; subst h; exact ⟨_, by simp, h'⟩
    | succ i => simp at h; obtain ⟨y, hy, hr⟩ := ih h; exact ⟨y, by simpa using hy, hr⟩

theorem append {l l' : List α} {r r' : List β} (a : All2 R l r) (b : All2 R l' r') : All2 R (l ++ l') (r ++ r') := by
  induction a with
  | nil => exact b
  | cons h _ ih => exact .cons h ih

theorem take {l : List α} {r : List β} (a : All2 R l r) : ∀ n, All2 R (l.take n) (r.take n) := by
  induction a with
  | nil => intro n; simp; exact .nil
  | cons h _ ih =>
    intro n
    cases n with
    | zero => simp; exact .nil
    | succ n => simp; exact .cons h (ih n)

theorem drop {l : List α} {r : List β} (a : All2 R l r) : ∀ n, All2 R (l.drop n) (r.drop n) := by
  induction a with
  | nil => intro n; simp; exact .nil
  | cons h t ih =>
    intro n
    cases n with
    | zero => simp; exact .cons h t
    | succ n => simp; exact ih n

theorem refl {R : α → α → Prop} : ∀ (l : List α), (∀ x ∈ l, R x x) → All2 R l l
  | [], _ => .nil
  | x :: l, h => .cons (h x (by simp)) (refl l fun y hy => h y (by simp [hy]))

theorem of_get : ∀ {l : List α} {r : List β}, l.length = r.length → (∀ (i : Nat) (x : α) (y : β), l[i]? = some x → r[i]? = some y → R x y) → All2 R l r
  | [], [], _, _ => .nil
  | x :: l, y :: r, hl, h => .cons (h 0 x y (by simp) (by simp)) (of_get (by simpa using hl) fun i a b ha hb => h (i + 1) a b (by simpa using ha) (by simpa using hb))

theorem map_right {γ : Type} {f : γ → β} : ∀ {l : List α} {r : List γ}, All2 (fun x y => R x (f y)) l r → All2 R l (r.map f) := by
  intro l r a
  induction a with
  | nil => exact .nil
  | cons h _ ih => exact .cons h ih
end All2

structure Loc where
  /-- the machine's block -/
  r : Nat
  /-- the first cell that lies there -/
  d : Nat
  /-- how many cells the block has -/
  s : Nat

structure Ren where
  loc : Nat → Nat → Option Loc
  esz : Nat → Nat
  sym : Nat → Option Value

def Ren.le (ρ ρ' : Ren) : Prop := (∀ b v l, ρ.loc b v = some l → ρ'.loc b v = some l ∧ ρ'.esz b = ρ.esz b) ∧ ρ'.sym = ρ.sym

theorem Ren.le_refl (ρ : Ren) : ρ.le ρ := ⟨fun _ _ _ h => ⟨h, rfl⟩, rfl⟩
theorem Ren.le_trans {a b c : Ren} (h : a.le b) (h' : b.le c) : a.le c := ⟨fun x v l hl =>
  let ⟨h1, e1⟩ := h.1 x v l hl
  let ⟨h2, e2⟩ := h'.1 x v l h1
  ⟨h2, e2.trans e1⟩, h'.2.trans h.2⟩

/-- what a symbol may stand for -/
def symOk : Value → Bool
  | .int _ _ | .string _ => true
  | _ => false

inductive FR (ρ : Ren) : Value → Value → Prop
  | same {v : Value} (h : flat v = true) : FR ρ v v
  | ptr {b off ver : Nat} {l : Loc} (h : ρ.loc b ver = some l) (hd : l.d ≤ off) :
      FR ρ (.pointer (some ⟨b, off, some ver⟩)) (.pointer (some ⟨l.r, off - l.d, none⟩))
  | slice {b off ver len cap cap' o' : Nat} {l : Loc} (h : ρ.loc b ver = some l) (hd : l.d ≤ off) (ho : o' = off - l.d ∨ (len = 0 ∧ cap' = 0))
      (hs : off - l.d + cap' * ρ.esz b ≤ l.s) (hl : len ≤ cap') (hc : cap = unk ∨ cap = cap') :
      FR ρ (.slice (some ⟨b, off, some ver⟩) len cap) (.slice (some ⟨l.r, o', none⟩) len cap')
  | res {fk : FloatKind} {m r n : Nat} (h1 : n ≤ 255) (h2 : n % m = r) : FR ρ (.complex fk m r) (.int (resK fk) n)
  | sym {i : Nat} {v : Value} (h : ρ.sym i = some v) (hv : symOk v = true) : FR ρ (.chan (some i)) v
  | map {m : Nat} {l : Loc} (h : ρ.loc m 0 = some l) : FR ρ (.map (some m)) (.map (some l.r))

theorem FR.mono {ρ ρ' : Ren} (hr : ρ.le ρ') {v v' : Value} (h : FR ρ v v') : FR ρ' v v' := by
  cases h with
  | same h => exact .same h
  | ptr h hd => exact .ptr (hr.1 _ _ _ h).1 hd
  | slice h hd ho hs hl hc => exact .slice (hr.1 _ _ _ h).1 hd ho (by rw [(hr.1 _ _ _ h).2]; exact hs) hl hc
  | res h1 h2 => exact .res h1 h2
  | sym h hv => exact .sym (by rw [hr.2]; exact h) hv
  | map h => exact .map (hr.1 _ _ _ h).1

def VN (ρ : Ren) : Nat → Value → Value → Prop
  | 0, v, v' => FR ρ v v'
  | n + 1, v, v' => FR ρ v v' ∨
      (∃ a b : Array Value, v = .agg a ∧ v' = .agg b ∧ All2 (VN ρ n) a.toList b.toList) ∨
      (∃ a b : Array Value, v = .tuple a ∧ v' = .tuple b ∧ All2 (VN ρ n) a.toList b.toList) ∨
      (∃ (f : Fn) (x y x' y' : Array Value), v = .func f x y ∧ v' = .func f x' y' ∧ All2 (VN ρ n) x.toList x'.toList ∧ All2 (VN ρ n) y.toList y'.toList) ∨
      (∃ (t : TypeId) (x x' : Value), v = .iface t x ∧ v' = .iface t x' ∧ VN ρ n x x')

theorem VN.mono {ρ ρ' : Ren} (hr : ρ.le ρ') : ∀ {n : Nat} {v v' : Value}, VN ρ n v v' → VN ρ' n v v'
  | 0, _, _, h => FR.mono hr h
  | n + 1, _, _, h => by
    rcases h with h | ⟨a, b, e1, e2, h⟩ | ⟨a, b, e1, e2, h⟩ | ⟨f, x, y, x', y', e1, e2, h1, h2⟩ | ⟨t, x, x', e1, e2, h⟩
    · exact .inl (FR.mono hr h)
    · exact .inr (.inl ⟨a, b, e1, e2, h.mono fun _ _ => VN.mono hr⟩)
    · exact .inr (.inr (.inl ⟨a, b, e1, e2, h.mono fun _ _ => VN.mono hr⟩))
    · exact .inr (.inr (.inr (.inl ⟨f, x, y, x', y', e1, e2, h1.mono fun _ _ => VN.mono hr, h2.mono fun _ _ => VN.mono hr⟩)))
    · exact .inr (.inr (.inr (.inr ⟨t, x, x', e1, e2, VN.mono hr h⟩)))

theorem VN.up {ρ : Ren} : ∀ {n : Nat} {v v' : Value}, VN ρ n v v' → VN ρ (n + 1) v v'
  | 0, _, _, h => .inl h
  | n + 1, _, _, h => by
    rcases h with h | ⟨a, b, e1, e2, h⟩ | ⟨a, b, e1, e2, h⟩ | ⟨f, x, y, x', y', e1, e2, h1, h2⟩ | ⟨t, x, x', e1, e2, h⟩
    · exact .inl h
    · exact .inr (.inl ⟨a, b, e1, e2, h.mono fun _ _ => VN.up⟩)
    · exact .inr (.inr (.inl ⟨a, b, e1, e2, h.mono fun _ _ => VN.up⟩))
    · exact .inr (.inr (.inr (.inl ⟨f, x, y, x', y', e1, e2, h1.mono fun _ _ => VN.up, h2.mono fun _ _ => VN.up⟩)))
    · exact .inr (.inr (.inr (.inr ⟨t, x, x', e1, e2, VN.up h⟩)))

theorem VN.add {ρ : Ren} {n : Nat} {v v' : Value} (h : VN ρ n v v') : ∀ k, VN ρ (n + k) v v'
  | 0 => h
  | k + 1 => (VN.add h k).up

/-- An evaluator's value and the machine's. -/
def V (ρ : Ren) (v v' : Value) : Prop := ∃ n, VN ρ n v v'

theorem V.mono {ρ ρ' : Ren} (hr : ρ.le ρ') {v v' : Value} : V ρ v v' → V ρ' v v' := fun ⟨n, h⟩ => ⟨n, h.mono hr⟩

theorem all2_V {ρ : Ren} {l r : List Value} (h : All2 (V ρ) l r) : ∃ n, All2 (VN ρ n) l r := by
  induction h with
  | nil => exact ⟨0, .nil⟩
  | cons h _ ih =>
    obtain ⟨n, hn⟩ := h
    obtain ⟨m, hm⟩ := ih
    refine ⟨n + m, .cons (hn.add m) (hm.mono fun _ _ h => ?_)⟩
    have := h.add n
    rwa [Nat.add_comm] at this

theorem V.fr {ρ : Ren} {v v' : Value} (h : FR ρ v v') : V ρ v v' := ⟨0, h⟩
theorem V.flat {ρ : Ren} {v : Value} (h : flat v = true) : V ρ v v := .fr (.same h)
theorem V.agg {ρ : Ren} {a b : Array Value} (h : All2 (V ρ) a.toList b.toList) : V ρ (.agg a) (.agg b) :=
  let ⟨n, hn⟩ := all2_V h
  ⟨n + 1, .inr (.inl ⟨a, b, rfl, rfl, hn⟩)⟩
theorem V.tuple {ρ : Ren} {a b : Array Value} (h : All2 (V ρ) a.toList b.toList) : V ρ (.tuple a) (.tuple b) :=
  let ⟨n, hn⟩ := all2_V h
  ⟨n + 1, .inr (.inr (.inl ⟨a, b, rfl, rfl, hn⟩))⟩
theorem V.iface {ρ : Ren} {t : TypeId} {x y : Value} (h : V ρ x y) : V ρ (.iface t x) (.iface t y) :=
  let ⟨n, hn⟩ := h
  ⟨n + 1, .inr (.inr (.inr (.inr ⟨t, x, y, rfl, rfl, hn⟩)))⟩
theorem V.func {ρ : Ren} {f : Fn} {x y x' y' : Array Value} (h : All2 (V ρ) x.toList x'.toList) (h' : All2 (V ρ) y.toList y'.toList) : V ρ (.func f x y) (.func f x' y') := by
  obtain ⟨n, hn⟩ := all2_V h
  obtain ⟨m, hm⟩ := all2_V h'
  refine ⟨n + m + 1, .inr (.inr (.inr (.inl ⟨f, x, y, x', y', rfl, rfl, hn.mono fun _ _ h => h.add m, hm.mono fun _ _ h => ?_⟩)))⟩
  have := h.add n
  rwa [Nat.add_comm] at this

theorem V.inv {ρ : Ren} {v v' : Value} (h : V ρ v v') : FR ρ v v' ∨
    (∃ a b : Array Value, v = .agg a ∧ v' = .agg b ∧ All2 (V ρ) a.toList b.toList) ∨
    (∃ a b : Array Value, v = .tuple a ∧ v' = .tuple b ∧ All2 (V ρ) a.toList b.toList) ∨
    (∃ (f : Fn) (x y x' y' : Array Value), v = .func f x y ∧ v' = .func f x' y' ∧ All2 (V ρ) x.toList x'.toList ∧ All2 (V ρ) y.toList y'.toList) ∨
    (∃ (t : TypeId) (x x' : Value), v = .iface t x ∧ v' = .iface t x' ∧ V ρ x x') := by
  obtain ⟨n, h⟩ := h
  cases n with
  | zero => exact .inl h
  | succ n =>
    rcases h with h | ⟨a, b, e1, e2, h⟩ | ⟨a, b, e1, e2, h⟩ | ⟨f, x, y, x', y', e1, e2, h1, h2⟩ | ⟨t, x, x', e1, e2, h⟩
    · exact .inl h
    · exact .inr (.inl ⟨a, b, e1, e2, h.mono fun _ _ h => ⟨n, h⟩⟩)
    · exact .inr (.inr (.inl ⟨a, b, e1, e2, h.mono fun _ _ h => ⟨n, h⟩⟩))
    · exact .inr (.inr (.inr (.inl ⟨f, x, y, x', y', e1, e2, h1.mono fun _ _ h => ⟨n, h⟩, h2.mono fun _ _ h => ⟨n, h⟩⟩)))
    · exact .inr (.inr (.inr (.inr ⟨t, x, x', e1, e2, n, h⟩)))

section inv
variable {ρ : Ren} {v' : Value}
theorem V.int_inv {k : IntKind} {n : Int} (h : V ρ (.int k n) v') : v' = .int k n := by
  rcases h.inv with h | ⟨_, _, e, _⟩ | ⟨_, _, e, _⟩ | ⟨_, _, _, _, _, e, _⟩ | ⟨_, _, _, e, _⟩ <;> first | (cases e; done) | (cases h; rfl)
theorem V.bool_inv {b : Bool} (h : V ρ (.bool b) v') : v' = .bool b := by
  rcases h.inv with h | ⟨_, _, e, _⟩ | ⟨_, _, e, _⟩ | ⟨_, _, _, _, _, e, _⟩ | ⟨_, _, _, e, _⟩ <;> first | (cases e; done) | (cases h; rfl)
theorem V.string_inv {s : ByteArray} (h : V ρ (.string s) v') : v' = .string s := by
  rcases h.inv with h | ⟨_, _, e, _⟩ | ⟨_, _, e, _⟩ | ⟨_, _, _, _, _, e, _⟩ | ⟨_, _, _, e, _⟩ <;> first | (cases e; done) | (cases h; rfl)
theorem V.nilFunc_inv (h : V ρ .nilFunc v') : v' = .nilFunc := by
  rcases h.inv with h | ⟨_, _, e, _⟩ | ⟨_, _, e, _⟩ | ⟨_, _, _, _, _, e, _⟩ | ⟨_, _, _, e, _⟩ <;> first | (cases e; done) | (cases h; rfl)
theorem V.nilIface_inv (h : V ρ .nilIface v') : v' = .nilIface := by
  rcases h.inv with h | ⟨_, _, e, _⟩ | ⟨_, _, e, _⟩ | ⟨_, _, _, _, _, e, _⟩ | ⟨_, _, _, e, _⟩ <;> first | (cases e; done) | (cases h; rfl)
theorem V.agg_inv {a : Array Value} (h : V ρ (.agg a) v') : ∃ b : Array Value, v' = .agg b ∧ All2 (V ρ) a.toList b.toList := by
  rcases h.inv with h | ⟨_, _, e, e2, h⟩ | ⟨_, _, e, _⟩ | ⟨_, _, _, _, _, e, _⟩ | ⟨_, _, _, e, _⟩
  · cases h with | same hh => simp [Ev.flat] at hh
  · cases e; exact ⟨_, e2, h⟩
  all_goals cases e
theorem V.tuple_inv {a : Array Value} (h : V ρ (.tuple a) v') : ∃ b : Array Value, v' = .tuple b ∧ All2 (V ρ) a.toList b.toList := by
  rcases h.inv with h | ⟨_, _, e, _⟩ | ⟨_, _, e, e2, h⟩ | ⟨_, _, _, _, _, e, _⟩ | ⟨_, _, _, e, _⟩
  · cases h with | same hh => simp [Ev.flat] at hh
  · cases e
  · cases e; exact ⟨_, e2, h⟩
  all_goals cases e
theorem V.func_inv {f : Fn} {x y : Array Value} (h : V ρ (.func f x y) v') : ∃ x' y' : Array Value, v' = .func f x' y' ∧ All2 (V ρ) x.toList x'.toList ∧ All2 (V ρ) y.toList y'.toList := by
  rcases h.inv with h | ⟨_, _, e, _⟩ | ⟨_, _, e, _⟩ | ⟨_, _, _, _, _, e, e2, h1, h2⟩ | ⟨_, _, _, e, _⟩
  · cases h with | same hh => simp [Ev.flat] at hh
  · cases e
  · cases e
  · cases e; exact ⟨_, _, e2, h1, h2⟩
  · cases e
theorem V.iface_inv {t : TypeId} {x : Value} (h : V ρ (.iface t x) v') : ∃ x', v' = .iface t x' ∧ V ρ x x' := by
  rcases h.inv with h | ⟨_, _, e, _⟩ | ⟨_, _, e, _⟩ | ⟨_, _, _, _, _, e, _⟩ | ⟨_, _, _, e, e2, h⟩
  · cases h with | same hh => simp [Ev.flat] at hh
  · cases e
  · cases e
  · cases e
  · cases e; exact ⟨_, e2, h⟩
theorem V.ptr_inv {a : Option Addr} (h : V ρ (.pointer a) v') : FR ρ (.pointer a) v' := by
  rcases h.inv with h | ⟨_, _, e, _⟩ | ⟨_, _, e, _⟩ | ⟨_, _, _, _, _, e, _⟩ | ⟨_, _, _, e, _⟩ <;> first | exact h | (cases e; done)
theorem V.slice_inv {a : Option Addr} {l c : Nat} (h : V ρ (.slice a l c) v') : FR ρ (.slice a l c) v' := by
  rcases h.inv with h | ⟨_, _, e, _⟩ | ⟨_, _, e, _⟩ | ⟨_, _, _, _, _, e, _⟩ | ⟨_, _, _, e, _⟩ <;> first | exact h | (cases e; done)
theorem V.map_inv {m : Option Nat} (h : V ρ (.map m) v') : FR ρ (.map m) v' := by
  rcases h.inv with h | ⟨_, _, e, _⟩ | ⟨_, _, e, _⟩ | ⟨_, _, _, _, _, e, _⟩ | ⟨_, _, _, e, _⟩ <;> first | exact h | (cases e; done)
theorem V.nilPtr_inv (h : V ρ (.pointer none) v') : v' = .pointer none := by
  have := h.ptr_inv; cases this; rfl
theorem V.newPtr_inv {b off ver : Nat} (h : V ρ (.pointer (some ⟨b, off, some ver⟩)) v') : ∃ l, ρ.loc b ver = some l ∧ l.d ≤ off ∧ v' = .pointer (some ⟨l.r, off - l.d, none⟩) := by
  have := h.ptr_inv
  cases this with
  | same hh => simp [Ev.flat] at hh
  | ptr hh hd => exact ⟨_, hh, hd, rfl⟩
theorem V.oldPtr_inv {b off : Nat} (h : V ρ (.pointer (some ⟨b, off, none⟩)) v') : v' = .pointer (some ⟨b, off, none⟩) := by
  have := h.ptr_inv
  cases this; rfl
theorem V.nilSlice_inv {l c : Nat} (h : V ρ (.slice none l c) v') : v' = .slice none l c := by
  have := h.slice_inv; cases this; rfl
theorem V.oldSlice_inv {b off l c : Nat} (h : V ρ (.slice (some ⟨b, off, none⟩) l c) v') : v' = .slice (some ⟨b, off, none⟩) l c := by
  have := h.slice_inv
  cases this; rfl
theorem V.newSlice_inv {b off ver len cap : Nat} (h : V ρ (.slice (some ⟨b, off, some ver⟩) len cap) v') :
    ∃ l o' cap', ρ.loc b ver = some l ∧ l.d ≤ off ∧ (o' = off - l.d ∨ (len = 0 ∧ cap' = 0)) ∧ off - l.d + cap' * ρ.esz b ≤ l.s ∧ len ≤ cap' ∧ (cap = unk ∨ cap = cap') ∧ v' = .slice (some ⟨l.r, o', none⟩) len cap' := by
  have := h.slice_inv
  cases this with
  | same hh => simp [Ev.flat] at hh
  | slice hh hd ho hs hl hc => exact ⟨_, _, _, hh, hd, ho, hs, hl, hc, rfl⟩
theorem V.nilMap_inv (h : V ρ (.map none) v') : v' = .map none := by
  have := h.map_inv; cases this; rfl
theorem V.newMap_inv {m : Nat} (h : V ρ (.map (some m)) v') : ∃ l, ρ.loc m 0 = some l ∧ v' = .map (some l.r) := by
  have := h.map_inv
  cases this with
  | same hh => simp [Ev.flat] at hh
  | map hh => exact ⟨_, hh, rfl⟩
end inv

theorem V.isCell {ρ : Ren} {v v' : Value} (h : V ρ v v') : isCell v' = isCell v := by
  rcases h.inv with h | ⟨_, _, rfl, rfl, _⟩ | ⟨_, _, rfl, rfl, _⟩ | ⟨_, _, _, _, _, rfl, rfl, _⟩ | ⟨_, _, _, rfl, rfl, _⟩
  · cases h with
    | sym _ hv => cases v' <;> first | rfl | (simp [symOk] at hv)
    | _ => rfl
  all_goals rfl

theorem cells_of_isCell {v : Value} (h : isCell v = true) : v.cells = #[v] := by
  cases v <;> first | rfl | (simp [Ev.isCell] at h)

theorem flat_isCell {v : Value} (h : flat v = true) : isCell v = true := by
  cases v <;> first | rfl | (simp [flat] at h)

theorem V.closed {ρ : Ren} {v : Value} (h : closedC v = true) : V ρ v v := by
  cases v
  case agg cs => exact .agg (All2.refl _ fun x hx => .flat (by simp only [closedC, List.all_eq_true] at h; exact h x hx))
  case tuple cs => exact .tuple (All2.refl _ fun x hx => .flat (by simp only [closedC, List.all_eq_true] at h; exact h x hx))
  all_goals exact .flat h

theorem V.cells {ρ : Ren} {v v' : Value} (h : V ρ v v') : All2 (V ρ) v.cells.toList v'.cells.toList := by
  by_cases hc : Ev.isCell v = true
  · rw [cells_of_isCell hc, cells_of_isCell (h.isCell.trans hc)]
    exact .cons h .nil
  · cases v with
    | agg a => obtain ⟨b, rfl, hb⟩ := h.agg_inv; exact hb
    | tuple a =>
      obtain ⟨b, rfl, hb⟩ := h.tuple_inv
      exact .cons h .nil
    | _ => simp [Ev.isCell] at hc

/-- Cells that lie in the machine's block. -/
def CR (ρ : Ren) (cs : Tr Value) (n ty : Nat) (l : Loc) (w : World) : Prop :=
  ∃ (c : Array Value) (fz : Nat × Nat), w.heap[l.r]? = some (.cells c ty fz) ∧ c.size = l.s ∧ (∀ i, i < c.size → ¬ (fz.1 ≤ i ∧ i < fz.2)) ∧ n ≤ l.d + l.s ∧
    ∀ i x, l.d ≤ i → i < n → cs.get i = some x → ∃ y, c[i - l.d]? = some y ∧ V ρ x y

def BR (ρ : Ren) (b : Nat) (k : Blk) (w : World) : Prop :=
  match k with
  | .cells cs n ver prev esz ty => ρ.esz b = esz ∧ (∀ i x, cs.get i = some x → i < n) ∧ (∀ v, ver < v → ρ.loc b v = none) ∧
      (∀ l, ρ.loc b ver = some l → CR ρ cs n ty l w) ∧
      (∀ pn, prev = some pn → ∀ v l, v + 1 = ver → ρ.loc b v = some l → pn ≤ n ∧ CR ρ cs pn ty l w)
  | .map es => ∀ l, ρ.loc b 0 = some l → ∃ (en : Array MapEntry) (clock : Nat), w.heap[l.r]? = some (.map en clock) ∧ All2 (fun (x : Value × Value) (e : MapEntry) => e.key = x.1 ∧ V ρ x.2 e.val) es en.toList
  | .dead => True

/-- The evaluator's memory and the machine's world. -/
structure HR (w0 : World) (ρ : Ren) (H : Heap) (w : World) : Prop where
  old : ∀ r, r < w0.heap.size → w.heap[r]? = w0.heap[r]?
  big : w0.heap.size ≤ w.heap.size
  io : w.os = w0.os ∧ w.output = w0.output
  dom : ∀ b v l, ρ.loc b v = some l → b < H.next ∧ w0.heap.size ≤ l.r ∧ l.r < w.heap.size
  inj : ∀ b v l b' v' l', ρ.loc b v = some l → ρ.loc b' v' = some l' → l.r = l'.r → b = b'
  blk : ∀ b v l, ρ.loc b v = some l → ∃ k, H.blks.get b = some k ∧ BR ρ b k w

/-- The evaluator's temporaries and the machine's. -/
def TR (ρ : Ren) (τ : Tr Value) (ts : Array Value) : Prop := ∀ t v, τ.get t = some v → ∃ v', ts[t]? = some v' ∧ V ρ v v'

theorem TR.mono {ρ ρ' : Ren} (hr : ρ.le ρ') {τ : Tr Value} {ts : Array Value} (h : TR ρ τ ts) : TR ρ' τ ts := fun t v ht =>
  let ⟨v', h1, h2⟩ := h t v ht
  ⟨v', h1, h2.mono hr⟩

theorem TR.ev {ρ : Ren} {τ : Tr Value} {a : Act} (h : TR ρ τ a.tmps) {x : Operand} {v : Value} (hx : ev τ x = some v) : V ρ v (a.eval x) := by
  cases x with
  | tmp t =>
    simp only [Ev.ev] at hx
    obtain ⟨v', h1, h2⟩ := h t v hx
    simp only [Act.eval]
    rw [Array.getD_eq_getD_getElem?, h1]
    exact h2
  | const c =>
    simp only [Ev.ev] at hx
    cases hc : closedC c with
    | false => simp [hc] at hx
    | true => simp [hc] at hx; subst hx; exact .closed hc
  | global g => simp [Ev.ev] at hx
  | func f => simp [Ev.ev] at hx; subst hx; exact .func .nil .nil

/-- A value of the symbols' and what it stands for. -/
def SV (S : Nat → Option Value) (v v' : Value) : Prop :=
  (∃ i, v = .chan (some i) ∧ S i = some v' ∧ symOk v' = true) ∨ ((∃ b, v = .bool b) ∨ symOk v = true) ∧ v' = v

/-- What a table says of a program is so. -/
structure Tab.Ok (T : Tab) (P : Program) : Prop where
  fn : ∀ f x, T.fn f = some x → P.funcs[f]? = some x
  info : ∀ t i, T.info t = some i → P.info? t = some i
  eqs : ∀ t, T.eqs t = true → P.stoodInHeld t = false ∧ P.eqGuardType P.depth t = false
  bin : ∀ op x y v, T.bin op x y = some v → ∀ x' y', SV T.sym x x' → SV T.sym y y' → ∃ v', SV T.sym v v' ∧
    ((∃ k a b, x' = .int k a ∧ y' = .int k b ∧ intOp op k a b = some v') ∨ (∃ a b, x' = .string a ∧ y' = .string b ∧ strOp op a b = some v'))
  slen : ∀ i v, T.slen i = some v → ∃ s : ByteArray, T.sym i = some (.string s) ∧ SV T.sym v (.int .i64 s.data.toList.length)
  sconv : ∀ i k v, T.sconv i k = some v → ∃ k0 n, T.sym i = some (.int k0 n) ∧ SV T.sym v (.int k (k.wrap n))

theorem SV.toV {ρ : Ren} {S : Nat → Option Value} (hS : ρ.sym = S) {v v' : Value} (h : SV S v v') : V ρ v v' := by
  rcases h with ⟨i, rfl, h1, h2⟩ | ⟨h, rfl⟩
  · exact .fr (.sym (by rw [hS]; exact h1) h2)
  · refine .flat ?_
    rcases h with ⟨b, rfl⟩ | h
    · rfl
    · cases v' <;> first | rfl | (simp [symOk] at h)

theorem V.toSV {ρ : Ren} {S : Nat → Option Value} (hS : ρ.sym = S) {v v' : Value} (hs : symV v = true) (h : V ρ v v') : SV S v v' := by
  rcases h.inv with h | ⟨_, _, rfl, rfl, _⟩ | ⟨_, _, rfl, rfl, _⟩ | ⟨_, _, _, _, _, rfl, rfl, _⟩ | ⟨_, _, _, rfl, rfl, _⟩
  · cases h with
    | same hf => cases v with
      | int k n => exact .inr ⟨.inr rfl, rfl⟩
      | string s => exact .inr ⟨.inr rfl, rfl⟩
      | chan r => cases r with
        | none => simp [symV] at hs
        | some i => simp [Ev.flat] at hf
      | _ => simp [symV] at hs
    | sym h1 h2 => exact .inl ⟨_, rfl, by rw [← hS]; exact h1, h2⟩
    | _ => simp [symV] at hs
  all_goals simp [symV] at hs

theorem V.sym_inv {ρ : Ren} {S : Nat → Option Value} (hS : ρ.sym = S) {i : Nat} {v' : Value} (h : V ρ (.chan (some i)) v') : S i = some v' ∧ symOk v' = true := by
  rcases V.toSV hS rfl h with ⟨j, e, h1, h2⟩ | ⟨h3, _⟩
  · cases e; exact ⟨h1, h2⟩
  · exfalso
    rcases h3 with ⟨b, e⟩ | h4
    · cases e
    · simp [symOk] at h4

section tab
variable {T : Tab} {P : Program} (ok : T.Ok P)
include ok
theorem Tab.Ok.und {t : Nat} {d : TypeDesc} (h : T.und t = some d) : P.underlying t = some d := by
  unfold Tab.und at h
  unfold Program.underlying
  cases hi : T.info t with
  | none => simp [hi] at h
  | some i =>
    rw [ok.info _ _ hi]
    rw [hi] at h
    cases i with
    | mk desc str size bytes hp al fa zero comparable methods =>
      cases desc with
      | named nm u =>
        simp only at h ⊢
        cases hu : T.info u with
        | none => simp [hu] at h
        | some j => rw [ok.info _ _ hu]; rw [hu] at h; exact h
      | _ => exact h
theorem Tab.Ok.size {t n : Nat} (h : T.size t = some n) : ∃ i, P.info? t = some i ∧ i.size = n := by
  unfold Tab.size at h
  cases hi : T.info t with
  | none => simp [hi] at h
  | some i => exact ⟨i, ok.info _ _ hi, by simpa [hi] using h⟩
theorem Tab.Ok.zero {t : Nat} {z : Value} (h : T.zero t = some z) : ∃ i, P.info? t = some i ∧ i.zero = some z := by
  unfold Tab.zero at h
  cases hi : T.info t with
  | none => simp [hi] at h
  | some i => exact ⟨i, ok.info _ _ hi, by simpa [hi] using h⟩
end tab
end Go.Ev
