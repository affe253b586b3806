/-
  The evaluator once more, typed for the kernel: recursors in the place of matches. It says what the evaluator says: 'evalCallF_eq'.
-/
import Derived.Test.YtmmojhbboomgoaaGreatEvSeat
namespace Go.Ev
set_option linter.unusedSimpArgs false
set_option linter.unusedVariables false
noncomputable section

/-- numbers that no kind cuts -/
def wrapF (k : IntKind) (n : Int) : Int :=
  Int.rec (fun m => Bool.rec (k.wrap (.ofNat m)) (.ofNat m) (Nat.ble m 127)) (fun m => k.wrap (.negSucc m)) n

theorem wrap_le {k : IntKind} {m : Nat} (h : m ≤ 127) : k.wrap (m : Int) = m := by
  have e : ∀ b : Nat, 8 ≤ b → (m : Int) % (2 ^ b : Int) = m := by
    intro b hb
    have h1 : (2 : Nat) ^ 8 ≤ 2 ^ b := Nat.pow_le_pow_right (by omega) hb
    refine Int.emod_eq_of_lt (by omega) ?_
    have h2 : ((2 ^ b : Nat) : Int) = (2 : Int) ^ b := by simp
    rw [← h2]
    omega
  have e2 : ∀ b : Nat, 8 ≤ b → ¬ ((m : Int) ≥ (2 ^ (b - 1) : Int)) := by
    intro b hb
    have h1 : (2 : Nat) ^ 7 ≤ 2 ^ (b - 1) := Nat.pow_le_pow_right (by omega) (by omega)
    have h2 : ((2 ^ (b - 1) : Nat) : Int) = (2 : Int) ^ (b - 1) := by simp
    rw [← h2]
    omega
  have hb : 8 ≤ k.bits := by cases k <;> decide
  simp only [IntKind.wrap, e _ hb]
  simp [e2 _ hb]

theorem wrapF_eq (k : IntKind) (n : Int) : wrapF k n = k.wrap n := by
  cases n with
  | ofNat m =>
    show (Bool.rec (motive := fun _ => Int) (k.wrap (.ofNat m)) (.ofNat m) (Nat.ble m 127)) = _
    cases h : Nat.ble m 127 with
    | false => rfl
    | true => exact (wrap_le (Nat.le_of_ble_eq_true h)).symm
  | negSucc m => rfl

/-- two numbers that are not below nought, by what is said of the two; else in the slow way -/
def nn {α : Type} (x y : Int) (f : Nat → Nat → α) (slow : α) : α :=
  Int.rec (fun a => Int.rec (fun b => f a b) (fun _ => slow) y) (fun _ => slow) x

theorem nn_eq {α : Type} {x y : Int} {f : Nat → Nat → α} {slow : α} (h : ∀ a b : Nat, x = a → y = b → f a b = slow) : nn x y f slow = slow := by
  cases x with
  | ofNat a => cases y with
    | ofNat b => exact h a b rfl rfl
    | negSucc b => rfl
  | negSucc a => rfl

theorem nat_beq (a b : Nat) : Nat.beq a b = decide (a = b) := by
  cases h : Nat.beq a b with
  | true => simp [Nat.eq_of_beq_eq_true h]
  | false => simp [Nat.ne_of_beq_eq_false h]

theorem nat_ble (a b : Nat) : Nat.ble a b = decide (a ≤ b) := by
  cases h : Nat.ble a b with
  | true => simp [Nat.le_of_ble_eq_true h]
  | false =>
    have : ¬ a ≤ b := fun hh => by rw [Nat.ble_eq_true_of_le hh] at h; cases h
    simp [this]

theorem beq_cast (a b : Nat) : Nat.beq a b = ((a : Int) == (b : Int)) := by
  rw [nat_beq]
  by_cases h : a = b
  · subst h; simp
  · have h2 : ¬ (a : Int) = b := by omega
    simp [h, h2]

def intOpF (op : BinOp) (k : IntKind) (x y : Int) : Option Value :=
  BinOp.casesOn op (some (.int k (wrapF k (Int.add x y)))) (some (.int k (wrapF k (Int.sub x y)))) (intOp .mul k x y) (intOp .quo k x y) (intOp .rem k x y) (intOp .and k x y) (intOp .or k x y) (intOp .xor k x y) (intOp .shl k x y) (intOp .shr k x y) (intOp .andNot k x y)
    (some (.bool (nn x y Nat.beq (x == y)))) (some (.bool (nn x y (fun a b => Bool.rec true false (Nat.beq a b)) (x != y)))) (some (.bool (nn x y (fun a b => Nat.ble (Nat.succ a) b) (decide (x < y))))) (some (.bool (nn x y Nat.ble (decide (x ≤ y)))))
    (some (.bool (nn x y (fun a b => Nat.ble (Nat.succ b) a) (decide (x > y))))) (some (.bool (nn x y (fun a b => Nat.ble b a) (decide (x ≥ y)))))

theorem intOpF_eq (op : BinOp) (k : IntKind) (x y : Int) : intOpF op k x y = intOp op k x y := by
  cases op
  case add => show some (Value.int k (wrapF k (x + y))) = _; rw [wrapF_eq]; rfl
  case sub => show some (Value.int k (wrapF k (x - y))) = _; rw [wrapF_eq]; rfl
  case eql => show some (Value.bool (nn x y Nat.beq (x == y))) = _; rw [nn_eq]; rfl; rintro a b rfl rfl; exact beq_cast a b
  case neq =>
    show some (Value.bool (nn x y (fun a b => Bool.rec true false (Nat.beq a b)) (x != y))) = _
    rw [nn_eq]; rfl
    rintro a b rfl rfl
    cases h : Nat.beq a b with
    | true => simp [Nat.eq_of_beq_eq_true h]
    | false => have := Nat.ne_of_beq_eq_false h; simp; omega
  case lss => show some (Value.bool (nn x y (fun a b => Nat.ble (Nat.succ a) b) (decide (x < y)))) = _; rw [nn_eq]; rfl; rintro a b rfl rfl; rw [nat_ble]; simp; omega
  case leq => show some (Value.bool (nn x y Nat.ble (decide (x ≤ y)))) = _; rw [nn_eq]; rfl; rintro a b rfl rfl; rw [nat_ble]; simp
  case gtr => show some (Value.bool (nn x y (fun a b => Nat.ble (Nat.succ b) a) (decide (x > y)))) = _; rw [nn_eq]; rfl; rintro a b rfl rfl; rw [nat_ble]; simp; omega
  case geq => show some (Value.bool (nn x y (fun a b => Nat.ble b a) (decide (x ≥ y)))) = _; rw [nn_eq]; rfl; rintro a b rfl rfl; rw [nat_ble]; simp
  all_goals rfl

def kindEq (a b : IntKind) : Bool := decide (a = b)

def shiftF (op : BinOp) : Bool := BinOp.casesOn op false false false false false false false false true true false false false false false false false

def bytesEqF (a b : List UInt8) : Bool :=
  List.rec (fun b => List.rec true (fun _ _ _ => false) b) (fun x _ ih b => List.rec false (fun y r _ => Bool.rec false (ih r) (Nat.beq x.toBitVec.toFin.val y.toBitVec.toFin.val)) b) a b

theorem bytesEqF_eq : ∀ a b : List UInt8, bytesEqF a b = (a == b)
  | [], [] => rfl
  | [], _ :: _ => rfl
  | _ :: _, [] => rfl
  | x :: a, y :: b => by
    show (Bool.rec (motive := fun _ => Bool) false (bytesEqF a b) (Nat.beq x.toNat y.toNat)) = _
    rw [bytesEqF_eq a b, nat_beq]
    by_cases h : x = y
    · subst h; simp
    · have h2 : ¬ x.toNat = y.toNat := fun e => h (UInt8.toNat_inj.1 e)
      simp [h, h2]

def strOpF (op : BinOp) (x y : ByteArray) : Option Value :=
  BinOp.casesOn op (strOp .add x y) (strOp .sub x y) (strOp .mul x y) (strOp .quo x y) (strOp .rem x y) (strOp .and x y) (strOp .or x y) (strOp .xor x y) (strOp .shl x y) (strOp .shr x y) (strOp .andNot x y)
    (some (.bool (bytesEqF x.data.toList y.data.toList))) (some (.bool (Bool.rec true false (bytesEqF x.data.toList y.data.toList)))) (strOp .lss x y) (strOp .leq x y) (strOp .gtr x y) (strOp .geq x y)

theorem strOpF_eq (op : BinOp) (x y : ByteArray) : strOpF op x y = strOp op x y := by
  cases op
  case eql => show some (Value.bool (bytesEqF x.data.toList y.data.toList)) = _; rw [bytesEqF_eq]; rfl
  case neq => show some (Value.bool (Bool.rec true false (bytesEqF x.data.toList y.data.toList))) = _; rw [bytesEqF_eq]; simp only [strOp]; cases (x.data.toList == y.data.toList) <;> rfl
  all_goals rfl

/-- numbers and texts at once, all else in the slow way -/
def binVF (T : Tab) (op : BinOp) (t : Nat) (cst : Bool) (x y : Value) : Option Value :=
  Value.casesOn x (fun b => binV T op t cst (.bool b) y)
    (fun k a => Value.casesOn y (fun b => binV T op t cst (.int k a) (.bool b))
      (fun k' b => Bool.rec (binV T op t cst (.int k a) (.int k' b)) (intOpF op k a b) (kindEq k k'))
      (fun p q => binV T op t cst (.int k a) (.float p q)) (fun p q r => binV T op t cst (.int k a) (.complex p q r)) (fun p => binV T op t cst (.int k a) (.string p)) (fun p => binV T op t cst (.int k a) (.pointer p))
      (fun p q r => binV T op t cst (.int k a) (.slice p q r)) (fun p => binV T op t cst (.int k a) (.map p)) (fun p => binV T op t cst (.int k a) (.chan p)) (fun p q r => binV T op t cst (.int k a) (.func p q r)) (binV T op t cst (.int k a) .nilFunc)
      (fun p q => binV T op t cst (.int k a) (.iface p q)) (binV T op t cst (.int k a) .nilIface) (fun p => binV T op t cst (.int k a) (.agg p)) (fun p => binV T op t cst (.int k a) (.tuple p)))
    (fun p q => binV T op t cst (.float p q) y) (fun p q r => binV T op t cst (.complex p q r) y)
    (fun a => Value.casesOn y (fun b => binV T op t cst (.string a) (.bool b)) (fun k b => binV T op t cst (.string a) (.int k b)) (fun p q => binV T op t cst (.string a) (.float p q)) (fun p q r => binV T op t cst (.string a) (.complex p q r))
      (fun b => strOpF op a b) (fun p => binV T op t cst (.string a) (.pointer p))
      (fun p q r => binV T op t cst (.string a) (.slice p q r)) (fun p => binV T op t cst (.string a) (.map p)) (fun p => binV T op t cst (.string a) (.chan p)) (fun p q r => binV T op t cst (.string a) (.func p q r)) (binV T op t cst (.string a) .nilFunc)
      (fun p q => binV T op t cst (.string a) (.iface p q)) (binV T op t cst (.string a) .nilIface) (fun p => binV T op t cst (.string a) (.agg p)) (fun p => binV T op t cst (.string a) (.tuple p)))
    (fun p => binV T op t cst (.pointer p) y) (fun p q r => binV T op t cst (.slice p q r) y) (fun p => binV T op t cst (.map p) y) (fun p => binV T op t cst (.chan p) y) (fun p q r => binV T op t cst (.func p q r) y) (binV T op t cst .nilFunc y)
    (fun p q => binV T op t cst (.iface p q) y) (binV T op t cst .nilIface y) (fun p => binV T op t cst (.agg p) y) (fun p => binV T op t cst (.tuple p) y)

theorem binVF_eq (T : Tab) (op : BinOp) (t : Nat) (cst : Bool) (x y : Value) : binVF T op t cst x y = binV T op t cst x y := by
  cases x
  case int k a =>
    cases y
    case int k' b =>
      show (Bool.rec (motive := fun _ => Option Value) (binV T op t cst (.int k a) (.int k' b)) (intOpF op k a b) (kindEq k k')) = _
      unfold kindEq
      by_cases h : k = k'
      · subst h
        simp only [decide_true, intOpF_eq, binV]
        simp
      · simp [h]
    all_goals rfl
  case string a =>
    cases y
    case string b => exact strOpF_eq op a b
    all_goals rfl
  all_goals rfl

def closedF (v : Value) : Bool :=
  Value.casesOn v (fun _ => true) (fun _ _ => true) (fun _ _ => true) (fun p q r => closedC (.complex p q r)) (fun _ => true) (fun p => closedC (.pointer p)) (fun p q r => closedC (.slice p q r)) (fun p => closedC (.map p)) (fun p => closedC (.chan p))
    (fun p q r => closedC (.func p q r)) true (fun p q => closedC (.iface p q)) true (fun p => closedC (.agg p)) (fun p => closedC (.tuple p))

theorem closedF_eq (v : Value) : closedF v = closedC v := by cases v <;> rfl

def evF (τ : Tr Value) (x : Operand) : Option Value :=
  Operand.casesOn x (fun t => τ.get t) (fun v => Bool.rec none (some v) (closedF v)) (fun g => ev τ (.global g)) (fun f => some (.func (.func f) #[] #[]))

theorem evF_eq (τ : Tr Value) : evF τ = ev τ := by
  funext x
  cases x with
  | const v =>
    show (Bool.rec (motive := fun _ => Option Value) none (some v) (closedF v)) = _
    rw [closedF_eq]
    simp only [ev]
    cases closedC v <;> rfl
  | _ => rfl

def one (H : Heap) (x : Option Value) : Option (Value × Heap) := Option.rec none (fun v => some (v, H)) x

theorem one_eq (H : Heap) (x : Option Value) : one H x = (match x with | some v => some (v, H) | none => none) := by cases x <;> rfl

def binF (T : Tab) (ρ : Operand → Option Value) (op : BinOp) (t : Nat) (x y : Operand) : Option Value :=
  Option.rec none (fun a => Option.rec none (fun b => binVF T op t (isConstO x || isConstO y) a b) (ρ y)) (ρ x)

theorem binF_eq (T : Tab) (ρ : Operand → Option Value) (op : BinOp) (t : Nat) (x y : Operand) (z : TypeId) : binF T ρ op t x y = opP T ρ (.binOp op t x y z) := by
  unfold binF
  simp only [opP]
  cases ρ x with
  | none => rfl
  | some a => cases ρ y with
    | none => rfl
    | some b => exact binVF_eq T op t _ a b

def opE (T : Tab) (O : Old) (call : Call) (ρ : Operand → Option Value) (H : Heap) (op : Op) : Option (Value × Heap) :=
  match cls T op with
  | .p => match opP T ρ op with
    | some v => some (v, H)
    | none => none
  | .l => match opL T O H ρ op with
    | some v => some (v, H)
    | none => none
  | .a => opA T H ρ op
  | .w => opW T O call H ρ op

def with1 {α : Type} (x : Option Value) (f : Value → Option α) : Option α := Option.rec none f x

def storeF (T : Tab) (H : Heap) (t : Nat) (p v : Value) : Option (Value × Heap) := Option.rec none (fun H' => some (skipped, H')) (store T H t p v)

def callF (T : Tab) (O : Old) (call : Call) (ρ : Operand → Option Value) (H : Heap) (c : Go.Call) : Option (Value × Heap) :=
  Callee.casesOn c.callee
    (fun f => match ρ f, args ρ c.args.toList with
      | some (.func (.func g) first captured), some l => call g (first.toList ++ l ++ captured.toList) H
      | _, _ => none)
    (fun _ _ => opE T O call ρ H (.call c)) (fun _ => opE T O call ρ H (.call c))

def opF (T : Tab) (O : Old) (call : Call) (ρ : Operand → Option Value) (H : Heap) (op : Op) : Option (Value × Heap) :=
  Op.casesOn op
    (fun x => one H (ρ x)) (fun x => one H (ρ x)) (fun c a b => one H (pick (ρ c) (ρ a) (ρ b)))
    (fun e => alloc T H e) (fun e v => with1 (ρ v) fun a => box H e a) (fun t ps => one H (opP T ρ (.build t ps))) (fun t n ps => opA T H ρ (.buildSlice t n ps))
    (fun t m k v => opW T O call H ρ (.insert t m k v)) (fun t a => one H (with1 (ρ a) fun v => load T O H t v)) (fun t a v => with1 (ρ a) fun p => with1 (ρ v) fun x => storeF T H t p x)
    (fun g => opE T O call ρ H (.ready g)) (fun g => opE T O call ρ H (.waits g)) (fun x => one H (opP T ρ (.nilCheck x)))
    (fun op t x y z => one H (binF T ρ op t x y)) (fun op t x => one H (with1 (ρ x) fun a => unV op a)) (fun s d x => opE T O call ρ H (.convert s d x)) (fun d x => opE T O call ρ H (.sliceToArrayPointer d x))
    (fun t x => one H (opP T ρ (.makeInterface t x))) (fun f a b => one H (opP T ρ (.makeFunc f a b))) (fun t r => opA T H ρ (.makeMap t r)) (fun t n => opE T O call ρ H (.makeChan t n)) (fun t a b => opA T H ρ (.makeSlice t a b))
    (fun t x a b c => one H (opL T O H ρ (.slice t x a b c))) (fun t x i => one H (with1 (ρ x) fun a => fieldAt T t a i)) (fun t x i => one H (with1 (ρ x) fun a => fieldV T t a i))
    (fun t x i => one H (with1 (ρ x) fun a => with1 (ρ i) fun b => indexAt T t a b)) (fun t x i => one H (with1 (ρ x) fun a => with1 (ρ i) fun b => indexV T t a b))
    (fun t m k ok => one H (opL T O H ρ (.lookup t m k ok))) (fun t m k v => opW T O call H ρ (.mapUpdate t m k v)) (fun t m k => opE T O call ρ H (.mapEntry t m k)) (fun t m s v => opE T O call ρ H (.entryStore t m s v))
    (fun t x => opE T O call ρ H (.range t x)) (fun i s => opE T O call ρ H (.next i s)) (fun i => opE T O call ρ H (.entry i)) (fun x t u ok => opE T O call ρ H (.typeAssert x t u ok)) (fun x i => one H (opP T ρ (.extract x i)))
    (fun c => callF T O call ρ H c) (fun c => opE T O call ρ H (.go c)) (fun c => opE T O call ρ H (.defer c)) (fun x => opE T O call ρ H (.panic x)) (fun a b => opE T O call ρ H (.send a b)) (fun t c ok => opE T O call ρ H (.recv t c ok)) (fun l b => opE T O call ρ H (.select l b))

theorem opF_eq (T : Tab) (O : Old) (call : Call) (ρ : Operand → Option Value) (H : Heap) (op : Op) : opF T O call ρ H op = opE T O call ρ H op := by
  cases op
  case move x => exact one_eq H (ρ x)
  case assign x => exact one_eq H (ρ x)
  case pick c a b => exact one_eq H _
  case alloc e => rfl
  case box e v => show with1 (ρ v) (fun a => box H e a) = opA T H ρ (.box e v); simp only [opA]; unfold with1; cases ρ v <;> rfl
  case build t ps => exact one_eq H _
  case load t a => show one H (with1 (ρ a) fun v => load T O H t v) = _; rw [one_eq]; show _ = (match opL T O H ρ (.load t a) with | some v => some (v, H) | none => none); simp only [opL]; unfold with1; cases ρ a <;> rfl
  case store t a v =>
    show with1 (ρ a) (fun p => with1 (ρ v) fun x => storeF T H t p x) = opW T O call H ρ (.store t a v)
    simp only [opW]
    unfold with1
    cases ρ a with
    | none => rfl
    | some p => cases ρ v with
      | none => rfl
      | some x =>
        show storeF T H t p x = _
        unfold storeF
        simp only
        cases store T H t p x <;> rfl
  case nilCheck x => exact one_eq H _
  case binOp op t x y z => show one H (binF T ρ op t x y) = _; rw [binF_eq (z := z), one_eq]; rfl
  case unOp op t x => show one H (with1 (ρ x) fun a => unV op a) = _; rw [one_eq]; show _ = (match opP T ρ (.unOp op t x) with | some v => some (v, H) | none => none); simp only [opP]; unfold with1; cases ρ x <;> rfl
  case makeInterface t x => exact one_eq H _
  case makeFunc f a b => exact one_eq H _
  case slice t x a b c => exact one_eq H _
  case fieldAddr t x i => show one H (with1 (ρ x) fun a => fieldAt T t a i) = _; rw [one_eq]; show _ = (match opP T ρ (.fieldAddr t x i) with | some v => some (v, H) | none => none); simp only [opP]; unfold with1; cases ρ x <;> rfl
  case field t x i => show one H (with1 (ρ x) fun a => fieldV T t a i) = _; rw [one_eq]; show _ = (match opP T ρ (.field t x i) with | some v => some (v, H) | none => none); simp only [opP]; unfold with1; cases ρ x <;> rfl
  case indexAddr t x i =>
    show one H (with1 (ρ x) fun a => with1 (ρ i) fun b => indexAt T t a b) = _
    rw [one_eq]
    show _ = (match opP T ρ (.indexAddr t x i) with | some v => some (v, H) | none => none)
    simp only [opP]
    unfold with1
    cases ρ x with
    | none => rfl
    | some a => cases ρ i <;> rfl
  case index t x i =>
    show one H (with1 (ρ x) fun a => with1 (ρ i) fun b => indexV T t a b) = _
    rw [one_eq]
    show _ = (match opP T ρ (.index t x i) with | some v => some (v, H) | none => none)
    simp only [opP]
    unfold with1
    cases ρ x with
    | none => rfl
    | some a => cases ρ i <;> rfl
  case lookup t m k ok => exact one_eq H _
  case extract x i => exact one_eq H _
  case call c =>
    obtain ⟨callee, xa, ts⟩ := c
    cases callee with
    | value f => rfl
    | invoke r m => rfl
    | builtin b => rfl
  all_goals rfl

theorem evalOp_opE (T : Tab) (O : Old) (call : Call) (ρ : Operand → Option Value) (o : Oper) (H : Heap) : evalOp T O call ρ o H = opE T O call ρ H o.op := rfl

def putF (N : Nat) (τ : Tr Value) (d : Option Nat) (v : Value) (H : Heap) : Option (Tr Value × Heap) :=
  Option.rec (some (τ, H)) (fun d => Bool.rec none (some (τ.put d v, H)) (Nat.ble (Nat.succ d) N)) d

theorem putF_eq (N : Nat) (τ : Tr Value) (d : Option Nat) (v : Value) (H : Heap) : putF N τ d v H = (match putT N τ d v with | some τ' => some (τ', H) | none => none) := by
  cases d with
  | none => rfl
  | some d =>
    show (Bool.rec (motive := fun _ => Option (Tr Value × Heap)) none (some (τ.put d v, H)) (Nat.blt d N)) = _
    simp only [putT]
    cases Nat.blt d N <;> rfl

def evalOneF (T : Tab) (O : Old) (call : Call) (N : Nat) (all : List Oper) (o : Oper) (τ : Tr Value) (H : Heap) : Option (Tr Value × Heap) :=
  Option.rec (Option.rec none (fun p => Prod.rec (fun v H' => putF N τ o.dst v H') p) (opF T O call (evF τ) H o.op)) (fun _ => evalOne T O call N all o τ H) o.guard

theorem evalOneF_eq (T : Tab) (O : Old) (call : Call) (N : Nat) (all : List Oper) (o : Oper) (τ : Tr Value) (H : Heap) : evalOneF T O call N all o τ H = evalOne T O call N all o τ H := by
  unfold evalOneF
  cases hg : o.guard with
  | some g => rfl
  | none =>
    have hw : wanted all τ o = some true := by unfold wanted; rw [hg]
    simp only [evalOne, hw, evF_eq, opF_eq, ← evalOp_opE]
    cases evalOp T O call (ev τ) o H with
    | none => rfl
    | some p =>
      obtain ⟨v, H'⟩ := p
      exact putF_eq N τ o.dst v H'

def evalOpsF (T : Tab) (O : Old) (call : Call) (N : Nat) (all : List Oper) (l : List Oper) : Tr Value → Heap → Option (Tr Value × Heap) :=
  List.rec (fun τ H => some (τ, H)) (fun o _ ih τ H => Option.rec none (fun p => Prod.rec (fun τ' H' => ih τ' H') p) (evalOneF T O call N all o τ H)) l

theorem evalOpsF_eq (T : Tab) (O : Old) (call : Call) (N : Nat) (all : List Oper) : ∀ (l : List Oper) (τ : Tr Value) (H : Heap), evalOpsF T O call N all l τ H = evalOps T O call N all l τ H
  | [], τ, H => rfl
  | o :: l, τ, H => by
    show (Option.rec none (fun p => Prod.rec (fun τ' H' => evalOpsF T O call N all l τ' H') p) (evalOneF T O call N all o τ H) : Option (Tr Value × Heap)) = _
    rw [evalOneF_eq]
    simp only [evalOps]
    cases evalOne T O call N all o τ H with
    | none => rfl
    | some p =>
      obtain ⟨τ', H'⟩ := p
      exact evalOpsF_eq T O call N all l τ' H'

def clsF (T : Tab) (op : Op) : Cls :=
  Op.casesOn op (fun _ => .p) (fun _ => .p) (fun _ _ _ => .p) (fun _ => .a) (fun _ _ => .a) (fun _ _ => .p) (fun _ _ _ => .a) (fun _ _ _ _ => .w) (fun _ _ => .l) (fun _ _ _ => .w)
    (fun _ => .w) (fun _ => .w) (fun _ => .p) (fun _ _ _ _ _ => .p) (fun _ _ _ => .p) (fun s d x => cls T (.convert s d x)) (fun _ _ => .w) (fun _ _ => .p) (fun _ _ _ => .p) (fun _ _ => .a) (fun _ _ => .w) (fun _ _ _ => .a)
    (fun _ _ _ _ _ => .l) (fun _ _ _ => .p) (fun _ _ _ => .p) (fun _ _ _ => .p) (fun _ _ _ => .p) (fun _ _ _ _ => .l) (fun _ _ _ _ => .w) (fun _ _ _ => .w) (fun _ _ _ _ => .w)
    (fun _ _ => .w) (fun _ _ => .w) (fun _ => .w) (fun _ _ _ _ => .w) (fun _ _ => .p) (fun c => Callee.casesOn c.callee (fun _ => .w) (fun _ _ => .w) (fun _ => cls T (.call c))) (fun _ => .w) (fun _ => .w) (fun _ => .w) (fun _ _ => .w) (fun _ _ _ => .w) (fun _ _ => .w)

theorem clsF_eq (T : Tab) (op : Op) : clsF T op = cls T op := by
  cases op
  case call c =>
    obtain ⟨callee, xa, ts⟩ := c
    cases callee <;> rfl
  all_goals rfl

/-- a step of a region whose order is open, and how it goes on -/
def stepG (T : Tab) (O : Old) (call : Call) (N : Nat) (all : List Oper) (ms : Tr Nat) (j : Nat) (o : Oper) (go : Nat → Nat → List Pend → Tr Value → Heap → Option (Nat × Tr Value × Heap)) (E X : Nat) (pend : List Pend) (τ : Tr Value) (H : Heap) : Option (Nat × Tr Value × Heap) :=
    match ms.get j with
    | none => none
    | some m =>
      bif Nat.testBit E j || !(Nat.beq (Nat.land m E) m) || !(Nat.beq (Nat.land X m) X) then none else
      match wanted all τ o with
      | none => none
      | some false => match putT N τ o.dst skipped with
        | some τ' => go (Nat.lor E (2 ^ j)) (bif isW T o then Nat.lor X (2 ^ j) else X) pend τ' H
        | none => none
      | some true => match evalOp T O call (ev τ) o H with
        | none => none
        | some (v, H') => match putT N τ o.dst v with
          | none => none
          | some τ' => match cls T o.op with
            | .w => bif stable T O m H' pend && Nat.ble H.next H'.next then go (Nat.lor E (2 ^ j)) (Nat.lor X (2 ^ j)) (pend.filter fun p => !(Nat.testBit m p.j)) τ' H' else none
            | .l => go (Nat.lor E (2 ^ j)) X (⟨j, τ, o.op, v⟩ :: pend) τ' H'
            | .a => bif stable T O 0 H' pend then go (Nat.lor E (2 ^ j)) X pend τ' H' else none
            | .p => go (Nat.lor E (2 ^ j)) X pend τ' H'

def stepF (T : Tab) (O : Old) (call : Call) (N : Nat) (all : List Oper) (ms : Tr Nat) (j : Nat) (o : Oper) (go : Nat → Nat → List Pend → Tr Value → Heap → Option (Nat × Tr Value × Heap)) (E X : Nat) (pend : List Pend) (τ : Tr Value) (H : Heap) : Option (Nat × Tr Value × Heap) :=
  Option.rec (Option.rec none (fun m => Bool.rec none (Bool.rec none (Bool.rec
      (Option.rec none (fun q => Prod.rec (fun v H' => Option.rec none (fun q2 => Prod.rec (fun τ' _ => Cls.casesOn (clsF T o.op)
          (go (Nat.lor E (Nat.pow 2 j)) X pend τ' H')
          (go (Nat.lor E (Nat.pow 2 j)) X (⟨j, τ, o.op, v⟩ :: pend) τ' H')
          (Bool.rec none (go (Nat.lor E (Nat.pow 2 j)) X pend τ' H') (stable T O 0 H' pend))
          (Bool.rec none (Bool.rec none (go (Nat.lor E (Nat.pow 2 j)) (Nat.lor X (Nat.pow 2 j)) (pend.filter fun p => !(Nat.testBit m p.j)) τ' H') (Nat.ble H.next H'.next)) (stable T O m H' pend))) q2) (putF N τ o.dst v H')) q) (opF T O call (evF τ) H o.op))
      none (Nat.testBit E j)) (Nat.beq (Nat.land m E) m)) (Nat.beq (Nat.land X m) X)) (ms.get j))
    (fun _ => stepG T O call N all ms j o go E X pend τ H) o.guard

theorem stepF_eq (T : Tab) (O : Old) (call : Call) (N : Nat) (all : List Oper) (ms : Tr Nat) (j : Nat) (o : Oper) (go : Nat → Nat → List Pend → Tr Value → Heap → Option (Nat × Tr Value × Heap)) (E X : Nat) (pend : List Pend) (τ : Tr Value) (H : Heap) :
    stepF T O call N all ms j o go E X pend τ H = stepG T O call N all ms j o go E X pend τ H := by
  unfold stepF
  cases hg : o.guard with
  | some g => rfl
  | none =>
    have hw : wanted all τ o = some true := by unfold wanted; rw [hg]
    unfold stepG
    simp only [hw]
    cases ms.get j with
    | none => rfl
    | some m =>
      simp only
      cases Nat.beq (Nat.land X m) X with
      | false => cases Nat.testBit E j <;> cases Nat.beq (Nat.land m E) m <;> rfl
      | true =>
        cases Nat.beq (Nat.land m E) m with
        | false => cases Nat.testBit E j <;> rfl
        | true =>
          cases Nat.testBit E j with
          | true => rfl
          | false =>
            simp only [evF_eq, opF_eq, ← evalOp_opE, Bool.not_true, Bool.or_self, cond_false]
            cases evalOp T O call (ev τ) o H with
            | none => rfl
            | some q =>
              obtain ⟨v, H'⟩ := q
              simp only [putF_eq, clsF_eq]
              cases putT N τ o.dst v with
              | none => rfl
              | some τ' =>
                simp only
                cases cls T o.op with
                | p => rfl
                | l => rfl
                | a => cases stable T O 0 H' pend <;> rfl
                | w => cases stable T O m H' pend <;> cases Nat.ble H.next H'.next <;> rfl

def drawRunF (T : Tab) (O : Old) (call : Call) (N : Nat) (all : List Oper) (ms : Tr Nat) (l : List (Nat × Oper)) : Nat → Nat → List Pend → Tr Value → Heap → Option (Nat × Tr Value × Heap) :=
  List.rec (fun E _ _ τ H => some (E, τ, H)) (fun p _ ih E X pend τ H => Prod.rec (fun j o => stepF T O call N all ms j o ih E X pend τ H) p) l

theorem drawRunF_eq (T : Tab) (O : Old) (call : Call) (N : Nat) (all : List Oper) (ms : Tr Nat) : ∀ l : List (Nat × Oper), drawRunF T O call N all ms l = drawRun T O call N all ms l
  | [] => rfl
  | (j, o) :: l => by
    funext E X pend τ H
    show stepF T O call N all ms j o (drawRunF T O call N all ms l) E X pend τ H = _
    rw [stepF_eq, drawRunF_eq T O call N all ms l]
    rfl

def drawRegionF (T : Tab) (O : Old) (call : Call) (N : Nat) (ops : List Oper) (τ : Tr Value) (H : Heap) : Option (Tr Value × Heap) :=
  Option.rec none (fun W => Bool.rec none (Option.rec none (fun q => Prod.rec (fun E q2 => Bool.rec none (some q2) (Nat.beq E (Nat.sub (Nat.pow 2 ops.length) 1))) q)
    (drawRunF T O call N ops (masks ops 0 .lf) (order T ops (masks ops 0 .lf) (bitsOf (wsOf T ops 0)) (wsOf T ops 0) 0) 0 0 [] τ H)) (looksOk ops (masks ops 0 .lf) W ops 0)) (writers ops 0 .lf)

theorem drawRegionF_eq (T : Tab) (O : Old) (call : Call) (N : Nat) (ops : List Oper) (τ : Tr Value) (H : Heap) : drawRegionF T O call N ops τ H = drawRegion T O call N ops τ H := by
  unfold drawRegionF drawRegion
  rw [drawRunF_eq]
  cases writers ops 0 .lf with
  | none => rfl
  | some W =>
    simp only
    cases looksOk ops (masks ops 0 .lf) W ops 0 with
    | false => rfl
    | true =>
      simp only [cond_true]
      cases drawRun T O call N ops (masks ops 0 .lf) (order T ops (masks ops 0 .lf) (bitsOf (wsOf T ops 0)) (wsOf T ops 0) 0) 0 0 [] τ H with
      | none => rfl
      | some q =>
        obtain ⟨E, τ', H'⟩ := q
        show (Bool.rec none (some (τ', H')) (Nat.beq E (2 ^ ops.length - 1)) : Option (Tr Value × Heap)) = _
        simp only
        cases Nat.beq E (2 ^ ops.length - 1) <;> rfl

abbrev ResF := Option (Ex × Tr Value × Heap)

/-- going on behind what has ended as it should -/
def thenF (r : ResF) (go : Tr Value → Heap → ResF) : ResF :=
  Option.rec none (fun q => Prod.rec (fun ex q2 => Ex.casesOn ex (Prod.rec (fun τ H => go τ H) q2) (fun id => some (.exit id, q2)) (some (.ret, q2))) q) r

theorem thenF_eq (r : ResF) (go : Tr Value → Heap → ResF) : thenF r go = (match r with | some (.normal, τ', H') => go τ' H' | r => r) := by
  rcases r with _ | ⟨_ | _ | _, τ, H⟩ <;> rfl

def iterF (n : Nat) (f : Tr Value → Heap → ResF) : Tr Value → Heap → ResF :=
  Nat.rec (fun _ _ => none) (fun _ ih τ H => thenF (f τ H) ih) n

theorem iterF_eq (f : Tr Value → Heap → ResF) : ∀ n, iterF n f = iter n f
  | 0 => rfl
  | n + 1 => by
    funext τ H
    show thenF (f τ H) (iterF n f) = _
    rw [thenF_eq, iterF_eq f n]
    simp only [iter]
    rfl

def condF (v : Option Value) (x y : ResF) : ResF :=
  Option.rec none (fun v => Value.casesOn v (fun b => Bool.rec y x b) (fun _ _ => none) (fun _ _ => none) (fun _ _ _ => none) (fun _ => none) (fun _ => none) (fun _ _ _ => none) (fun _ => none) (fun _ => none) (fun _ _ _ => none) none (fun _ _ => none) none (fun _ => none) (fun _ => none)) v

theorem condF_eq (v : Option Value) (x y : ResF) : condF v x y = (match v with | some (.bool true) => x | some (.bool false) => y | _ => none) := by
  cases v with
  | none => rfl
  | some v => cases v with
    | bool b => cases b <;> rfl
    | _ => rfl

def blockF (id : Nat) (r : ResF) : ResF :=
  Option.rec none (fun q => Prod.rec (fun ex q2 => Ex.casesOn ex (some (.normal, q2)) (fun i => Bool.rec (some (.exit i, q2)) (some (.normal, q2)) (Nat.beq i id)) (some (.ret, q2))) q) r

theorem blockF_eq (id : Nat) (r : ResF) : blockF id r = (match r with | some (.exit i, τ', H') => bif Nat.beq i id then some (.normal, τ', H') else some (.exit i, τ', H') | r => r) := by
  rcases r with _ | ⟨_ | i | _, τ, H⟩
  · rfl
  · rfl
  · show (Bool.rec (some (.exit i, τ, H)) (some (.normal, τ, H)) (Nat.beq i id) : ResF) = _
    simp only
    cases Nat.beq i id <;> rfl
  · rfl

def regionF (r : Option (Tr Value × Heap)) : ResF := Option.rec none (fun q => some (.normal, q)) r

def evalCF (T : Tab) (O : Old) (call : Call) (N lf : Nat) (c : Code) : Tr Value → Heap → ResF :=
  Code.rec (motive := fun _ => Tr Value → Heap → ResF)
    (fun τ H => some (.normal, τ, H))
    (fun _ ops draw τ H => regionF (Bool.rec (evalOpsF T O call N ops.toList ops.toList τ H) (drawRegionF T O call N ops.toList τ H) draw))
    (fun _ _ a b τ H => thenF (a τ H) b)
    (fun c _ _ x y τ H => condF (evF τ c) (x τ H) (y τ H))
    (fun id _ b τ H => blockF id (b τ H))
    (fun _ b τ H => iterF lf b τ H)
    (fun _ _ _ _ _ _ _ _ => none)
    (fun id τ H => some (.exit id, τ, H))
    (fun _ _ _ _ => none)
    (fun _ τ H => some (.normal, τ, H))
    (fun _ _ _ => none)
    (fun τ H => some (.ret, τ, H))
    (fun _ _ _ => none) c

theorem evalCF_eq (T : Tab) (O : Old) (call : Call) (N lf : Nat) : ∀ c : Code, evalCF T O call N lf c = evalC T O call N lf c
  | .skip => by funext τ H; simp only [evalC]; rfl
  | .region id ops draw => by
    funext τ H
    show regionF (Bool.rec (evalOpsF T O call N ops.toList ops.toList τ H) (drawRegionF T O call N ops.toList τ H) draw) = _
    rw [evalOpsF_eq, drawRegionF_eq]
    simp only [evalC]
    cases draw with
    | true =>
      simp only [cond_true]
      cases drawRegion T O call N ops.toList τ H <;> rfl
    | false =>
      simp only [cond_false]
      cases evalOps T O call N ops.toList ops.toList τ H <;> rfl
  | .seq a b => by
    funext τ H
    show thenF (evalCF T O call N lf a τ H) (evalCF T O call N lf b) = _
    rw [evalCF_eq T O call N lf a, evalCF_eq T O call N lf b, thenF_eq]
    simp only [evalC]
    rfl
  | .cond c x y => by
    funext τ H
    show condF (evF τ c) (evalCF T O call N lf x τ H) (evalCF T O call N lf y τ H) = _
    rw [evalCF_eq T O call N lf x, evalCF_eq T O call N lf y, condF_eq, evF_eq]
    simp only [evalC]
    rfl
  | .block id b => by
    funext τ H
    show blockF id (evalCF T O call N lf b τ H) = _
    rw [evalCF_eq T O call N lf b, blockF_eq]
    simp only [evalC]
    rfl
  | .loop b => by
    funext τ H
    show iterF lf (evalCF T O call N lf b) τ H = _
    rw [evalCF_eq T O call N lf b, iterF_eq]
    simp only [evalC]
  | .rangeFunc f ps a b => by funext τ H; simp only [evalC]; rfl
  | .exit id => by funext τ H; simp only [evalC]; rfl
  | .scope b => by funext τ H; simp only [evalC]; rfl
  | .label l => by funext τ H; simp only [evalC]; rfl
  | .goto l => by funext τ H; simp only [evalC]; rfl
  | .ret => by funext τ H; simp only [evalC]; rfl
  | .refuse s => by funext τ H; simp only [evalC]; rfl

def endF (T : Tab) (O : Old) (fn : Func) (r : ResF) : Option (Value × Heap) :=
  Option.rec none (fun q => Prod.rec (fun ex q2 => Prod.rec (fun τ H => Ex.casesOn ex
    (Option.rec none (fun l => some (oneOf l, H)) (resV T O τ H fn.results.toList)) (fun _ => none) (Option.rec none (fun l => some (oneOf l, H)) (resV T O τ H fn.results.toList))) q2) q) r

def evalCallF (T : Tab) (O : Old) (lf k : Nat) : Nat → List Value → Heap → Option (Value × Heap) :=
  Nat.rec (fun _ _ _ => none) (fun _ ih f xa H =>
    Option.rec (Option.rec none (fun fn => Option.rec none (fun c => Bool.rec none (endF T O fn (evalCF T O ih fn.ntmps lf c (Tr.fill xa 0 .lf) H)) (Nat.ble xa.length fn.ntmps)) fn.body) (T.fn f))
      (fun p => p O xa H) (T.prim f)) k

theorem endF_eq (T : Tab) (O : Old) (fn : Func) (r : ResF) : endF T O fn r = (match r with
      | some (.normal, τ, H') => match resV T O τ H' fn.results.toList with
        | some l => some (oneOf l, H')
        | none => none
      | some (.ret, τ, H') => match resV T O τ H' fn.results.toList with
        | some l => some (oneOf l, H')
        | none => none
      | _ => none) := by
  rcases r with _ | ⟨_ | i | _, τ, H⟩
  · rfl
  · show (Option.rec none (fun l => some (oneOf l, H)) (resV T O τ H fn.results.toList) : Option (Value × Heap)) = _
    simp only
    cases resV T O τ H fn.results.toList <;> rfl
  · rfl
  · show (Option.rec none (fun l => some (oneOf l, H)) (resV T O τ H fn.results.toList) : Option (Value × Heap)) = _
    simp only
    cases resV T O τ H fn.results.toList <;> rfl

theorem evalCallF_eq (T : Tab) (O : Old) (lf : Nat) : ∀ k, evalCallF T O lf k = evalCall T O lf k
  | 0 => by funext f xa H; simp only [evalCall]; rfl
  | k + 1 => by
    funext f xa H
    show (Option.rec (Option.rec none (fun fn => Option.rec none (fun c => Bool.rec none (endF T O fn (evalCF T O (evalCallF T O lf k) fn.ntmps lf c (Tr.fill xa 0 .lf) H)) (Nat.ble xa.length fn.ntmps)) fn.body) (T.fn f))
      (fun p => p O xa H) (T.prim f) : Option (Value × Heap)) = _
    rw [evalCallF_eq T O lf k]
    simp only [evalCall]
    cases T.prim f with
    | some p => rfl
    | none =>
      simp only
      cases T.fn f with
      | none => rfl
      | some fn =>
        simp only
        cases fn.body with
        | none => rfl
        | some c =>
          simp only
          cases Nat.ble xa.length fn.ntmps with
          | false => rfl
          | true => simp only [cond_true]; rw [endF_eq, evalCF_eq]; rfl
end
end Go.Ev
