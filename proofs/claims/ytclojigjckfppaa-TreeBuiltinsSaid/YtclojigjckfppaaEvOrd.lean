/-
  Symbols of which it is known which is less than which, and what reckoning with them gives.
-/
import Derived.Test.YtclojigjckfppaaEvFar
namespace Go.Ev
set_option linter.unusedSimpArgs false
set_option linter.unusedVariables false

structure Facts where
  vals : List Value
  lts : List (Value × Value × Bool)
  ops : List (BinOp × Value × Value × Value)

def sameV : Value → Value → Bool
  | .chan (some i), .chan (some j) => Nat.beq i j
  | .int k (.ofNat a), .int k' (.ofNat b) => decide (k = k') && Nat.beq a b
  | _, _ => false

theorem sameV_eq {x y : Value} (h : sameV x y = true) : x = y := by
  unfold sameV at h
  split at h
  · rw [Nat.eq_of_beq_eq_true h]
  · simp only [Bool.and_eq_true, decide_eq_true_eq] at h
    rw [h.1, Nat.eq_of_beq_eq_true h.2]
  · cases h

def ltOf (x y : Value) : List (Value × Value × Bool) → Option Bool
  | [] => none
  | (a, b, r) :: l => bif sameV x a && sameV y b then some r else ltOf x y l

theorem ltOf_mem {x y : Value} {r : Bool} : ∀ {l : List (Value × Value × Bool)}, ltOf x y l = some r → (x, y, r) ∈ l
  | (a, b, q) :: l, h => by
    simp only [ltOf] at h
    cases hc : sameV x a && sameV y b with
    | true =>
      rw [hc, cond_true] at h; cases h
      simp only [Bool.and_eq_true] at hc
      rw [sameV_eq hc.1, sameV_eq hc.2]
      exact List.mem_cons_self
    | false => rw [hc, cond_false] at h; exact List.mem_cons_of_mem _ (ltOf_mem h)

def opOf (op : BinOp) (x y : Value) : List (BinOp × Value × Value × Value) → Option Value
  | [] => none
  | (o, a, b, r) :: l => bif decide (op = o) && (sameV x a && sameV y b) then some r else opOf op x y l

theorem opOf_mem {op : BinOp} {x y r : Value} : ∀ {l : List (BinOp × Value × Value × Value)}, opOf op x y l = some r → (op, x, y, r) ∈ l
  | (o, a, b, q) :: l, h => by
    simp only [opOf] at h
    cases hc : decide (op = o) && (sameV x a && sameV y b) with
    | true =>
      rw [hc, cond_true] at h; cases h
      simp only [Bool.and_eq_true, decide_eq_true_eq] at hc
      rw [hc.1, sameV_eq hc.2.1, sameV_eq hc.2.2]
      exact List.mem_cons_self
    | false => rw [hc, cond_false] at h; exact List.mem_cons_of_mem _ (opOf_mem h)

def boolO : Option Bool → Option Value
  | some b => some (.bool b)
  | none => none

def notO : Option Bool → Option Value
  | some b => some (.bool (!b))
  | none => none

def binOf (F : Facts) (op : BinOp) (x y : Value) : Option Value :=
  match op with
  | .lss => boolO (ltOf x y F.lts)
  | .geq => notO (ltOf x y F.lts)
  | .gtr => boolO (ltOf y x F.lts)
  | .leq => notO (ltOf y x F.lts)
  | op => opOf op x y F.ops

def Facts.know (F : Facts) : Know where
  sym := fun i => F.vals[i]?
  bin := binOf F

structure Facts.Ok (F : Facts) : Prop where
  lts : ∀ p ∈ F.lts, ∀ x' y', SV F.know.sym p.1 x' → SV F.know.sym p.2.1 y' → ∃ k m n, x' = .int k m ∧ y' = .int k n ∧ decide (m < n) = p.2.2
  ops : ∀ p ∈ F.ops, ∀ x' y', SV F.know.sym p.2.1 x' → SV F.know.sym p.2.2.1 y' → ∃ k m n v', x' = .int k m ∧ y' = .int k n ∧ intOp p.1 k m n = some v' ∧ SV F.know.sym p.2.2.2 v'

theorem Facts.know_ok {F : Facts} (h : F.Ok) : F.know.Ok where
  slen := fun _ _ h => by cases h
  sconv := fun _ _ _ h => by cases h
  bin := fun op x y v hb x' y' hx hy => by
    have hb : binOf F op x y = some v := hb
    have lt : ∀ {x y x' y' : Value} {r : Bool}, ltOf x y F.lts = some r → SV F.know.sym x x' → SV F.know.sym y y' → ∃ k m n, x' = .int k m ∧ y' = .int k n ∧ decide (m < n) = r := fun hl h1 h2 => h.lts _ (ltOf_mem hl) _ _ h1 h2
    have other : opOf op x y F.ops = some v → ∃ v', SV F.know.sym v v' ∧ ((∃ k a b, x' = .int k a ∧ y' = .int k b ∧ intOp op k a b = some v') ∨ (∃ a b, x' = .string a ∧ y' = .string b ∧ strOp op a b = some v')) := by
      intro ho
      obtain ⟨k, m, n, v', h1, h2, h3, h4⟩ := h.ops _ (opOf_mem ho) _ _ hx hy
      exact ⟨v', h4, .inl ⟨k, m, n, h1, h2, h3⟩⟩
    cases op
    case lss =>
      simp only [binOf] at hb
      cases hl : ltOf x y F.lts with
      | none => rw [hl] at hb; cases hb
      | some r =>
        rw [hl] at hb; cases hb
        obtain ⟨k, m, n, h1, h2, h3⟩ := lt hl hx hy
        exact ⟨_, sv_bool _, .inl ⟨k, m, n, h1, h2, by simp only [intOp, h3]⟩⟩
    case geq =>
      simp only [binOf] at hb
      cases hl : ltOf x y F.lts with
      | none => rw [hl] at hb; cases hb
      | some r =>
        rw [hl] at hb; cases hb
        obtain ⟨k, m, n, h1, h2, h3⟩ := lt hl hx hy
        refine ⟨_, sv_bool _, .inl ⟨k, m, n, h1, h2, ?_⟩⟩
        simp only [intOp, ← h3]
        by_cases e : m < n
        · have : ¬ m ≥ n := by omega
          simp [e, this]
        · have : m ≥ n := by omega
          simp [e, this]
    case gtr =>
      simp only [binOf] at hb
      cases hl : ltOf y x F.lts with
      | none => rw [hl] at hb; cases hb
      | some r =>
        rw [hl] at hb; cases hb
        obtain ⟨k, m, n, h1, h2, h3⟩ := lt hl hy hx
        exact ⟨_, sv_bool _, .inl ⟨k, n, m, h2, h1, by simp only [intOp, ← h3, gt_iff_lt]⟩⟩
    case leq =>
      simp only [binOf] at hb
      cases hl : ltOf y x F.lts with
      | none => rw [hl] at hb; cases hb
      | some r =>
        rw [hl] at hb; cases hb
        obtain ⟨k, m, n, h1, h2, h3⟩ := lt hl hy hx
        refine ⟨_, sv_bool _, .inl ⟨k, n, m, h2, h1, ?_⟩⟩
        simp only [intOp, ← h3]
        by_cases e : m < n
        · have : ¬ n ≤ m := by omega
          simp [e, this]
        · have : n ≤ m := by omega
          simp [e, this]
    all_goals exact other hb

noncomputable def allBool (p : Bool → Bool) : Bool := Bool.rec false (p false) (p true)

theorem allBool_spec {p : Bool → Bool} (h : allBool p = true) (b : Bool) : p b = true := by
  have h : (Bool.rec (motive := fun _ => Bool) false (p false) (p true)) = true := h
  cases hp : p true with
  | false => rw [hp] at h; cases h
  | true => rw [hp] at h; cases b <;> assumption

theorem fact_ok {S : Nat → Option Value} {x y : Value} {m n : Int} {b : Bool} (hx : ∀ x', SV S x x' → x' = .int .i64 m) (hy : ∀ y', SV S y y' → y' = .int .i64 n) (hb : decide (m < n) = b) :
    ∀ x' y', SV S x x' → SV S y y' → ∃ k m n, x' = .int k m ∧ y' = .int k n ∧ decide (m < n) = b :=
  fun x' y' h1 h2 => ⟨.i64, m, n, hx _ h1, hy _ h2, hb⟩

theorem op_ok {S : Nat → Option Value} {op : BinOp} {x y v : Value} {m n q : Int} (hx : ∀ x', SV S x x' → x' = .int .i64 m) (hy : ∀ y', SV S y y' → y' = .int .i64 n) (hi : intOp op .i64 m n = some (.int .i64 q)) (hv : SV S v (.int .i64 q)) :
    ∀ x' y', SV S x x' → SV S y y' → ∃ k m n v', x' = .int k m ∧ y' = .int k n ∧ intOp op k m n = some v' ∧ SV S v v' :=
  fun x' y' h1 h2 => ⟨.i64, m, n, _, hx _ h1, hy _ h2, hi, hv⟩

theorem symIs {l : List Value} {i : Nat} {v : Value} (h : l[i]? = some v) {F : Facts} (hF : F.vals = l) : ∀ x', SV F.know.sym (.chan (some i)) x' → x' = v := by
  intro x' hx
  have := sv_sym hx
  have e : F.vals[i]? = some x' := this
  rw [hF, h] at e
  cases e; rfl

theorem symArg {F : Facts} {i : Nat} {v : Value} (h : F.vals[i]? = some v) (hv : symOk v = true) : V (Ren.start F.know.sym) (.chan (some i)) v := .fr (.sym h hv)
theorem symSV {F : Facts} {i : Nat} {v : Value} (h : F.vals[i]? = some v) (hv : symOk v = true) : SV F.know.sym (.chan (some i)) v := .inl ⟨i, rfl, h, hv⟩
end Go.Ev
