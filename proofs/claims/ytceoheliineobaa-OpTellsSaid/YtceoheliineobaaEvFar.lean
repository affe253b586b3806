/-
  A number that lies below nought, or not below a bound: what is known of it beside the numbers from nought up to the bound.
-/
import Derived.Test.YtceoheliineobaaEvRow
namespace Go.Ev
set_option linter.unusedSimpArgs false
set_option linter.unusedVariables false

/-- the symbol against a number that is less (above) or greater (below) -/
def farL (above : Bool) : BinOp → Option Value
  | .eql => some (.bool false)
  | .neq => some (.bool true)
  | .lss | .leq => some (.bool (!above))
  | .gtr | .geq => some (.bool above)
  | _ => none

def farR (above : Bool) : BinOp → Option Value
  | .eql => some (.bool false)
  | .neq => some (.bool true)
  | .lss | .leq => some (.bool above)
  | .gtr | .geq => some (.bool (!above))
  | _ => none

def farBin (above : Bool) (n : Nat) (op : BinOp) (x y : Value) : Option Value :=
  match x, y with
  | .chan (some 0), .int .i64 (.ofNat c) => bif Nat.blt c n then farL above op else none
  | .int .i64 (.ofNat c), .chan (some 0) => bif Nat.blt c n then farR above op else none
  | _, _ => none

def far (above : Bool) (n : Nat) (o : Int) : Know where
  sym := fun i => match i with | 0 => some (.int .i64 o) | _ => none
  bin := farBin above n

theorem sv_int {S : Nat → Option Value} {k : IntKind} {c : Int} {v' : Value} (h : SV S (.int k c) v') : v' = .int k c := by
  rcases h with ⟨i, e, _⟩ | ⟨_, rfl⟩
  · cases e
  · rfl

theorem sv_sym {S : Nat → Option Value} {i : Nat} {v' : Value} (h : SV S (.chan (some i)) v') : S i = some v' := by
  rcases h with ⟨j, e, h1, _⟩ | ⟨h, _⟩
  · cases e; exact h1
  · rcases h with ⟨b, e⟩ | h
    · cases e
    · simp [symOk] at h

theorem sv_bool {S : Nat → Option Value} (b : Bool) : SV S (.bool b) (.bool b) := .inr ⟨.inl ⟨b, rfl⟩, rfl⟩

theorem far_ok {above : Bool} {n : Nat} {o : Int} (h : if above = true then (n : Int) ≤ o else o < 0) : (far above n o).Ok where
  slen := fun _ _ h => by cases h
  sconv := fun _ _ _ h => by cases h
  bin := fun op x y v hb x' y' hx hy => by
    have hb : farBin above n op x y = some v := hb
    unfold farBin at hb
    split at hb
    · rename_i c hb2
      cases hc : Nat.blt c n with
      | false => rw [hc] at hb; cases hb
      | true =>
        rw [hc, cond_true] at hb
        have hc : c < n := Nat.lt_of_succ_le (Nat.le_of_ble_eq_true hc)
        have e1 := sv_sym hx
        cases e1
        obtain rfl := sv_int hy
        cases above
        · simp at h
          cases op <;> simp only [farL] at hb <;> first | (cases hb; done) | (cases hb; exact ⟨_, sv_bool _, .inl ⟨_, _, _, rfl, rfl, by simp [intOp]; omega⟩⟩)
        · simp at h
          cases op <;> simp only [farL] at hb <;> first | (cases hb; done) | (cases hb; exact ⟨_, sv_bool _, .inl ⟨_, _, _, rfl, rfl, by simp [intOp]; omega⟩⟩)
    · rename_i c hb2
      cases hc : Nat.blt c n with
      | false => rw [hc] at hb; cases hb
      | true =>
        rw [hc, cond_true] at hb
        have hc : c < n := Nat.lt_of_succ_le (Nat.le_of_ble_eq_true hc)
        have e1 := sv_sym hy
        cases e1
        obtain rfl := sv_int hx
        cases above
        · simp at h
          cases op <;> simp only [farR] at hb <;> first | (cases hb; done) | (cases hb; exact ⟨_, sv_bool _, .inl ⟨_, _, _, rfl, rfl, by simp [intOp]; omega⟩⟩)
        · simp at h
          cases op <;> simp only [farR] at hb <;> first | (cases hb; done) | (cases hb; exact ⟨_, sv_bool _, .inl ⟨_, _, _, rfl, rfl, by simp [intOp]; omega⟩⟩)
    · cases hb

theorem far_arg {above : Bool} {n : Nat} {o : Int} : V (Ren.start (far above n o).sym) (.chan (some 0)) (.int .i64 o) := .fr (.sym rfl rfl)
end Go.Ev
