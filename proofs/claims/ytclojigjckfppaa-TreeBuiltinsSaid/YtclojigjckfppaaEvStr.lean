/-
  A text that is none of some texts, and of which it is known whether it is longer than a bound.
-/
import Derived.Test.YtclojigjckfppaaEvOrd
namespace Go.Ev
set_option linter.unusedSimpArgs false
set_option linter.unusedVariables false

noncomputable def memS (l : List UInt8) : List (List UInt8) → Bool
  | [] => false
  | a :: r => bif bytesEqF l a then true else memS l r

theorem memS_iff {l : List UInt8} : ∀ {r : List (List UInt8)}, memS l r = true ↔ l ∈ r
  | [] => by simp [memS]
  | a :: r => by
    simp only [memS, bytesEqF_eq]
    cases h : (l == a) with
    | true => simp [eq_of_beq h]
    | false =>
      have : l ≠ a := fun e => by subst e; simp at h
      simp [this, memS_iff]

noncomputable def strBin (names : List (List UInt8)) (n : Nat) (long : Bool) (op : BinOp) (x y : Value) : Option Value :=
  match op, x, y with
  | .eql, .chan (some 0), .string b => bif memS b.data.toList names then some (.bool false) else none
  | .eql, .string b, .chan (some 0) => bif memS b.data.toList names then some (.bool false) else none
  | .neq, .chan (some 0), .string b => bif memS b.data.toList names then some (.bool true) else none
  | .neq, .string b, .chan (some 0) => bif memS b.data.toList names then some (.bool true) else none
  | .gtr, .chan (some 1), .int .i64 (.ofNat c) => bif Nat.beq c n then some (.bool long) else none
  | _, _, _ => none

def slen0 (i : Nat) : Option Value := bif Nat.beq i 0 then some (.chan (some 1)) else none

noncomputable def strKnow (names : List (List UInt8)) (n : Nat) (long : Bool) (s : ByteArray) : Know where
  sym := fun i => match i with | 0 => some (.string s) | 1 => some (.int .i64 s.data.toList.length) | _ => none
  bin := strBin names n long
  slen := slen0

theorem sv_str {S : Nat → Option Value} {c : ByteArray} {v' : Value} (h : SV S (.string c) v') : v' = .string c := by
  rcases h with ⟨i, e, _⟩ | ⟨_, rfl⟩
  · cases e
  · rfl

theorem strKnow_ok {names : List (List UInt8)} {n : Nat} {long : Bool} {s : ByteArray} (hn : memS s.data.toList names = false) (hl : decide (n < s.data.toList.length) = long) : (strKnow names n long s).Ok where
  sconv := fun _ _ _ h => by cases h
  slen := fun i v h => by
    have h : slen0 i = some v := h
    unfold slen0 at h
    cases hb : Nat.beq i 0 with
    | false => rw [hb] at h; cases h
    | true =>
      obtain rfl := Nat.eq_of_beq_eq_true hb
      cases h
      exact ⟨s, rfl, .inl ⟨1, rfl, rfl, rfl⟩⟩
  bin := fun op x y v hb x' y' hx hy => by
    have ne : ∀ b : ByteArray, memS b.data.toList names = true → (s.data.toList == b.data.toList) = false := by
      intro b hb
      cases h : (s.data.toList == b.data.toList) with
      | false => rfl
      | true => rw [eq_of_beq h, hb] at hn; cases hn
    have ne2 : ∀ b : ByteArray, memS b.data.toList names = true → (b.data.toList == s.data.toList) = false := by
      intro b hb
      cases h : (b.data.toList == s.data.toList) with
      | false => rfl
      | true => rw [← eq_of_beq h, hb] at hn; cases hn
    have hb : strBin names n long op x y = some v := hb
    unfold strBin at hb
    split at hb
    · rename_i b _
      cases hc : memS b.data.toList names with
      | false => rw [hc] at hb; cases hb
      | true =>
        rw [hc] at hb; cases hb
        have := sv_sym hx; cases this
        obtain rfl := sv_str hy
        exact ⟨_, sv_bool _, .inr ⟨_, _, rfl, rfl, by simp only [strOp, ne b hc]⟩⟩
    · rename_i b _
      cases hc : memS b.data.toList names with
      | false => rw [hc] at hb; cases hb
      | true =>
        rw [hc] at hb; cases hb
        have := sv_sym hy; cases this
        obtain rfl := sv_str hx
        exact ⟨_, sv_bool _, .inr ⟨_, _, rfl, rfl, by simp only [strOp, ne2 b hc]⟩⟩
    · rename_i b _
      cases hc : memS b.data.toList names with
      | false => rw [hc] at hb; cases hb
      | true =>
        rw [hc] at hb; cases hb
        have := sv_sym hx; cases this
        obtain rfl := sv_str hy
        exact ⟨_, sv_bool _, .inr ⟨_, _, rfl, rfl, by simp only [strOp, ne b hc, Bool.not_false]⟩⟩
    · rename_i b _
      cases hc : memS b.data.toList names with
      | false => rw [hc] at hb; cases hb
      | true =>
        rw [hc] at hb; cases hb
        have := sv_sym hy; cases this
        obtain rfl := sv_str hx
        exact ⟨_, sv_bool _, .inr ⟨_, _, rfl, rfl, by simp only [strOp, ne2 b hc, Bool.not_false]⟩⟩
    · rename_i c _
      cases hc : Nat.beq c n with
      | false => rw [hc] at hb; cases hb
      | true =>
        rw [hc] at hb; cases hb
        obtain rfl := Nat.eq_of_beq_eq_true hc
        have := sv_sym hx; cases this
        obtain rfl := sv_int hy
        refine ⟨_, sv_bool _, .inl ⟨_, _, _, rfl, rfl, ?_⟩⟩
        simp only [intOp, ← hl]
        congr 2
        simp
    · cases hb

theorem str_arg {names : List (List UInt8)} {n : Nat} {long : Bool} {s : ByteArray} : V (Ren.start (strKnow names n long s).sym) (.chan (some 0)) (.string s) := .fr (.sym rfl rfl)

theorem str_is {s : ByteArray} {l : List UInt8} (h : s.data.toList = l) : s = ⟨⟨l⟩⟩ := by
  apply ByteArray.ext
  rw [← h]
end Go.Ev
