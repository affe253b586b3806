/-
  Walks: a method's text, and its key.
-/
import Derived.Test.YtceoheliineobaaDesc4
namespace Go.Proofs.Ytceoheliineobaa
open Go.Ev Go.Ev.Wk
set_option linter.unusedVariables false
set_option linter.unusedSimpArgs false
variable {O : Old}

/-- the beginning of a method's text: its first types -/
def ofP (l : List (Int × List UInt8)) (i : Nat) : List UInt8 := [40] ++ (l.take i).flatMap fun x => typeL x.1 x.2
/-- a method's text -/
def ofL (l : List (Int × List UInt8)) (k : Int) (cl : List UInt8) : List UInt8 := ofP l l.length ++ ([41] ++ typeL k cl)

theorem typeL_len (k : Int) (cl : List UInt8) : (typeL k cl).length ≤ cl.length + 2 := by
  unfold typeL
  split; · simp; try omega
  split; · simp; try omega
  split; · simp; try omega
  split; · simp; try omega
  split; · simp; try omega
  simp

theorem ofP_succ {l : List (Int × List UInt8)} {i : Nat} {x : Int × List UInt8} (h : l[i]? = some x) : ofP l (i + 1) = ofP l i ++ typeL x.1 x.2 := by
  unfold ofP
  rw [List.take_add_one, h, List.flatMap_append, List.append_assoc]
  simp

theorem ofP_len {l : List (Int × List UInt8)} {B : Nat} (hc : ∀ x ∈ l, x.2.length ≤ B) : ∀ i, i ≤ l.length → (ofP l i).length ≤ 1 + i * (B + 2)
  | 0, _ => by simp [ofP]
  | i + 1, h => by
    obtain ⟨x, hx⟩ : ∃ x, l[i]? = some x := ⟨_, List.getElem?_eq_getElem (by omega)⟩
    rw [ofP_succ hx, List.length_append]
    have h1 := ofP_len hc i (by omega)
    have h2 := typeL_len x.1 x.2
    have h3 := hc x (List.mem_of_getElem? hx)
    rw [Nat.add_mul]
    omega

/-- a method -/
abbrev methV (nm : List UInt8) (a : Option Addr) (n c : Nat) (k : Int) (cl : List UInt8) (b1 b2 : Bool) (i : Int) (x y : Value) : Value := .agg #[str nm, .slice a n c, .int .i64 k, str cl, .bool b1, .bool b2, .int .i64 i, x, y]

end Go.Proofs.Ytceoheliineobaa

