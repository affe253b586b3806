/-
  Walks: the law's types.
-/
import Derived.Test.YthifbkjkiijkoaaLat1
namespace Go.Proofs.Ythifbkjkiijkoaa
open Go.Ev Go.Ev.Wk
set_option linter.unusedVariables false
set_option linter.unusedSimpArgs false
variable {O : Old}


def lowT (s : List UInt8) : List Typ := [(1, []), (2, []), (3, []), (6, []), (7, []), (5, []), (4, s), (0, [])]
def clsN : List (List UInt8) := [[65], [66], [66, 97, 115, 101], [73], [74], [77, 105, 100], [67], [68], [69, 114, 114], objB, fauB, [78, 111, 98, 111, 100, 121]]
/-- the law's types -/
def ofT (n : Nat) (s : List UInt8) : Typ := if 40 ≤ n then (4, clsN[n % 12]?.getD []) else (lowT s)[n % 8]?.getD (0, [])

theorem clsN_get (n : Nat) : (clsN.map str)[0 + ((n % 12 : Nat) : Int).toNat * 1]? = some (str (clsN[n % 12]?.getD [])) := by
  have h : n % 12 < clsN.length := Nat.mod_lt _ (by decide)
  rw [show 0 + ((n % 12 : Nat) : Int).toNat * 1 = n % 12 from by omega, List.getElem?_map, List.getElem?_eq_getElem h]
  rfl

theorem lowT_rd (s : List UInt8) (n : Nat) : rdL (typC (lowT s)) 2 (0 + ((n % 8 : Nat) : Int).toNat * 2) = some [.int .i64 ((lowT s)[n % 8]?.getD (0, [])).1, str ((lowT s)[n % 8]?.getD (0, [])).2] := by
  have h : ∀ m < 8, rdL (typC (lowT s)) 2 (m * 2) = some [.int .i64 ((lowT s)[m]?.getD (0, [])).1, str ((lowT s)[m]?.getD (0, [])).2] := by
    intro m hm
    match m, hm with
    | 0, _ => rfl
    | 1, _ => rfl
    | 2, _ => rfl
    | 3, _ => rfl
    | 4, _ => rfl
    | 5, _ => rfl
    | 6, _ => rfl
    | 7, _ => rfl
    | m + 8, h => omega
  rw [show 0 + ((n % 8 : Nat) : Int).toNat * 2 = n % 8 * 2 from by omega]
  exact h _ (Nat.mod_lt _ (by decide))

set_option maxHeartbeats 16000000 in
set_option maxRecDepth 100000 in
theorem lawOf_ok {H : Heap} {n : Nat} {s : List UInt8} (hn : n ≤ 255) : CallC TT O 16 [.int .u8 (n : Int), str s] H fun v H' => v = typV (ofT n s) ∧ Ext H H' := by
  have h8 : (n : Int).tmod 8 = ((n % 8 : Nat) : Int) := tmodN (m := 8) (by omega) (by omega)
  have h12 : (n : Int).tmod 12 = ((n % 12 : Nat) : Int) := tmodN (m := 12) (by omega) (by omega)
  refine call_pureM rfl rfl rfl rfl rfl ?_
  repeat (first | refine zr ?_ | (refine zn ?_; intro _))
  cases h40 : decide ((n : Int) ≥ 40)
  · have e : ofT n s = (lowT s)[n % 8]?.getD (0, []) := by rw [ofT, if_neg (by have := of_decide_eq_false h40; omega)]
    rw [e]
    repeat (first | refine zr ?_ | (refine zn ?_; intro _))
    rw [h8]
    (first | apply ops_pl rfl rfl rfl ?_ rfl ?_ | apply draw_pl rfl rfl rfl rfl ?_ rfl rfl ?_); rotate_left; focus exact (.p rfl (opP_idxo (z := 2) rfl rfl rfl rfl (by omega) (by omega)))
    (first | apply ops_pl rfl rfl rfl ?_ rfl ?_ | apply draw_pl rfl rfl rfl rfl ?_ rfl rfl ?_); rotate_left; focus exact (.l rfl (look_agg 0 rfl rfl rfl (lowT_rd s n)))
    repeat (first | refine zr ?_ | (refine zn ?_; intro _))
    refine ⟨trivial, [_], ⟨look_agg 1 rfl rfl rfl rfl, trivial⟩, rfl⟩
  · have e : ofT n s = (4, clsN[n % 12]?.getD []) := by rw [ofT, if_pos (by have := of_decide_eq_true h40; omega)]
    rw [e]
    repeat (first | refine zr ?_ | (refine zn ?_; intro _))
    rw [h12]
    (first | apply ops_pl rfl rfl rfl ?_ rfl ?_ | apply draw_pl rfl rfl rfl rfl ?_ rfl rfl ?_); rotate_left; focus exact (.p rfl (opP_idxo (z := 1) rfl rfl rfl rfl (by omega) (by omega)))
    (first | apply ops_pl rfl rfl rfl ?_ rfl ?_ | apply draw_pl rfl rfl rfl rfl ?_ rfl rfl ?_); rotate_left; focus exact (.l rfl (look_own 0 rfl rfl rfl (clsN_get n)))
    repeat (first | refine zr ?_ | (refine zn ?_; intro _))
    refine ⟨trivial, [_], ⟨look_agg 2 rfl rfl rfl rfl, trivial⟩, rfl⟩
end Go.Proofs.Ythifbkjkiijkoaa

