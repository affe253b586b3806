/-
  Walks: the n-th name; names come by length, then by letters.
-/
import Derived.Test.YtmmojhbboomgoaaEvTab
import Derived.Test.YtmmojhbboomgoaaEvZ
namespace Go.Proofs.Ytmmojhbboomgoaa
open Go.Ev Go.Ev.Wk
set_option linter.unusedVariables false
set_option linter.unusedSimpArgs false
variable {O : Old}


/-- a letter -/
def letN (r : Nat) : UInt8 := UInt8.ofNat (97 + r % 26)
/-- the n-th name -/
def nthL (n : Nat) : List UInt8 := if h : n < 26 then [letN n] else nthL (n / 26 - 1) ++ [letN n]
termination_by n
decreasing_by omega

theorem nthL_lt {n : Nat} (h : n < 26) : nthL n = [letN n] := by rw [nthL, dif_pos h]
theorem nthL_ge {n : Nat} (h : ¬ n < 26) : nthL n = nthL (n / 26 - 1) ++ [letN n] := by rw [nthL, dif_neg h]

theorem nthL_len : ∀ n : Nat, (nthL n).length ≤ n + 1 := by
  intro n
  induction n using Nat.strongRecOn with
  | _ n ih =>
    by_cases h : n < 26
    · rw [nthL_lt h]; simp
    · rw [nthL_ge h, List.length_append]
      have := ih (n / 26 - 1) (by omega)
      simp only [List.length_singleton]
      omega

theorem letN_inj {x y : Nat} (h : letN x = letN y) : x % 26 = y % 26 := by
  have h2 := congrArg UInt8.toNat h
  simp only [letN, UInt8.toNat_ofNat'] at h2
  omega
theorem letN_lt {x y : Nat} : letN x < letN y ↔ x % 26 < y % 26 := by
  rw [UInt8.lt_iff_toNat_lt]
  simp only [letN, UInt8.toNat_ofNat']
  omega

theorem bl_irr : ∀ l : List UInt8, Op.bytesLess l l = false
  | [] => rfl
  | a :: l => by simp [Op.bytesLess, bl_irr l, UInt8.lt_irrefl]

theorem bl_app : ∀ {a b : List UInt8} (c d : UInt8), a.length = b.length → Op.bytesLess (a ++ [c]) (b ++ [d]) = (Op.bytesLess a b || (decide (a = b) && decide (c < d)))
  | [], [], c, d, _ => by simp [Op.bytesLess]
  | [], _ :: _, _, _, h => by cases h
  | _ :: _, [], _, _, h => by cases h
  | x :: a, y :: b, c, d, h => by
    have ih := bl_app (a := a) (b := b) c d (by simpa using h)
    simp only [List.cons_append, Op.bytesLess, ih]
    by_cases hxy : x = y
    · subst hxy
      simp [UInt8.lt_irrefl]
    · have hb : (x == y) = false := beq_eq_false_iff_ne.2 hxy
      simp [hxy, hb]

/-- how two names stand to one another -/
theorem nth_law : ∀ (x y : Nat), (x < y → (nthL x).length < (nthL y).length ∨ (nthL x).length = (nthL y).length ∧ Op.bytesLess (nthL x) (nthL y) = true) := by
  intro x
  induction x using Nat.strongRecOn with
  | _ x ih =>
    intro y hxy
    by_cases hx : x < 26
    · rw [nthL_lt hx]
      by_cases hy : y < 26
      · rw [nthL_lt hy]
        refine .inr ⟨rfl, ?_⟩
        have : letN x < letN y := letN_lt.2 (by omega)
        simp [Op.bytesLess, this]
      · rw [nthL_ge hy]
        have : 0 < (nthL (y / 26 - 1)).length := by
          by_cases h : y / 26 - 1 < 26
          · rw [nthL_lt h]; simp
          · rw [nthL_ge h]; simp
        exact .inl (by simp; omega)
    · have hy : ¬ y < 26 := by omega
      rw [nthL_ge hx, nthL_ge hy]
      simp only [List.length_append, List.length_singleton]
      rcases Nat.lt_or_ge (x / 26 - 1) (y / 26 - 1) with h | h
      · rcases ih (x / 26 - 1) (by omega) _ h with h1 | ⟨h1, h2⟩
        · exact .inl (by omega)
        · refine .inr ⟨by omega, ?_⟩
          rw [bl_app _ _ h1, h2]; rfl
      · have e : x / 26 - 1 = y / 26 - 1 := by omega
        have hl : letN x < letN y := letN_lt.2 (by omega)
        refine .inr ⟨by rw [e], ?_⟩
        rw [bl_app _ _ (by rw [e]), e]
        simp [hl]

theorem bl_asym : ∀ {a b : List UInt8}, Op.bytesLess a b = true → Op.bytesLess b a = false
  | _, [], h => by cases ‹List UInt8› <;> cases h
  | [], _ :: _, _ => rfl
  | x :: a, y :: b, h => by
    simp only [Op.bytesLess, Bool.or_eq_true, decide_eq_true_eq, Bool.and_eq_true, beq_iff_eq] at h
    simp only [Op.bytesLess, Bool.or_eq_false_iff, decide_eq_false_iff_not, Bool.and_eq_false_iff, beq_eq_false_iff_ne]
    rcases h with h | ⟨rfl, h⟩
    · exact ⟨UInt8.lt_asymm h, .inl (fun e => by subst e; exact UInt8.lt_irrefl _ h)⟩
    · exact ⟨UInt8.lt_irrefl _, .inr (bl_asym h)⟩

/-- the order of names -/
def lessN (s t : List UInt8) : Bool := decide ((s.length : Int) < (t.length : Int)) || (((s.length : Int) == (t.length : Int)) && Op.bytesLess s t)

theorem lessN_eq (x y : Nat) : lessN (nthL x) (nthL y) = decide ((x : Int) < (y : Int)) ∧ decide (nthL x = nthL y) = ((x : Int) == (y : Int)) := by
  have beqI : ∀ a b : Int, (a == b) = decide (a = b) := fun a b => by
    by_cases h : a = b
    · subst h; simp
    · rw [decide_eq_false h]; exact beq_eq_false_iff_ne.2 h
  rw [lessN, beqI, beqI]
  rcases Nat.lt_trichotomy x y with h | h | h
  · have hx : decide ((x : Int) < (y : Int)) = true := decide_eq_true (by omega)
    rw [hx, decide_eq_false (p := (x : Int) = (y : Int)) (by omega)]
    rcases nth_law x y h with h1 | ⟨h1, h2⟩
    · exact ⟨by rw [decide_eq_true (by omega)]; rfl, decide_eq_false fun e => by rw [e] at h1; omega⟩
    · exact ⟨by rw [decide_eq_true (p := ((nthL x).length : Int) = _) (by omega), h2]; simp, decide_eq_false fun e => by rw [e, bl_irr] at h2; cases h2⟩
  · subst h
    exact ⟨by rw [bl_irr]; simp, by simp⟩
  · have hx : decide ((x : Int) < (y : Int)) = false := decide_eq_false (by omega)
    rw [hx, decide_eq_false (p := (x : Int) = (y : Int)) (by omega)]
    rcases nth_law y x h with h1 | ⟨h1, h2⟩
    · exact ⟨by rw [decide_eq_false (p := ((nthL x).length : Int) < _) (by omega), decide_eq_false (p := ((nthL x).length : Int) = _) (by omega)]; rfl, decide_eq_false fun e => by rw [e] at h1; omega⟩
    · exact ⟨by rw [bl_asym h2, decide_eq_false (p := ((nthL x).length : Int) < _) (by omega)]; simp, decide_eq_false fun e => by rw [e, bl_irr] at h2; cases h2⟩

set_option maxHeartbeats 8000000 in
set_option maxRecDepth 100000 in
theorem nth_ok : ∀ (k : Nat) {H : Heap} {n : Int}, n.toNat = k → -1000000000 ≤ n → n ≤ 1000000000 → CallC TT O 5 [.int .i64 n] H fun v H' => v = str (nthL k) ∧ Ext H H' := by
  intro k
  induction k using Nat.strongRecOn with
  | _ k ih =>
    intro H n hk h1 h2
    have hmax : max n 0 = (k : Int) := by omega
    refine call_pure rfl rfl rfl rfl rfl ?_
    repeat (first | refine zr ?_ | (refine zn ?_; intro _))
    have hr : k % 26 < 26 := Nat.mod_lt _ (by decide)
    rw [show (bif true then if (0 : Int) > n then (0 : Int) else n else if (0 : Int) < n then (0 : Int) else n) = (k : Int) from by simp only [cond_true]; split <;> omega]
    rw [show (k : Int).tmod 26 = ((k % 26 : Nat) : Int) from tmodN (m := 26) (by omega) rfl]
    rw [show IntKind.u8.wrap ((k % 26 : Nat) : Int) = ((k % 26 : Nat) : Int) from w8 rfl (by omega) (by omega)]
    rw [show IntKind.u8.wrap (97 + ((k % 26 : Nat) : Int)) = ((97 + k % 26 : Nat) : Int) from w8 rfl (by omega) (by omega)]
    have hby : bytesOf [.int .u8 ((97 + k % 26 : Nat) : Int)] = some [letN k] := rfl
    (first | apply ops_pl rfl rfl rfl ?_ rfl ?_ | apply draw_pl rfl rfl rfl rfl ?_ rfl rfl ?_); rotate_left; focus exact (.l rfl (look_str 0 rfl rfl rfl rfl rfl rfl hby))
    repeat (first | refine zr ?_ | (refine zn ?_; intro _))
    refine exec_cond rfl (fun hlt => ?_) (fun hge => ?_)
    · have hlt : k < 26 := by have h := of_decide_eq_true hlt; omega
      repeat (first | refine zr ?_ | (refine zn ?_; intro _))
      exact ⟨trivial, _, rfl, by rw [nthL_lt hlt]; rfl⟩
    have hge : ¬ k < 26 := by have h := of_decide_eq_false hge; omega
    have hlen := nthL_len (k / 26 - 1)
    repeat (first | refine zr ?_ | (refine zn ?_; intro _))
    rw [show (k : Int).tdiv 26 = ((k / 26 : Nat) : Int) from rfl, show IntKind.i64.wrap ((k / 26 : Nat) : Int) = ((k / 26 : Nat) : Int) from w64 rfl (by omega) (by omega), show IntKind.i64.wrap (((k / 26 : Nat) : Int) - 1) = ((k / 26 - 1 : Nat) : Int) from by rw [show ((k / 26 : Nat) : Int) - 1 = ((k / 26 - 1 : Nat) : Int) from by omega]; exact w64 rfl (by omega) (by omega)]
    refine ops_step rfl rfl rfl (step_call_pure rfl rfl rfl (fun H hs => ih (k / 26 - 1) (by omega) (by omega) (by omega) (by omega)) ?_)
    repeat (first | refine zr ?_ | (refine zn ?_; intro _))
    exact ⟨trivial, _, rfl, by rw [nthL_ge hge]; rfl⟩

set_option maxHeartbeats 8000000 in
set_option maxRecDepth 100000 in
theorem renameOrder_walk {n m : Int} :
    CallC TT O 3 [.int .i64 n, .int .i64 m] .empty fun v H' => v = .bool true ∧ Ext .empty H' := by
  have hand : ∀ n : Int, ∃ x : Nat, x < 16777216 ∧ IntKind.i64.wrap ((BitVec.ofInt IntKind.i64.bits n &&& BitVec.ofInt IntKind.i64.bits 16777215).toNat : Int) = (x : Int) := fun n => by
    have h := BitVec.toNat_and (BitVec.ofInt IntKind.i64.bits n) (BitVec.ofInt IntKind.i64.bits 16777215)
    have h2 : (BitVec.ofInt IntKind.i64.bits n &&& BitVec.ofInt IntKind.i64.bits 16777215).toNat ≤ 16777215 := by
      rw [h]
      exact Nat.le_trans Nat.and_le_right (by decide)
    exact ⟨_, by omega, w64 rfl (by omega) (by omega)⟩
  obtain ⟨x, hx, ex⟩ := hand n
  obtain ⟨y, hy, ey⟩ := hand m
  refine call_pure rfl rfl rfl rfl rfl ?_
  repeat (first | refine zr ?_ | (refine zn ?_; intro _))
  refine ops_step rfl rfl rfl (step_call_pure rfl rfl rfl (fun H hs => call_known rfl) ?_)
  repeat (first | refine zr ?_ | (refine zn ?_; intro _))
  rw [ex, ey]
  repeat (first | refine zr ?_ | (refine zn ?_; intro _))
  refine ops_step rfl rfl rfl (step_call_pure rfl rfl rfl (fun H hs => nth_ok x (by omega) (by omega) (by omega)) ?_)
  repeat (first | refine zr ?_ | (refine zn ?_; intro _))
  refine ops_step rfl rfl rfl (step_call_pure rfl rfl rfl (fun H hs => nth_ok y (by omega) (by omega) (by omega)) ?_)
  repeat (first | refine zr ?_ | (refine zn ?_; intro _))
  have hlx : ((⟨⟨nthL x⟩⟩ : ByteArray).data.toList.length : Int) = ((nthL x).length : Int) := rfl
  have hly : ((⟨⟨nthL y⟩⟩ : ByteArray).data.toList.length : Int) = ((nthL y).length : Int) := rfl
  rw [hlx, hly]
  obtain ⟨e1, e2⟩ := lessN_eq x y
  rw [lessN] at e1
  have ha : nthL 0 = [97] := by rw [nthL_lt (by decide)]; rfl
  refine OpsS.mono (Q := fun E L => SubE [(5, .int .i64 (x : Int)), (6, .int .i64 (y : Int)), (7, str (nthL x)), (8, str (nthL y)), (9, .bool (decide ((x : Int) < (y : Int))))] E ∧ L = []) ?_ ?_
  · cases h1 : decide (((nthL x).length : Int) < ((nthL y).length : Int))
    · rw [h1] at e1
      repeat (first | refine zo ?_ | (refine zn ?_; intro _))
      have hlx : ((⟨⟨nthL x⟩⟩ : ByteArray).data.toList.length : Int) = ((nthL x).length : Int) := rfl
      have hly : ((⟨⟨nthL y⟩⟩ : ByteArray).data.toList.length : Int) = ((nthL y).length : Int) := rfl
      rw [hlx, hly]
      cases h2 : (((nthL x).length : Int) == ((nthL y).length : Int))
      · rw [h2] at e1
        repeat (first | refine zo ?_ | (refine zn ?_; intro _))
        exact ops_nil ⟨⟨rfl, rfl, rfl, rfl, by rw [← e1]; rfl, trivial⟩, rfl⟩
      · rw [h2] at e1
        repeat (first | refine zo ?_ | (refine zn ?_; intro _))
        exact ops_nil ⟨⟨rfl, rfl, rfl, rfl, by rw [← e1]; rfl, trivial⟩, rfl⟩
    · rw [h1] at e1
      repeat (first | refine zo ?_ | (refine zn ?_; intro _))
      exact ops_nil ⟨⟨rfl, rfl, rfl, rfl, by rw [← e1]; rfl, trivial⟩, rfl⟩
  rintro E L ⟨hE, rfl⟩
  refine ExecS.weak hE (List.Sublist.refl _) ?_
  repeat (first | refine zr ?_ | (refine zn ?_; intro _))
  have hb : ((⟨⟨nthL x⟩⟩ : ByteArray).data.toList == (⟨⟨nthL y⟩⟩ : ByteArray).data.toList) = ((x : Int) == (y : Int)) := by
    rw [← e2]
    show (nthL x == nthL y) = decide (nthL x = nthL y)
    by_cases h : nthL x = nthL y
    · rw [h]; simp
    · rw [decide_eq_false h]; exact beq_eq_false_iff_ne.2 h
  rw [hb, show (((x : Int) == (y : Int)) == ((x : Int) == (y : Int))) = true from by simp]
  repeat (first | refine zr ?_ | (refine zn ?_; intro _))
  refine ops_step rfl rfl rfl (step_call_pure rfl rfl rfl (fun H hs => nth_ok 0 (by omega) (by omega) (by omega)) ?_)
  rw [ha]
  repeat (first | refine zr ?_ | (refine zn ?_; intro _))
  exact ⟨trivial, _, rfl, rfl⟩
end Go.Proofs.Ytmmojhbboomgoaa

