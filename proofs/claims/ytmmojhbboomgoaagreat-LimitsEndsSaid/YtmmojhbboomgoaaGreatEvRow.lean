/-
  From 'it returns true, and the memory that was there stays' to a row's contract.
-/
import Derived.Test.YtmmojhbboomgoaaGreatEvFast
import Derived.ProofKit
namespace Go.Ev
set_option linter.unusedSimpArgs false
set_option linter.unusedVariables false
open Go.ChangeShapes Go.WideShapes Go.ChangeAt Go.RowKit

/-- The memory that was there stays, and what has been said to the world. -/
def Stays (W W' : World) : Prop := (∀ r, r < W.heap.size → W'.heap[r]? = W.heap[r]?) ∧ W.heap.size ≤ W'.heap.size ∧ W'.os = W.os ∧ W'.output = W.output

theorem Stays.kept {W W' : World} (h : Stays W W') (may : MemPlace → Prop) : W.keptBut W' may := by
  refine ⟨h.2.2.1, h.2.2.2, fun i hi => ?_⟩
  rw [h.1 i hi]
  cases W.heap[i]? with
  | none => rfl
  | some o =>
    cases o with
    | cells c t fr => exact ⟨rfl, rfl, rfl, fun _ _ => rfl⟩
    | map es clock => exact .inr ⟨rfl, rfl⟩
    | _ => rfl

theorem Stays.frozen {W W' : World} (h : Stays W W') {a : Addr} (ha : a.block < W.heap.size) : W'.frozen? a = W.frozen? a := by
  unfold World.frozen?
  rw [h.1 _ ha]

/-- 'post_of_same', asking of the memory that was there alone that it is not frozen. -/
theorem post_mine {H : Type} {enc : TypeId × Value → H} {P : Program} {f : Func} {s : ChangeSpec} {apart fresh handsOn again : Bool} {W W' : World} {args : Array Value} {v : Value} {ds gs : List (DataW H)} {before pa pv : List MemPlace}
    (hW : DataW.Whole enc P f.params.toList s.vars apart W args.toList ds gs before) (hst : Stays W W')
    (hres : ∀ (b : Nat) (sp : Nat → Bool) (hd : Bool), DataW.TrodAll enc P W' b sp hd f.resultTypes.toList (v.resultList f.resultTypes.size) (s.fn H (ds ++ gs)).results [])
    (hargs : ∀ sp : Nat → Bool, (∀ p ∈ before, sp p.block = true) → DataW.TrodAll enc P W' 0 sp true f.params.toList args.toList (s.fn H (ds ++ gs)).args pa)
    (hvars : ∀ sp : Nat → Bool, (∀ p ∈ before, sp p.block = true) → DataW.TrodVars enc P W' sp s.vars (s.fn H (ds ++ gs)).vars pv)
    (hps : before = pa ++ pv)
    (hok : ∀ (j : Nat) (t : TypeId) (r : Value), f.resultTypes[j]? = some t → (v.resultList f.resultTypes.size)[j]? = some r → Value.okWide P W' .any 0 t r) :
    s.post enc P f apart fresh handsOn again W args v W' := by
  have hold : ∀ p ∈ before, (fun b => decide (b < W.heap.size)) p.block = true := fun p hp => by simpa using hW.lt p hp
  have hlt : ∀ p ∈ before, p.block < W.heap.size := hW.lt
  refine ⟨ds, gs, before, [], pa, pv, hW, hres _ _ _, hargs _ hold, hvars _ hold, World.keptBut_mono (fun p hp => ⟨hp, ?_⟩) (hst.kept (· ∈ before)), fun _ => ?_⟩
  · rw [hps, List.mem_append] at hp
    exact Or.inr hp
  · obtain ⟨_, _, _, _, _, hz, hn⟩ := hW
    refine ⟨hok, _, _, ([] ++ pa) ++ pv, ⟨[] ++ pa, pv, trodAll_append (hargs _ (fun _ _ => rfl)) (hres _ _ _), hvars _ (fun _ _ => rfl), rfl, ?_, ?_⟩, ?_⟩
    · intro b off hp
      have hb : MemPlace.cell b off ∈ before := by rw [hps]; simpa using hp
      rw [hst.frozen (a := ⟨b, off, none⟩) (hlt _ hb)]
      exact hz b off hb
    · intro ha
      have := hn ha
      rw [hps] at this
      simpa using this
    · intro p hp _
      rw [hps]
      simpa using hp

/-- for all numbers below n -/
noncomputable def allB (n : Nat) (p : Nat → Bool) : Bool := Nat.rec true (fun i ih => Bool.rec false ih (p i)) n

theorem allB_spec {p : Nat → Bool} : ∀ {n : Nat}, allB n p = true → ∀ i, i < n → p i = true
  | 0, _, i, hi => by omega
  | n + 1, h, i, hi => by
    have h : (Bool.rec (motive := fun _ => Bool) false (allB n p) (p n)) = true := h
    cases hp : p n with
    | false => rw [hp] at h; cases h
    | true =>
      rw [hp] at h
      by_cases e : i = n
      · subst e; exact hp
      · exact allB_spec h i (by omega)

theorem u8_range {a : Int} (w : (Lit.int .u8 a).wf = true) : 0 ≤ a ∧ a ≤ 255 := by
  simpa [Lit.wf, IntKind.min, IntKind.max, IntKind.signed, IntKind.bits] using w

theorem res_arg {ρ : Ren} {m : Nat} {a : Int} (w : (Lit.int .u8 a).wf = true) : V ρ (.complex .f32 m (a.toNat % m)) (.int .u8 a) := by
  obtain ⟨h0, h1⟩ := u8_range w
  obtain ⟨n, rfl⟩ : ∃ n : Nat, a = n := ⟨a.toNat, by omega⟩
  exact .fr (.res (fk := .f32) (by omega) (by simp))

theorem u8_arg {ρ : Ren} {a : Int} (w : (Lit.int .u8 a).wf = true) : V ρ (.int .u8 (Int.ofNat a.toNat)) (.int .u8 a) := by
  obtain ⟨h0, h1⟩ := u8_range w
  have e : Int.ofNat a.toNat = a := by simp; omega
  rw [e]
  exact .flat rfl

theorem u8_lt {a : Int} (w : (Lit.int .u8 a).wf = true) : a.toNat < 256 := by
  obtain ⟨h0, h1⟩ := u8_range w
  omega

theorem bool_arg {ρ : Ren} (b : Bool) : V ρ (.bool (Nat.beq b.toNat 1)) (.bool b) := by cases b <;> exact .flat rfl
theorem bool_lt (b : Bool) : b.toNat < 2 := by cases b <;> decide
end Go.Ev
