/-
  What a tree of the statements' archives says.
-/
import Derived.Test.YthifbkjkiijkoaaArc
import Derived.Test.YthifbkjkiijkoaaLat1
namespace Go.Proofs.Ythifbkjkiijkoaa
open Go.Ev Go.Ev.Wk
set_option linter.unusedVariables false
set_option linter.unusedSimpArgs false
variable {O : Old}

/-- name; super; is it an interface; its interfaces; its chain; all its interfaces -/
structure Ent where
  nm : List UInt8
  su : List UInt8
  fc : Bool
  ifs : List (List UInt8)
  ch : List (List UInt8)
  ifl : List (List UInt8)

def tab0 : List Ent := [⟨[77, 97, 105, 110], [79, 98, 106, 101, 99, 116], false, [], [[77, 97, 105, 110], [79, 98, 106, 101, 99, 116]], []⟩,
  ⟨[73], [79, 98, 106, 101, 99, 116], true, [], [[73], [79, 98, 106, 101, 99, 116]], []⟩,
  ⟨[74], [79, 98, 106, 101, 99, 116], true, [[73]], [[74], [79, 98, 106, 101, 99, 116]], [[73]]⟩,
  ⟨[66, 97, 115, 101], [79, 98, 106, 101, 99, 116], false, [[73]], [[66, 97, 115, 101], [79, 98, 106, 101, 99, 116]], [[73]]⟩,
  ⟨[65], [66, 97, 115, 101], false, [], [[65], [66, 97, 115, 101], [79, 98, 106, 101, 99, 116]], [[73]]⟩,
  ⟨[66], [65], false, [], [[66], [65], [66, 97, 115, 101], [79, 98, 106, 101, 99, 116]], [[73]]⟩,
  ⟨[77, 105, 100], [66, 97, 115, 101], false, [], [[77, 105, 100], [66, 97, 115, 101], [79, 98, 106, 101, 99, 116]], [[73]]⟩,
  ⟨[67], [77, 105, 100], false, [], [[67], [77, 105, 100], [66, 97, 115, 101], [79, 98, 106, 101, 99, 116]], [[73]]⟩,
  ⟨[68], [66, 97, 115, 101], false, [[74]], [[68], [66, 97, 115, 101], [79, 98, 106, 101, 99, 116]], [[74], [73]]⟩,
  ⟨[69, 114, 114], [70, 97, 117, 108, 116], false, [], [[69, 114, 114], [70, 97, 117, 108, 116], [79, 98, 106, 101, 99, 116]], []⟩,
  ⟨[69, 114, 114, 50], [69, 114, 114], false, [], [[69, 114, 114, 50], [69, 114, 114], [70, 97, 117, 108, 116], [79, 98, 106, 101, 99, 116]], []⟩,
  ⟨[71, 111, 110, 101], [65], false, [], [[71, 111, 110, 101], [65], [66, 97, 115, 101], [79, 98, 106, 101, 99, 116]], [[73]]⟩,
  ⟨[85, 116, 105, 108], [79, 98, 106, 101, 99, 116], false, [], [[85, 116, 105, 108], [79, 98, 106, 101, 99, 116]], []⟩,
  ⟨[83, 105, 122, 101, 70, 97, 117, 108, 116], [70, 97, 117, 108, 116], false, [], [[83, 105, 122, 101, 70, 97, 117, 108, 116], [70, 97, 117, 108, 116], [79, 98, 106, 101, 99, 116]], []⟩,
  ⟨[90, 101, 114, 111, 70, 97, 117, 108, 116], [70, 97, 117, 108, 116], false, [], [[90, 101, 114, 111, 70, 97, 117, 108, 116], [70, 97, 117, 108, 116], [79, 98, 106, 101, 99, 116]], []⟩,
  ⟨[67, 97, 115, 116, 70, 97, 117, 108, 116], [70, 97, 117, 108, 116], false, [], [[67, 97, 115, 116, 70, 97, 117, 108, 116], [70, 97, 117, 108, 116], [79, 98, 106, 101, 99, 116]], []⟩,
  ⟨[66, 111, 117, 110, 100, 115, 70, 97, 117, 108, 116], [70, 97, 117, 108, 116], false, [], [[66, 111, 117, 110, 100, 115, 70, 97, 117, 108, 116], [70, 97, 117, 108, 116], [79, 98, 106, 101, 99, 116]], []⟩,
  ⟨[78, 117, 108, 108, 70, 97, 117, 108, 116], [70, 97, 117, 108, 116], false, [], [[78, 117, 108, 108, 70, 97, 117, 108, 116], [70, 97, 117, 108, 116], [79, 98, 106, 101, 99, 116]], []⟩,
  ⟨[70, 97, 117, 108, 116], [79, 98, 106, 101, 99, 116], false, [], [[70, 97, 117, 108, 116], [79, 98, 106, 101, 99, 116]], []⟩,
  ⟨[79, 98, 106, 101, 99, 116], [], false, [], [[79, 98, 106, 101, 99, 116]], []⟩]
def tab1 : List Ent := [⟨[77, 97, 105, 110], [79, 98, 106, 101, 99, 116], false, [], [[77, 97, 105, 110], [79, 98, 106, 101, 99, 116]], []⟩,
  ⟨[73], [79, 98, 106, 101, 99, 116], true, [], [[73], [79, 98, 106, 101, 99, 116]], []⟩,
  ⟨[74], [79, 98, 106, 101, 99, 116], true, [[73]], [[74], [79, 98, 106, 101, 99, 116]], [[73]]⟩,
  ⟨[66, 97, 115, 101], [79, 98, 106, 101, 99, 116], false, [[73]], [[66, 97, 115, 101], [79, 98, 106, 101, 99, 116]], [[73]]⟩,
  ⟨[65], [66, 97, 115, 101], false, [], [[65], [66, 97, 115, 101], [79, 98, 106, 101, 99, 116]], [[73]]⟩,
  ⟨[66], [65], false, [], [[66], [65], [66, 97, 115, 101], [79, 98, 106, 101, 99, 116]], [[73]]⟩,
  ⟨[77, 105, 100], [66, 97, 115, 101], false, [[74]], [[77, 105, 100], [66, 97, 115, 101], [79, 98, 106, 101, 99, 116]], [[74], [73]]⟩,
  ⟨[67], [77, 105, 100], false, [], [[67], [77, 105, 100], [66, 97, 115, 101], [79, 98, 106, 101, 99, 116]], [[74], [73]]⟩,
  ⟨[68], [66, 97, 115, 101], false, [[74]], [[68], [66, 97, 115, 101], [79, 98, 106, 101, 99, 116]], [[74], [73]]⟩,
  ⟨[69, 114, 114], [70, 97, 117, 108, 116], false, [], [[69, 114, 114], [70, 97, 117, 108, 116], [79, 98, 106, 101, 99, 116]], []⟩,
  ⟨[69, 114, 114, 50], [69, 114, 114], false, [], [[69, 114, 114, 50], [69, 114, 114], [70, 97, 117, 108, 116], [79, 98, 106, 101, 99, 116]], []⟩,
  ⟨[71, 111, 110, 101], [65], false, [], [[71, 111, 110, 101], [65], [66, 97, 115, 101], [79, 98, 106, 101, 99, 116]], [[73]]⟩,
  ⟨[85, 116, 105, 108], [79, 98, 106, 101, 99, 116], false, [], [[85, 116, 105, 108], [79, 98, 106, 101, 99, 116]], []⟩,
  ⟨[83, 105, 122, 101, 70, 97, 117, 108, 116], [70, 97, 117, 108, 116], false, [], [[83, 105, 122, 101, 70, 97, 117, 108, 116], [70, 97, 117, 108, 116], [79, 98, 106, 101, 99, 116]], []⟩,
  ⟨[90, 101, 114, 111, 70, 97, 117, 108, 116], [70, 97, 117, 108, 116], false, [], [[90, 101, 114, 111, 70, 97, 117, 108, 116], [70, 97, 117, 108, 116], [79, 98, 106, 101, 99, 116]], []⟩,
  ⟨[67, 97, 115, 116, 70, 97, 117, 108, 116], [70, 97, 117, 108, 116], false, [], [[67, 97, 115, 116, 70, 97, 117, 108, 116], [70, 97, 117, 108, 116], [79, 98, 106, 101, 99, 116]], []⟩,
  ⟨[66, 111, 117, 110, 100, 115, 70, 97, 117, 108, 116], [70, 97, 117, 108, 116], false, [], [[66, 111, 117, 110, 100, 115, 70, 97, 117, 108, 116], [70, 97, 117, 108, 116], [79, 98, 106, 101, 99, 116]], []⟩,
  ⟨[78, 117, 108, 108, 70, 97, 117, 108, 116], [70, 97, 117, 108, 116], false, [], [[78, 117, 108, 108, 70, 97, 117, 108, 116], [70, 97, 117, 108, 116], [79, 98, 106, 101, 99, 116]], []⟩,
  ⟨[70, 97, 117, 108, 116], [79, 98, 106, 101, 99, 116], false, [], [[70, 97, 117, 108, 116], [79, 98, 106, 101, 99, 116]], []⟩,
  ⟨[79, 98, 106, 101, 99, 116], [], false, [], [[79, 98, 106, 101, 99, 116]], []⟩]
def tab (m6 : Bool) : List Ent := match m6 with | true => tab1 | false => tab0
def ent (m6 : Bool) (s : List UInt8) : Option Ent := (tab m6).find? fun e => decide (e.nm = s)
def tmA (m6 : Bool) : TM := ⟨fun s => (ent m6 s).isSome, fun s => match ent m6 s with | some e => e.fc | none => false, fun s => match ent m6 s with | some e => e.ch | none => [], fun s => match ent m6 s with | some e => e.ifl | none => []⟩

/-- the classes of all names, in the table's order -/
theorem find_perm {l l' : List CV} (h : l.Perm l') (hn : (l'.map CV.nm).Nodup) (s : List UInt8) : (l.find? fun c => decide (c.nm = s)) = l'.find? fun c => decide (c.nm = s) := by
  have hn1 : (l.map CV.nm).Nodup := (h.map CV.nm).nodup_iff.2 hn
  have uniq : ∀ {l : List CV}, (l.map CV.nm).Nodup → ∀ c ∈ l, c.nm = s → (l.find? fun c => decide (c.nm = s)) = some c := by
    intro l
    induction l with
    | nil => intro _ c hc; cases hc
    | cons d l ih =>
      intro hn c hc hcs
      rw [List.map_cons, List.nodup_cons] at hn
      rw [List.find?_cons]
      rcases List.mem_cons.1 hc with rfl | hc
      · rw [decide_eq_true hcs]
      · have : ¬ d.nm = s := fun e => hn.1 (by rw [e, ← hcs]; exact List.mem_map.2 ⟨c, hc, rfl⟩)
        rw [decide_eq_false this]
        exact ih hn.2 c hc hcs
  cases hf : l'.find? fun c => decide (c.nm = s) with
  | none =>
    rw [List.find?_eq_none] at hf ⊢
    intro c hc
    exact hf c (h.mem_iff.1 hc)
  | some c =>
    have hm := List.mem_of_find?_eq_some hf
    have hs : c.nm = s := by simpa using List.find?_some hf
    exact uniq hn1 c (h.mem_iff.2 hm) hs

theorem gOf_perm {l l' : List CV} (h : l.Perm l') (hn : (l'.map CV.nm).Nodup) (s : List UInt8) : gOf l s = gOf l' s := by
  unfold gOf
  rw [find_perm h hn s]

/-- an entry says what a class is -/
structure EntOk (c : CV) (e : Ent) : Prop where
  nm : c.nm = e.nm
  su : c.su = e.su
  fc : c.kd = 4 ↔ e.fc = true
  ifs : c.ifs = e.ifs

/-- classes and entries, one by one -/
inductive All2E : List CV → List Ent → Prop
  | nil : All2E [] []
  | cons {c : CV} {e : Ent} {l : List CV} {m : List Ent} : EntOk c e → All2E l m → All2E (c :: l) (e :: m)

theorem All2E.find {l : List CV} {m : List Ent} (h : All2E l m) (s : List UInt8) : match m.find? fun e => decide (e.nm = s) with
    | some e => ∃ c, (l.find? fun c => decide (c.nm = s)) = some c ∧ EntOk c e
    | none => (l.find? fun c => decide (c.nm = s)) = none := by
  induction h with
  | nil => rfl
  | cons he _ ih =>
    simp only [List.find?_cons, he.nm]
    split
    · rename_i e hh
      split at hh
      · cases hh; exact ⟨_, rfl, he⟩
      · rw [hh] at ih; exact ih
    · rename_i hh
      split at hh
      · cases hh
      · rw [hh] at ih; exact ih

def biL : List CV := [bi sizB fauB, bi zerB fauB, bi casB fauB, bi bouB fauB, bi nulB fauB, bi fauB objB, bi objB []]

theorem biC_find (s : List UInt8) : biC s = biL.find? fun c => decide (c.nm = s) := by
  unfold biC biL
  have e : ∀ x : List UInt8, decide (x = s) = decide (s = x) := fun x => by rw [decide_eq_decide]; exact eq_comm
  simp only [List.find?_cons, e]
  repeat (first | (split; · rename_i h; rw [decide_eq_true h]) | (rename_i h; rw [decide_eq_false h]))
  rfl

theorem gOf_find {l : List CV} (s : List UInt8) (hd : ∀ c ∈ l, ∀ d ∈ biL, c.nm ≠ d.nm) : gOf l s = (l ++ biL).find? fun c => decide (c.nm = s) := by
  unfold gOf
  rw [biC_find, List.find?_append]
  cases hb : biL.find? fun c => decide (c.nm = s) with
  | none =>
    cases hl : l.find? fun c => decide (c.nm = s) <;> rfl
  | some d =>
    have hs : d.nm = s := by simpa using List.find?_some hb
    have hn : (l.find? fun c => decide (c.nm = s)) = none := by
      rw [List.find?_eq_none]
      intro c hc h
      exact hd c hc d (List.mem_of_find?_eq_some hb) (by rw [hs]; simpa using h)
    rw [hn]
    rfl

theorem entOk_bi : All2E biL (tab0.drop 13) := by
  repeat (first | exact .nil | refine .cons ⟨rfl, rfl, ⟨fun h => absurd h (by decide), fun h => absurd h (by decide)⟩, rfl⟩ ?_)

theorem entOk_bi1 : All2E biL (tab1.drop 13) := by
  repeat (first | exact .nil | refine .cons ⟨rfl, rfl, ⟨fun h => absurd h (by decide), fun h => absurd h (by decide)⟩, rfl⟩ ?_)

theorem PN.ent {c : CV} {nm su : List UInt8} {kd : Int} {ifs : List (List UInt8)} {e : Ent} (h : PN c nm su kd ifs) (h1 : nm = e.nm) (h2 : su = e.su) (h3 : kd = 4 ↔ e.fc = true) (h4 : ifs = e.ifs) : EntOk c e :=
  ⟨h.nm.trans h1, h.su.trans h2, by rw [h.kd]; exact h3, h.ifs.trans h4⟩
theorem PH.ent {c : CV} {nm su : List UInt8} {kd : Int} {ifs : List (List UInt8)} {fl : List FV} {e : Ent} (h : PH c nm su kd ifs fl) (h1 : nm = e.nm) (h2 : su = e.su) (h3 : kd = 4 ↔ e.fc = true) (h4 : ifs = e.ifs) : EntOk c e :=
  ⟨h.nm.trans h1, h.su.trans h2, by rw [h.kd]; exact h3, h.ifs.trans h4⟩

theorem All2E.app {l l' : List CV} {m m' : List Ent} (h : All2E l m) (h' : All2E l' m') : All2E (l ++ l') (m ++ m') := by
  induction h with
  | nil => exact h'
  | cons he _ ih => exact .cons he ih

theorem All2E.names {l : List CV} {m : List Ent} (h : All2E l m) : l.map CV.nm = m.map Ent.nm := by
  induction h with
  | nil => rfl
  | cons he _ ih => rw [List.map_cons, List.map_cons, he.nm, ih]

theorem arc_ents {m6 : Bool} {kd : Int} {c4 c5 c6 c7 c8 c9 c11 c12 c13 c14 c15 c16 c17 : CV} (hF : Fam m6 kd c4 c5 c6 c7 c8 c9) (hR : Rest c11 c12 c13 c14 c15 c16 c17) : All2E [c11, c12, c13, c4, c5, c6, c7, c8, c9, c14, c15, c16, c17] ((tab m6).take 13) := by
  have no : ∀ x : Int, x ≠ 4 → (x = 4 ↔ false = true) := fun x h => ⟨fun e => absurd e h, fun e => absurd e (by decide)⟩
  have yes : ((4 : Int) = 4 ↔ true = true) := ⟨fun _ => rfl, fun _ => rfl⟩
  have hk : kd ≠ 4 := by rcases hF.hkd with h | h <;> rw [h] <;> decide
  cases m6
  · exact .cons (hR.h11.ent rfl rfl (no _ (by decide)) rfl) (.cons (hR.h12.ent rfl rfl yes rfl) (.cons (hR.h13.ent rfl rfl yes rfl) (.cons (hF.h4.ent rfl rfl (no _ (by decide)) rfl) (.cons (hF.h5.ent rfl rfl (no _ (by decide)) rfl) (.cons (hF.h6.ent rfl rfl (no _ hk) rfl) (.cons (hF.h7.ent rfl rfl (no _ (by decide)) rfl) (.cons (hF.h8.ent rfl rfl (no _ (by decide)) rfl) (.cons (hF.h9.ent rfl rfl (no _ (by decide)) rfl) (.cons (hR.h14.ent rfl rfl (no _ (by decide)) rfl) (.cons (hR.h15.ent rfl rfl (no _ (by decide)) rfl) (.cons (hR.h16.ent rfl rfl (no _ (by decide)) rfl) (.cons (hR.h17.ent rfl rfl (no _ (by decide)) rfl) .nil))))))))))))
  · exact .cons (hR.h11.ent rfl rfl (no _ (by decide)) rfl) (.cons (hR.h12.ent rfl rfl yes rfl) (.cons (hR.h13.ent rfl rfl yes rfl) (.cons (hF.h4.ent rfl rfl (no _ (by decide)) rfl) (.cons (hF.h5.ent rfl rfl (no _ (by decide)) rfl) (.cons (hF.h6.ent rfl rfl (no _ hk) rfl) (.cons (hF.h7.ent rfl rfl (no _ (by decide)) rfl) (.cons (hF.h8.ent rfl rfl (no _ (by decide)) rfl) (.cons (hF.h9.ent rfl rfl (no _ (by decide)) rfl) (.cons (hR.h14.ent rfl rfl (no _ (by decide)) rfl) (.cons (hR.h15.ent rfl rfl (no _ (by decide)) rfl) (.cons (hR.h16.ent rfl rfl (no _ (by decide)) rfl) (.cons (hR.h17.ent rfl rfl (no _ (by decide)) rfl) .nil))))))))))))

/-- what the tree's classes are, name by name -/
def EntG (m6 : Bool) (g : List UInt8 → Option CV) : Prop := ∀ s, match ent m6 s with | some e => ∃ c, g s = some c ∧ EntOk c e | none => g s = none

theorem arc_entG {m6 : Bool} {kd : Int} {c4 c5 c6 c7 c8 c9 c11 c12 c13 c14 c15 c16 c17 : CV} {cl : List CV} (hF : Fam m6 kd c4 c5 c6 c7 c8 c9) (hR : Rest c11 c12 c13 c14 c15 c16 c17) (hp : cl.Perm [c11, c12, c13, c4, c5, c6, c7, c8, c9, c14, c15, c16, c17]) : EntG m6 (gOf cl) := by
  intro s
  have h1 := arc_ents hF hR
  have h2 : All2E biL ((tab m6).drop 13) := by cases m6; exact entOk_bi; exact entOk_bi1
  have h3 : All2E ([c11, c12, c13, c4, c5, c6, c7, c8, c9, c14, c15, c16, c17] ++ biL) (tab m6) := by
    have := h1.app h2
    rwa [List.take_append_drop] at this
  have hn : ([c11, c12, c13, c4, c5, c6, c7, c8, c9, c14, c15, c16, c17].map CV.nm).Nodup := by
    rw [h1.names]
    cases m6 <;> decide
  have hd : ∀ c ∈ [c11, c12, c13, c4, c5, c6, c7, c8, c9, c14, c15, c16, c17], ∀ d ∈ biL, c.nm ≠ d.nm := by
    intro c hc d hd e
    have m1 : c.nm ∈ ((tab m6).take 13).map Ent.nm := by rw [← h1.names]; exact List.mem_map.2 ⟨c, hc, rfl⟩
    have m2 : d.nm ∈ biL.map CV.nm := List.mem_map.2 ⟨d, hd, rfl⟩
    rw [e] at m1
    have key : ∀ x ∈ biL.map CV.nm, x ∉ ((tab m6).take 13).map Ent.nm := by cases m6 <;> decide
    exact key _ m2 m1
  have h4 := h3.find s
  rw [← gOf_find s hd, ← gOf_perm hp hn s] at h4
  exact h4

theorem ent_mem {m6 : Bool} {s : List UInt8} {e : Ent} (h : ent m6 s = some e) : e ∈ tab m6 ∧ e.nm = s :=
  ⟨List.mem_of_find?_eq_some h, by simpa using List.find?_some h⟩

def chOk (m6 : Bool) : List UInt8 → List (List UInt8) → Bool
  | s, [] => (ent m6 s).isNone
  | s, x :: l => decide (x = s) && decide (x ∉ l) && (match ent m6 s with | some e => chOk m6 e.su l | none => false)

theorem chOk_chain {m6 : Bool} {g : List UInt8 → Option CV} (hg : EntG m6 g) : ∀ {l : List (List UInt8)} {s : List UInt8}, chOk m6 s l = true → ChainOf g s l
  | [], s, h => by
    have := hg s
    simp only [chOk] at h
    cases he : ent m6 s with
    | none => rw [he] at this; exact .none this
    | some e => rw [he] at h; cases h
  | x :: l, s, h => by
    have hh := hg s
    simp only [chOk, Bool.and_eq_true, decide_eq_true_eq] at h
    obtain ⟨⟨rfl, hx⟩, h⟩ := h
    cases he : ent m6 x with
    | none => rw [he] at h; cases h
    | some e =>
      rw [he] at h hh
      obtain ⟨c, hc, hok⟩ := hh
      exact .cons hc (by rw [hok.su]; exact chOk_chain hg h) hx

def ifsP (m6 : Bool) (s : List UInt8) : List (List UInt8) := match ent m6 s with | some e => e.ifs | none => []
def underP (m6 : Bool) : Nat → List UInt8 → List (List UInt8) → Option (List (List UInt8))
  | 0, _, _ => none
  | f + 1, s, out => (ifsP m6 s).foldlM (fun out i => if (ent m6 i).isSome = true ∧ i ∉ out then underP m6 f i (out ++ [i]) else some out) out

theorem EntG.known {m6 : Bool} {g : List UInt8 → Option CV} (hg : EntG m6 g) (s : List UInt8) : (g s).isSome = (ent m6 s).isSome := by
  have h := hg s
  cases he : ent m6 s with
  | none => rw [he] at h; rw [h]; rfl
  | some e => rw [he] at h; obtain ⟨c, hc, _⟩ := h; rw [hc]; rfl

theorem EntG.ifs {m6 : Bool} {g : List UInt8 → Option CV} (hg : EntG m6 g) (s : List UInt8) : (getC g s).ifs = ifsP m6 s := by
  have h := hg s
  rw [ifsP]
  cases he : ent m6 s with
  | none => rw [he] at h; rw [getC, h]; rfl
  | some e => rw [he] at h; obtain ⟨c, hc, hok⟩ := h; rw [getC, hc]; exact hok.ifs

theorem EntG.under {m6 : Bool} {g : List UInt8 → Option CV} (hg : EntG m6 g) : ∀ (f : Nat) (s : List UInt8) (o : List (List UInt8)), underF g f s o = underP m6 f s o
  | 0, _, _ => rfl
  | f + 1, s, o => by
    rw [underF, underP, hg.ifs]
    congr 1
    funext out i
    rw [hg.known, EntG.under hg f]

theorem tmA_ok {m6 : Bool} {g : List UInt8 → Option CV} (hg : EntG m6 g) : TMok g (tmA m6) where
  known := hg.known
  iface := fun s => by
    have h := hg s
    show _ ↔ (match ent m6 s with | some e => e.fc | none => false) = true
    cases he : ent m6 s with
    | none => rw [he] at h; rw [getC, h]; exact ⟨fun e => absurd e (by decide), fun e => absurd e (by decide)⟩
    | some e => rw [he] at h; obtain ⟨c, hc, hok⟩ := h; rw [getC, hc]; exact hok.fc
  ch := fun s => by
    have h := hg s
    show ChainOf g s (match ent m6 s with | some e => e.ch | none => [])
    cases he : ent m6 s with
    | none => rw [he] at h; exact .none h
    | some e =>
      have key : ∀ e ∈ tab m6, chOk m6 e.nm e.ch = true := by cases m6 <;> decide +kernel
      obtain ⟨hm, rfl⟩ := ent_mem he
      exact chOk_chain hg (key e hm)
  chl := fun s => by
    show (match ent m6 s with | some e => e.ch | none => []).length ≤ 1000
    cases he : ent m6 s with
    | none => simp
    | some e =>
      have key : ∀ e ∈ tab m6, e.ch.length ≤ 1000 := by cases m6 <;> decide +kernel
      exact key e (ent_mem he).1
  ifl := fun s => by
    refine ⟨6, ?_⟩
    show ifsF g 6 (match ent m6 s with | some e => e.ch | none => []) [] = some (match ent m6 s with | some e => e.ifl | none => [])
    have e1 : ∀ l o, ifsF g 6 l o = l.foldlM (fun out c => underP m6 6 c out) o := fun l o => by
      rw [ifsF]; congr 1; funext out c; exact hg.under 6 c out
    rw [e1]
    cases he : ent m6 s with
    | none => rfl
    | some e =>
      have key : ∀ e ∈ tab m6, e.ch.foldlM (fun out c => underP m6 6 c out) [] = some e.ifl := by cases m6 <;> decide +kernel
      exact key e (ent_mem he).1
  ifll := fun s => by
    show (match ent m6 s with | some e => e.ifl | none => []).length ≤ 1000
    cases he : ent m6 s with
    | none => simp
    | some e =>
      have key : ∀ e ∈ tab m6, e.ifl.length ≤ 1000 := by cases m6 <;> decide +kernel
      exact key e (ent_mem he).1
end Go.Proofs.Ythifbkjkiijkoaa

