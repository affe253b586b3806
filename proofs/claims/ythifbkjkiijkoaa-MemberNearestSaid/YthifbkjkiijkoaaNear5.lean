/-
  What objects of the family's classes have.
-/
import Derived.Test.YthifbkjkiijkoaaNear4
import Derived.Test.YthifbkjkiijkoaaTm
namespace Go.Proofs.Ythifbkjkiijkoaa
open Go.Ev Go.Ev.Wk
set_option linter.unusedVariables false
set_option linter.unusedSimpArgs false
variable {O : Old}

theorem find_uniq : ∀ {l : List CV}, (l.map CV.nm).Nodup → ∀ c ∈ l, (l.find? fun d => decide (d.nm = c.nm)) = some c
  | [], _, c, hc => by cases hc
  | d :: l, hn, c, hc => by
    rw [List.map_cons, List.nodup_cons] at hn
    rw [List.find?_cons]
    rcases List.mem_cons.1 hc with rfl | hc
    · rw [decide_eq_true rfl]
    · have : ¬ d.nm = c.nm := fun e => hn.1 (by rw [e]; exact List.mem_map.2 ⟨c, hc, rfl⟩)
      rw [decide_eq_false this]
      exact find_uniq hn.2 c hc

theorem gOf_get {l : List CV} (hn : (l.map CV.nm).Nodup) {c : CV} (hc : c ∈ l) {s : List UInt8} (hs : c.nm = s) (hb : biC s = none) : gOf l s = some c := by
  subst hs
  unfold gOf
  rw [hb]
  exact find_uniq hn c hc

/-- the family's classes, by their names -/
structure NearG (g : List UInt8 → Option CV) (m6 : Bool) (kd : Int) (c4 c5 c6 c7 c8 c9 : CV) : Prop where
  fam : Fam m6 kd c4 c5 c6 c7 c8 c9
  g4 : g [66, 97, 115, 101] = some c4
  g5 : g [65] = some c5
  g6 : g [66] = some c6
  g7 : g [77, 105, 100] = some c7
  g8 : g [67] = some c8
  g9 : g [68] = some c9
  gO : g objB = some (bi objB [])

theorem arc_near {m6 : Bool} {kd : Int} {c4 c5 c6 c7 c8 c9 c11 c12 c13 c14 c15 c16 c17 : CV} {cl : List CV} (hF : Fam m6 kd c4 c5 c6 c7 c8 c9) (hR : Rest c11 c12 c13 c14 c15 c16 c17) (hp : cl.Perm [c11, c12, c13, c4, c5, c6, c7, c8, c9, c14, c15, c16, c17]) : NearG (gOf cl) m6 kd c4 c5 c6 c7 c8 c9 := by
  have hn : (cl.map CV.nm).Nodup := by
    rw [(hp.map CV.nm).nodup_iff, (arc_ents hF hR).names]
    cases m6 <;> decide
  have hm : ∀ c ∈ [c4, c5, c6, c7, c8, c9], c ∈ cl := fun c hc => hp.mem_iff.2 (by
    simp only [List.mem_cons, List.not_mem_nil, or_false] at hc ⊢
    rcases hc with rfl | rfl | rfl | rfl | rfl | rfl <;> simp)
  exact ⟨hF, gOf_get hn (hm _ (by simp)) hF.h4.nm rfl, gOf_get hn (hm _ (by simp)) hF.h5.nm rfl, gOf_get hn (hm _ (by simp)) hF.h6.nm rfl, gOf_get hn (hm _ (by simp)) hF.h7.nm rfl, gOf_get hn (hm _ (by simp)) hF.h8.nm rfl, gOf_get hn (hm _ (by simp)) hF.h9.nm rfl, by unfold gOf; rfl⟩

theorem getC_eq {g : List UInt8 → Option CV} {s : List UInt8} {c : CV} (h : g s = some c) : getC g s = c := by rw [getC, h]; rfl

/-- the first of some classes that has the method, of which the last has it -/
theorem first_split {g : List UInt8 → Option CV} {b : List UInt8} {post : List (List UInt8)} {mb : MV} (hb : (getC g b).ml.find? isN = some mb) : ∀ front : List (List UInt8), ∃ pre s0 post' m0, front ++ b :: post = pre ++ s0 :: post' ∧ (∀ s ∈ pre, (getC g s).ml.find? isN = none) ∧ (getC g s0).ml.find? isN = some m0 ∧ (∀ s ∈ pre ++ [s0], s ∈ front ++ [b])
  | [] => ⟨[], b, post, mb, rfl, fun s h => (by cases h), hb, fun s h => h⟩
  | x :: front => by
    cases hx : (getC g x).ml.find? isN with
    | some m => exact ⟨[], x, front ++ b :: post, m, rfl, fun s h => (by cases h), hx, fun s h => by simp only [List.nil_append, List.mem_singleton] at h; subst h; simp⟩
    | none =>
      obtain ⟨pre, s0, post', m0, h1, h2, h3, h4⟩ := first_split (post := post) hb front
      refine ⟨x :: pre, s0, post', m0, by rw [List.cons_append, h1]; rfl, fun s h => ?_, h3, fun s h => ?_⟩
      · rcases List.mem_cons.1 h with rfl | h
        · exact hx
        · exact h2 s h
      · rw [List.cons_append] at h ⊢
        rcases List.mem_cons.1 h with rfl | h
        · exact .head _
        · exact .tail _ (h4 s h)

section
variable {g : List UInt8 → Option CV} {m6 : Bool} {kd : Int} {c4 c5 c6 c7 c8 c9 : CV} (h : NearG g m6 kd c4 c5 c6 c7 c8 c9)
include h

theorem near_cls {s : List UInt8} (hs : s ∈ [[66, 97, 115, 101], [65], [66], [77, 105, 100], [67], [68]]) : ∃ c, g s = some c ∧ c.core = true ∧ c.mN ≤ 5 ∧ okMs c.ml ∧ c.fl.length ≤ 4 := by
  simp only [List.mem_cons, List.not_mem_nil, or_false] at hs
  rcases hs with rfl | rfl | rfl | rfl | rfl | rfl
  · exact ⟨_, h.g4, h.fam.h4.core, h.fam.m4.2, h.fam.m4.1, by rw [h.fam.h4.fl]; decide⟩
  · exact ⟨_, h.g5, h.fam.h5.core, h.fam.m5.2, h.fam.m5.1, by rw [h.fam.h5.fl]; decide⟩
  · exact ⟨_, h.g6, h.fam.h6.core, h.fam.m6.2, h.fam.m6.1, by rw [h.fam.h6.fl]; decide⟩
  · exact ⟨_, h.g7, h.fam.h7.core, h.fam.m7.2, h.fam.m7.1, by rw [h.fam.h7.fl]; decide⟩
  · exact ⟨_, h.g8, h.fam.h8.core, h.fam.m8.2, h.fam.m8.1, by rw [h.fam.h8.fl]; decide⟩
  · exact ⟨_, h.g9, h.fam.h9.core, h.fam.m9.2, h.fam.m9.1, by rw [h.fam.h9.fl]; decide⟩

theorem near_has : ∃ mb, (getC g [66, 97, 115, 101]).ml.find? isN = some mb := by
  rw [getC_eq h.g4]
  obtain ⟨m, hm, he, _⟩ := h.fam.nm
  cases hf : c4.ml.find? isN with
  | some x => exact ⟨x, rfl⟩
  | none =>
    have := List.find?_eq_none.1 hf m hm
    rw [isN, decide_eq_true he] at this
    exact absurd rfl this
end
end Go.Proofs.Ythifbkjkiijkoaa

