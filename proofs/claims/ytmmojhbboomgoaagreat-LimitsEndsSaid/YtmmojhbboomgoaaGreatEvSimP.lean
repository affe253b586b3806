/-
  'simP': the operations that leave memory alone and do not look at it.
-/
import Derived.Test.YtmmojhbboomgoaaGreatEvOpsQ
namespace Go.Ev
set_option linter.unusedSimpArgs false
set_option linter.unusedVariables false

theorem foldl_zipIdx (off : Nat) : ∀ (l : List Value) (k : Nat) (cells : Array Value), off + k + l.length ≤ cells.size →
    ((l.zipIdx k).foldl (fun cs (p : Value × Nat) => cs.setIfInBounds (off + p.2) p.1) cells).toList = cells.toList.take (off + k) ++ l ++ cells.toList.drop (off + k + l.length)
  | [], k, cells, h => by simp
  | c :: l, k, cells, h => by
    simp only [List.zipIdx_cons, List.foldl_cons]
    rw [foldl_zipIdx off l (k + 1) _ (by simp at h ⊢; omega)]
    simp at h
    have e : (cells.setIfInBounds (off + k) c).toList = cells.toList.set (off + k) c := by simp
    rw [e]
    have h1 : (cells.toList.set (off + k) c).take (off + (k + 1)) = cells.toList.take (off + k) ++ [c] := by
      rw [show off + (k + 1) = (off + k) + 1 by omega, List.take_add_one]
      simp [List.take_set, List.getElem?_set]
      have : off + k < cells.size := by omega
      simp [this]
      rw [List.set_eq_of_length_le (by simp; omega)]
    have h2 : (cells.toList.set (off + k) c).drop (off + (k + 1) + l.length) = cells.toList.drop (off + k + (c :: l).length) := by
      rw [List.drop_set_of_lt (by omega)]
      simp
      congr 1
      omega
    rw [h1, h2]
    simp

theorem fill_lay {ρ : Ren} {place : Nat → Option (Nat × Nat)} : ∀ {ps : List (Nat × Value)} {ps' : List (Nat × Value)} {cs cs' l : List Value}, lay place cs ps = some l → All2 (V ρ) cs cs' →
    All2 (fun (p q : Nat × Value) => p.1 = q.1 ∧ V ρ p.2 q.2) ps ps' → ∃ l', Instr.fill place cs'.toArray ps' = some l'.toArray ∧ All2 (V ρ) l l'
  | [], _, cs, cs', l, h, hc, hp => by
    cases hp
    simp [lay] at h
    subst h
    exact ⟨cs', rfl, hc⟩
  | (i, v) :: ps, _, cs, cs', l, h, hc, hp => by
    cases hp with
    | cons hq ht =>
      rename_i q ps'
      obtain ⟨j, v'⟩ := q
      obtain ⟨rfl, hv⟩ := hq
      simp only [lay] at h
      cases hpl : place i with
      | none => simp [hpl] at h
      | some p =>
        obtain ⟨off, size⟩ := p
        simp only [hpl] at h
        cases hb : (Nat.beq v.cells.size size && Nat.ble (off + size) cs.length) with
        | false => simp [hb] at h
        | true =>
          simp only [hb, cond_true] at h
          simp only [Bool.and_eq_true] at hb
          have hsz := Nat.eq_of_beq_eq_true hb.1
          have hle := Nat.le_of_ble_eq_true hb.2
          have hcl := hv.cells
          have hs' : v'.cells.size = size := by
            have := hcl.length
            simp at this
            omega
          have hlen := hc.length
          obtain ⟨l', h1, h2⟩ := fill_lay (ps' := ps') (cs' := cs'.take off ++ v'.cells.toList ++ cs'.drop (off + size)) h (((hc.take off).append hcl).append (hc.drop (off + size))) ht
          refine ⟨l', ?_, h2⟩
          simp only [Instr.fill, hpl]
          rw [if_neg (by simp [hs']; omega)]
          rw [← h1]
          congr 1
          apply Array.ext'
          have hf := foldl_zipIdx off v'.cells.toList 0 cs'.toArray (by simp; omega)
          rw [← Array.foldl_toList]
          simp only [Array.toList_zipIdx]
          simp only [Nat.add_zero] at hf
          rw [show (v'.cells.toList.zipIdx 0) = v'.cells.toList.zipIdx from rfl] at hf
          have e2 : v'.cells.toList.length = size := by simpa using hs'
          rw [e2] at hf
          simpa using hf

section
variable {T : Tab} {P : Program} (ok : T.Ok P) {ρ : Ren}
include ok

theorem run_places' : ∀ {fs : List Field} {pl : List (Nat × Nat)}, places T fs = some pl → fs.mapM (fun f => (P.info? f.type).map fun i => (f.offset, i.size)) = some pl
  | [], pl, h => by simp [places] at h; subst h; rfl
  | f :: fs, pl, h => by
    simp only [places] at h
    split at h
    · rename_i n l hn hl
      cases h
      obtain ⟨i, hi, rfl⟩ := ok.size hn
      have := run_places' hl
      simp [List.mapM_cons, hi, this]
    · cases h

theorem sim_build {t : Nat} {ps ps' : List (Nat × Value)} {v : Value} (h : build T t ps = some v) (hp : All2 (fun (p q : Nat × Value) => p.1 = q.1 ∧ V ρ p.2 q.2) ps ps') (w : World) :
    ∃ v', (Instr.build t ps'.toArray).run P w = .ok v' w ∧ V ρ v v' := by
  unfold build at h
  split at h
  · rename_i z fields hz hu
    cases hc : closedC z with
    | false => simp [hc] at h
    | true =>
      simp only [hc, cond_true] at h
      split at h
      · cases h
      · rename_i pl hpl
        split at h
        · cases h
        · rename_i l hl
          cases h
          obtain ⟨l', h1, h2⟩ := fill_lay hl (V.closed hc : V ρ z z).cells hp
          refine ⟨.agg l'.toArray, ?_, .agg (by simpa using h2)⟩
          obtain ⟨i, hi, hzi⟩ := ok.zero hz
          refine run_build w t _ _ ?_
          have e : (fun x => pl[x]?) = (fun (x : Nat) => pl.toArray[x]?) := by funext x; simp
          simp only [Program.built, hi, ok.und hu, hzi, run_places' ok hpl]
          rw [← h1]
          simp
  · rename_i z n elem hz hu
    cases hc : closedC z with
    | false => simp [hc] at h
    | true =>
      simp only [hc, cond_true] at h
      split at h
      · cases h
      · rename_i k hk
        split at h
        · cases h
        · rename_i l hl
          cases h
          obtain ⟨l', h1, h2⟩ := fill_lay hl (V.closed hc : V ρ z z).cells hp
          refine ⟨.agg l'.toArray, ?_, .agg (by simpa using h2)⟩
          obtain ⟨i, hi, hzi⟩ := ok.zero hz
          obtain ⟨j, hj, rfl⟩ := ok.size hk
          refine run_build w t _ _ ?_
          simp only [Program.built, hi, ok.und hu, hzi, hj]
          rw [← h1]
  · cases h
end

/-- operands as the evaluator has them, and as the machine has them -/
def OR (ρ : Ren) (e : Operand → Option Value) (g : Operand → Value) : Prop := ∀ x v, e x = some v → V ρ v (g x)

theorem parts_rel {ρ : Ren} {e : Operand → Option Value} {g : Operand → Value} (he : OR ρ e g) : ∀ {l : List (Nat × Operand)} {ps : List (Nat × Value)}, parts e l = some ps →
    All2 (fun (p q : Nat × Value) => p.1 = q.1 ∧ V ρ p.2 q.2) ps (l.map fun (p : Nat × Operand) => (p.1, g p.2))
  | [], ps, h => by simp [parts] at h; subst h; exact .nil
  | (i, x) :: l, ps, h => by
    simp only [parts] at h
    split at h
    · rename_i v r hv hr
      cases h
      exact .cons ⟨rfl, he _ _ hv⟩ (parts_rel he hr)
    · cases h

theorem args_rel {ρ : Ren} {e : Operand → Option Value} {g : Operand → Value} (he : OR ρ e g) : ∀ {l : List Operand} {ps : List Value}, args e l = some ps → All2 (V ρ) ps (l.map g)
  | [], ps, h => by simp [args] at h; subst h; exact .nil
  | x :: l, ps, h => by
    simp only [args] at h
    split at h
    · rename_i v r hv hr
      cases h
      exact .cons (he _ _ hv) (args_rel he hr)
    · cases h

theorem optV_rel {ρ : Ren} {e : Operand → Option Value} {g : Operand → Value} (he : OR ρ e g) {x : Option Operand} {v : Option Value} (h : optV e x = some v) : OV ρ v (x.map g) := by
  cases x with
  | none => simp [optV] at h; subst h; trivial
  | some x =>
    simp only [optV] at h
    split at h
    · rename_i u hu; cases h; exact he _ _ hu
    · cases h

theorem simP {T : Tab} {P : Program} (ok : T.Ok P) {ρ : Ren} (hS : ρ.sym = T.sym) {e : Operand → Option Value} {g : Operand → Value} (he : OR ρ e g) {o : Oper} {v : Value} (h : opP T e o.op = some v) (w : World) :
    ∃ v', (execOp g o).run P w = .ok (.value v') w ∧ V ρ v v' := by
  unfold execOp
  unfold opP at h
  split at h
  · rename_i x hop; simp only [hop]; exact ⟨g x, rfl, he _ _ h⟩
  · rename_i x hop; simp only [hop]; exact ⟨g x, rfl, he _ _ h⟩
  · rename_i c a b hop
    simp only [hop]
    unfold pick at h
    split at h
    · rename_i hc
      have := (he _ _ hc).bool_inv
      exact ⟨g a, by simp [this, asBool], he _ _ h⟩
    · rename_i hc
      have := (he _ _ hc).bool_inv
      exact ⟨g b, by simp [this, asBool], he _ _ h⟩
    · cases h
  · rename_i op t x y yt hop
    simp only [hop]
    split at h
    · rename_i a b ha hb
      obtain ⟨v', h1, h2⟩ := sim_binV ok hS (x := x) (y := y) rfl h (he _ _ ha) (he _ _ hb) w
      refine ⟨v', ?_, h2⟩
      simp only [Sem.run_bind] at h1 ⊢
      simp only [h1, Result.andThen_ok, Sem.run_pure]
    · cases h
  · rename_i op t x hop
    simp only [hop]
    split at h
    · rename_i a ha
      obtain ⟨h1, h2⟩ := sim_unV (P := P) h (he _ _ ha) w
      exact ⟨v, by simp [h1], h2⟩
    · cases h
  · rename_i t x i hop
    simp only [hop]
    split at h
    · rename_i a ha
      obtain ⟨v', h1, h2⟩ := sim_fieldAt ok h (he _ _ ha) w
      exact ⟨v', by simp [h1], h2⟩
    · cases h
  · rename_i t x i hop
    simp only [hop]
    split at h
    · rename_i a ha
      obtain ⟨v', h1, h2⟩ := sim_fieldV ok h (he _ _ ha) w
      exact ⟨v', by simp [h1], h2⟩
    · cases h
  · rename_i t x i hop
    simp only [hop]
    split at h
    · rename_i a b ha hb
      obtain ⟨v', h1, h2⟩ := sim_indexAt ok h (he _ _ ha) (he _ _ hb) w
      exact ⟨v', by simp [h1], h2⟩
    · cases h
  · rename_i t x i hop
    simp only [hop]
    split at h
    · rename_i a b ha hb
      obtain ⟨v', h1, h2⟩ := sim_indexV ok h (he _ _ ha) (he _ _ hb) w
      exact ⟨v', by simp [h1], h2⟩
    · cases h
  · rename_i x i hop
    simp only [hop]
    split at h
    · rename_i vs hx
      obtain ⟨b, hb, hv⟩ := (he _ _ hx).tuple_inv
      obtain ⟨y, hy, hvy⟩ := hv.get h
      exact ⟨y, by simp [hb, Instr.extract]; rw [show b[i]? = some y by simpa using hy]; rfl, hvy⟩
    · cases h
  · rename_i x hop
    simp only [hop]
    split at h
    · rename_i a hx
      cases h
      have hv := he _ _ hx
      have := hv.ptr_inv
      generalize g x = gx at *
      cases this with
      | same hf => exact ⟨_, rfl, hv⟩
      | ptr => exact ⟨_, rfl, hv⟩
    · rename_i f a b hx
      cases h
      have hv := he _ _ hx
      obtain ⟨x', y', e1, _⟩ := hv.func_inv
      rw [e1] at hv ⊢
      exact ⟨_, rfl, hv⟩
    · rename_i t u hx
      cases h
      have hv := he _ _ hx
      obtain ⟨x', e1, _⟩ := hv.iface_inv
      rw [e1] at hv ⊢
      exact ⟨_, rfl, hv⟩
    · cases h
  · rename_i fn first captured hop
    simp only [hop]
    split at h
    · rename_i l r hl hr
      cases h
      exact ⟨.func fn (first.map g) (captured.map g), by simp [Instr.makeFunc], .func (by simpa using args_rel he hl) (by simpa using args_rel he hr)⟩
    · cases h
  · rename_i t x hop
    simp only [hop]
    split at h
    · rename_i d a hd ha
      cases hi : isIface d with
      | true => simp [hi] at h
      | false =>
        simp [hi] at h
        subst h
        refine ⟨.iface t (g x), ?_, .iface (he _ _ ha)⟩
        simp only [Instr.makeInterface, Sem.run_bind, ok.runUnd hd, Result.andThen_ok]
        cases d <;> first | (simp [isIface] at hi; done) | rfl
    · cases h
  · rename_i t ps hop
    simp only [hop]
    split at h
    · rename_i l hl
      obtain ⟨v', h1, h2⟩ := sim_build ok h (parts_rel he hl) w
      refine ⟨v', ?_, h2⟩
      have e1 : (List.map (fun (p : Nat × Operand) => (p.1, g p.2)) ps.toList).toArray = ps.map fun (p : Nat × Operand) => (p.1, g p.2) := by
        apply Array.ext'; simp
      rw [e1] at h1
      simp only [Sem.run_bind]
      rw [h1]
      rfl
    · cases h
  · cases h
end Go.Ev
