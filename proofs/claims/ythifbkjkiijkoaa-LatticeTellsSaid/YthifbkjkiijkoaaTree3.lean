/-
  Walks: all interfaces of a class; who is under whom; the nearest above two.
-/
import Derived.Test.YthifbkjkiijkoaaTree2
namespace Go.Proofs.Ythifbkjkiijkoaa
open Go.Ev Go.Ev.Wk
set_option linter.unusedVariables false
set_option linter.unusedSimpArgs false
variable {O : Old}


/-- the interfaces of some classes, in order -/
def ifsF (g : List UInt8 → Option CV) (fu : Nat) (l out : List (List UInt8)) : Option (List (List UInt8)) := l.foldlM (fun out c => underF g fu c out) out

theorem ifsF_le (g : List UInt8 → Option CV) (fu : Nat) (l o o' : List (List UInt8)) (h : ifsF g fu l o = some o') : o.length ≤ o'.length :=
  foldlM_le (fun o i o2 h => underF_le g fu i o o2 h) _ _ _ h

set_option maxHeartbeats 8000000 in
set_option maxRecDepth 100000 in
theorem ifaces_ok {H : Heap} {tb mb : Nat} {lv : Value} {g : List UInt8 → Option CV} {s : List UInt8} {l il : List (List UInt8)} {fu : Nat} (hst : St (blksOf []) H H []) (ht : TreeK O H tb mb lv g) (hc : ChainOf g s l) (hl : l.length ≤ 1000) (hi : ifsF g fu l [] = some il) (hil : il.length ≤ 1000) :
    FpC TT O 37 [ptr tb, str s] H [] fun v F' => ∃ a n c pa, v = .slice a n c ∧ F' = [pa] ∧ OwnA 1 9 a n c (il.map str) pa := by
  refine call_fp rfl rfl rfl rfl rfl hst ?_
  refine ExecS.ghost ?_
  repeat (first | refine zr ?_ | (refine zn ?_; intro _))
  refine ops_step rfl rfl rfl (step_call_fp [] _ rfl rfl rfl (List.Perm.refl _) (fun H hs hst => chain_ok hst (ht.pure hs) hc hl) (fun v F' h => ?_))
  obtain ⟨ca, cn, cc, pc, rfl, rfl, ownc⟩ := h
  have hcn : l.length = cn := by have := ownc.len; simpa using this
  repeat (first | refine zr ?_ | (refine zn ?_; intro _))
  refine ExecS.weak (E' := [(0, ptr tb), (5, .slice none 0 0), (10, .slice ca cn cc), (11, .int .i64 (cn : Int)), (12, .int .i64 ((0 : Nat) : Int))]) ⟨rfl, rfl, rfl, rfl, rfl, trivial⟩ (List.Sublist.refl _) ?_
  refine ExecS.perm (L' := [(none, .map []), pc]) (List.Perm.swap _ _ _) ?_
  refine exec_loop (fun k E L => ∃ (i : Nat) (o : List (List UInt8)) (a : Option Addr) (n c : Nat) (p : Option Nat × Cont), i + k = cn ∧ ifsF g fu (l.drop i) o = some il ∧ E = [(0, ptr tb), (5, .slice a n c), (10, .slice ca cn cc), (11, .int .i64 (cn : Int)), (12, .int .i64 (i : Int))] ∧ L = [p, pc] ∧ OwnA 1 9 a n c (o.map str) p) ?_ cn _ _ ⟨0, [], none, 0, 0, _, by omega, hi, rfl, rfl, .nil _⟩
  rintro k E L ⟨i, o, a, n, c, p, hik, hfo, rfl, rfl, own⟩
  repeat (first | refine zr ?_ | (refine zn ?_; intro _))
  refine exec_cond rfl (fun hlt => ?_) (fun hge => ?_)
  · have hi : i < cn := by simp at hlt; omega
    obtain ⟨x, hx⟩ : ∃ x, l[i]? = some x := ⟨_, List.getElem?_eq_getElem (by omega)⟩
    have hdr : l.drop i = x :: l.drop (i + 1) := by
      obtain ⟨hi2, rfl⟩ := List.getElem?_eq_some_iff.1 hx
      exact List.drop_eq_getElem_cons hi2
    rw [hdr, ifsF, List.foldlM_cons] at hfo
    cases hu : underF g fu x o with
    | none => rw [hu] at hfo; cases hfo
    | some o2 =>
      rw [hu] at hfo
      have hfo : ifsF g fu (l.drop (i + 1)) o2 = some il := hfo
      have hle := ifsF_le g fu _ _ _ hfo
      repeat (first | refine zr ?_ | (refine zn ?_; intro _))
      (first | apply ops_pl rfl rfl rfl ?_ rfl ?_ | apply draw_pl rfl rfl rfl rfl ?_ rfl rfl ?_); rotate_left; focus exact (.p rfl (opP_idxA ownc rfl rfl rfl rfl (by omega) (by omega)))
      (first | apply ops_pl rfl rfl rfl ?_ rfl ?_ | apply draw_pl rfl rfl rfl rfl ?_ rfl rfl ?_); rotate_left; focus exact (.l rfl (fun H hs => opL_load rfl ((OwnA.slM ownc hs (by first | exact List.mem_of_getElem? (i := 0) rfl | exact List.mem_of_getElem? (i := 1) rfl | exact List.mem_of_getElem? (i := 2) rfl | exact List.mem_of_getElem? (i := 3) rfl | exact List.mem_of_getElem? (i := 4) rfl | exact List.mem_of_getElem? (i := 5) rfl | exact List.mem_of_getElem? (i := 6) rfl | exact List.mem_of_getElem? (i := 7) rfl)).ld rfl (str_get hx))))
      repeat (first | refine zr ?_ | (refine zn ?_; intro _))
      refine ops_step rfl rfl rfl (step_call_fp [p] [pc] rfl rfl rfl (List.Perm.refl _) (fun H hs hst => under_ok fu x o o2 hu (by omega) H a n c p own hst (ht.base hs)) (fun v F' h => ?_))
      obtain ⟨a4, n4, c4, p4, rfl, rfl, own4⟩ := h
      repeat (first | refine zr ?_ | (refine zn ?_; intro _))
      refine ⟨k - 1, by omega, _, _, ?_, List.Sublist.refl _, i + 1, o2, a4, n4, c4, p4, by omega, hfo, rfl, rfl, own4⟩
      exact ⟨rfl, rfl, rfl, rfl, rfl, trivial⟩
  · have hi : cn ≤ i := by simp at hge; omega
    rw [List.drop_eq_nil_of_le (by omega)] at hfo
    cases hfo
    repeat (first | refine zr ?_ | (refine zn ?_; intro _))
    exact ⟨trivial, _, rfl, [p], [pc], List.Perm.refl _, a, n, c, p, rfl, rfl, own⟩

theorem baEq (a b : List UInt8) : ((⟨⟨a⟩⟩ : ByteArray).data.toList == (⟨⟨b⟩⟩ : ByteArray).data.toList) = decide (a = b) := by
  by_cases h : a = b
  · subst h; simp
  · rw [decide_eq_false h]; exact beq_eq_false_iff_ne.2 h

def objB : List UInt8 := [79, 98, 106, 101, 99, 116]
def fauB : List UInt8 := [70, 97, 117, 108, 116]

def subB (g : List UInt8 → Option CV) (a b : List UInt8) (la ila : List (List UInt8)) : Bool :=
  (g a).isSome && (g b).isSome && (decide (a = b) || decide (b = objB) || decide (b ∈ la) || decide (b ∈ ila))

set_option maxHeartbeats 8000000 in
set_option maxRecDepth 100000 in
theorem sub_ok {H : Heap} {tb mb : Nat} {lv : Value} {g : List UInt8 → Option CV} {a b : List UInt8} {la ila : List (List UInt8)} {fu : Nat} (ht : TreeK O H tb mb lv g) (hc : ChainOf g a la) (hl : la.length ≤ 1000) (hi : ifsF g fu la [] = some ila) (hil : ila.length ≤ 1000) :
    CallC TT O 14 [ptr tb, str a, str b] H fun v H' => v = .bool (subB g a b la ila) ∧ Ext H H' := by
  refine call_pure rfl rfl rfl rfl rfl ?_
  repeat (first | refine zr ?_ | (refine zn ?_; intro _))
  refine ops_step rfl rfl rfl (step_call_pure rfl rfl rfl (fun H hs => known_ok (ht.pure hs)) ?_)
  cases hka : (g a).isSome
  · repeat (first | refine zr ?_ | (refine zn ?_; intro _))
    exact ⟨trivial, _, rfl, by rw [subB, hka]; rfl⟩
  repeat (first | refine zr ?_ | (refine zn ?_; intro _))
  refine ops_step rfl rfl rfl (step_call_pure rfl rfl rfl (fun H hs => known_ok (ht.pure hs)) ?_)
  cases hkb : (g b).isSome
  · repeat (first | refine zr ?_ | (refine zn ?_; intro _))
    exact ⟨trivial, _, rfl, by rw [subB, hka, hkb]; rfl⟩
  repeat (first | refine zr ?_ | (refine zn ?_; intro _))
  have hsb : subB g a b la ila = (decide (a = b) || decide (b = objB) || decide (b ∈ la) || decide (b ∈ ila)) := by rw [subB, hka, hkb]; rfl
  rw [hsb]
  repeat (first | refine zr ?_ | (refine zn ?_; intro _))
  rw [baEq a b]
  cases hab : decide (a = b)
  rotate_left
  · repeat (first | refine zr ?_ | (refine zn ?_; intro _))
    exact ⟨trivial, _, rfl, rfl⟩
  repeat (first | refine zr ?_ | (refine zn ?_; intro _))
  rw [show ((⟨⟨b⟩⟩ : ByteArray).data.toList == (⟨⟨[79, 98, 106, 101, 99, 116]⟩⟩ : ByteArray).data.toList) = decide (b = objB) from baEq b objB]
  cases hbo : decide (b = objB)
  rotate_left
  · repeat (first | refine zr ?_ | (refine zn ?_; intro _))
    exact ⟨trivial, _, rfl, rfl⟩
  repeat (first | refine zr ?_ | (refine zn ?_; intro _))
  refine ops_step rfl rfl rfl (step_call_fp [] _ rfl rfl rfl (List.Perm.refl _) (fun H hs hst => chain_ok hst (ht.pure hs) hc hl) (fun v F' h => ?_))
  obtain ⟨ca, cn, cc, pc, rfl, rfl, ownc⟩ := h
  have hcn : la.length = cn := by have := ownc.len; simpa using this
  repeat (first | refine zr ?_ | (refine zn ?_; intro _))
  refine ops_step rfl rfl rfl (step_call_pure rfl rfl rfl (fun H hs => contains_ok (ownc.slM hs (List.mem_of_getElem? (i := 0) rfl)) (by omega)) ?_)
  cases hbl : decide (b ∈ la)
  rotate_left
  · repeat (first | refine zr ?_ | (refine zn ?_; intro _))
    exact ⟨trivial, _, rfl, rfl⟩
  repeat (first | refine zr ?_ | (refine zn ?_; intro _))
  refine ops_step rfl rfl rfl (step_call_fp [] _ rfl rfl rfl (List.Perm.refl _) (fun H hs hst => ifaces_ok hst (ht.pure hs) hc hl hi hil) (fun v F' h => ?_))
  obtain ⟨ia, iN, ic, pi, rfl, rfl, owni⟩ := h
  have hin : ila.length = iN := by have := owni.len; simpa using this
  repeat (first | refine zr ?_ | (refine zn ?_; intro _))
  refine ops_step rfl rfl rfl (step_call_pure rfl rfl rfl (fun H hs => contains_ok (owni.slM hs (List.mem_of_getElem? (i := 0) rfl)) (by omega)) ?_)
  repeat (first | refine zr ?_ | (refine zn ?_; intro _))
  exact ⟨trivial, _, rfl, rfl⟩

def commonL (g : List UInt8 → Option CV) (a b : List UInt8) (la lb : List (List UInt8)) : List UInt8 :=
  if a ≠ b ∧ ((getC g a).kd = 4 ∨ (getC g b).kd = 4) then objB else (la.find? fun x => decide (x ∈ lb)).getD objB

theorem find_drop {l : List (List UInt8)} {p : List UInt8 → Bool} {i : Nat} (h : ∀ j y, j < i → l[j]? = some y → p y = false) : l.find? p = (l.drop i).find? p := by
  induction l generalizing i with
  | nil => simp
  | cons z l ih =>
    cases i with
    | zero => rfl
    | succ i =>
      have hz := h 0 z (by omega) rfl
      rw [List.find?_cons, hz, List.drop_succ_cons]
      exact ih fun j y hj hy => h (j + 1) y (by omega) hy

set_option maxHeartbeats 8000000 in
set_option maxRecDepth 100000 in
theorem common_ok {H : Heap} {tb mb : Nat} {lv : Value} {g : List UInt8 → Option CV} {a b : List UInt8} {la lb : List (List UInt8)} (ht : TreeK O H tb mb lv g) (hca : ChainOf g a la) (hla : la.length ≤ 1000) (hcb : ChainOf g b lb) (hlb : lb.length ≤ 1000) :
    CallC TT O 13 [ptr tb, str a, str b] H fun v H' => v = str (commonL g a b la lb) ∧ Ext H H' := by
  refine call_pure rfl rfl rfl rfl rfl ?_
  repeat (first | refine zr ?_ | (refine zn ?_; intro _))
  rw [baEq a b]
  refine OpsS.mono (Q := fun E L => SubE [(0, ptr tb), (1, str a), (2, str b), (32, .bool (!decide (a = b) && (decide ((getC g a).kd = 4) || decide ((getC g b).kd = 4))))] E ∧ L = []) ?_ ?_
  · cases hab : decide (a = b)
    rotate_left
    · repeat (first | refine zo ?_ | (refine zn ?_; intro _))
      exact ops_nil ⟨⟨rfl, rfl, rfl, rfl, trivial⟩, rfl⟩
    repeat (first | refine zo ?_ | (refine zn ?_; intro _))
    (first | apply ops_pl rfl rfl rfl ?_ rfl ?_ | apply draw_pl rfl rfl rfl rfl ?_ rfl rfl ?_); rotate_left; focus exact (.l rfl (look_hasO (fun H hs => (ht.at hs).tree) rfl rfl rfl))
    repeat (first | refine zo ?_ | (refine zn ?_; intro _))
    (first | apply ops_pl rfl rfl rfl ?_ rfl ?_ | apply draw_pl rfl rfl rfl rfl ?_ rfl rfl ?_); rotate_left; focus exact (.l rfl (look_mapO (r := (getC g a).val) (fun H hs => (ht.at hs).map) rfl rfl rfl (by rw [getC]; cases hg : g a <;> rfl)))
    repeat (first | refine zo ?_ | (refine zn ?_; intro _))
    cases hka : ((getC g a).kd == 4)
    · have e1 : decide ((getC g a).kd = 4) = false := decide_eq_false (beq_eq_false_iff_ne.1 hka)
      repeat (first | refine zo ?_ | (refine zn ?_; intro _))
      (first | apply ops_pl rfl rfl rfl ?_ rfl ?_ | apply draw_pl rfl rfl rfl rfl ?_ rfl rfl ?_); rotate_left; focus exact (.l rfl (look_hasO (fun H hs => (ht.at hs).tree) rfl rfl rfl))
      repeat (first | refine zo ?_ | (refine zn ?_; intro _))
      (first | apply ops_pl rfl rfl rfl ?_ rfl ?_ | apply draw_pl rfl rfl rfl rfl ?_ rfl rfl ?_); rotate_left; focus exact (.l rfl (look_mapO (r := (getC g b).val) (fun H hs => (ht.at hs).map) rfl rfl rfl (by rw [getC]; cases hg : g b <;> rfl)))
      repeat (first | refine zo ?_ | (refine zn ?_; intro _))
      refine ops_nil ⟨⟨rfl, rfl, rfl, ?_, trivial⟩, rfl⟩
      rw [e1]
      rfl
    · have e1 : decide ((getC g a).kd = 4) = true := decide_eq_true (eq_of_beq hka)
      repeat (first | refine zo ?_ | (refine zn ?_; intro _))
      refine ops_nil ⟨⟨rfl, rfl, rfl, ?_, trivial⟩, rfl⟩
      rw [e1]
      rfl
  rintro E L ⟨hE, rfl⟩
  refine ExecS.weak hE (List.Sublist.refl _) ?_
  cases hq : (!decide (a = b) && (decide ((getC g a).kd = 4) || decide ((getC g b).kd = 4)))
  rotate_left
  · have hcm : commonL g a b la lb = objB := by
      simp only [Bool.and_eq_true, Bool.not_eq_true', decide_eq_false_iff_not, Bool.or_eq_true, decide_eq_true_eq] at hq
      rw [commonL, if_pos hq]
    repeat (first | refine zr ?_ | (refine zn ?_; intro _))
    exact ⟨trivial, _, rfl, by rw [hcm]; rfl⟩
  have hcm : commonL g a b la lb = (la.find? fun x => decide (x ∈ lb)).getD objB := by
    rw [commonL, if_neg]
    intro h
    rw [decide_eq_false h.1] at hq
    rcases h.2 with h | h <;> simp [h] at hq
  rw [hcm]
  repeat (first | refine zr ?_ | (refine zn ?_; intro _))
  refine ops_step rfl rfl rfl (step_call_fp [] _ rfl rfl rfl (List.Perm.refl _) (fun H hs hst => chain_ok hst (ht.pure hs) hcb hlb) (fun v F' h => ?_))
  obtain ⟨ba, bn, bc, pb, rfl, rfl, ownb⟩ := h
  have hbn : lb.length = bn := by have := ownb.len; simpa using this
  repeat (first | refine zr ?_ | (refine zn ?_; intro _))
  refine ops_step rfl rfl rfl (step_call_fp [] _ rfl rfl rfl (List.Perm.refl _) (fun H hs hst => chain_ok hst (ht.pure hs) hca hla) (fun v F' h => ?_))
  obtain ⟨aa, an, ac, pa, rfl, rfl, owna⟩ := h
  have han : la.length = an := by have := owna.len; simpa using this
  repeat (first | refine zr ?_ | (refine zn ?_; intro _))
  refine ExecS.weak (E' := [(7, .slice ba bn bc), (38, .slice aa an ac), (39, .int .i64 (an : Int)), (40, .int .i64 ((0 : Nat) : Int))]) ⟨rfl, rfl, rfl, rfl, trivial⟩ (List.Sublist.refl _) ?_
  refine exec_loop (fun k E L => ∃ i : Nat, i + k = an ∧ (∀ j y, j < i → la[j]? = some y → decide (y ∈ lb) = false) ∧ E = [(7, .slice ba bn bc), (38, .slice aa an ac), (39, .int .i64 (an : Int)), (40, .int .i64 (i : Int))] ∧ L = [pa, pb]) ?_ an _ _ ⟨0, by omega, fun j y hj => by omega, rfl, rfl⟩
  rintro k E L ⟨i, hik, hpre, rfl, rfl⟩
  repeat (first | refine zr ?_ | (refine zn ?_; intro _))
  refine exec_cond rfl (fun hlt => ?_) (fun hge => ?_)
  · have hi : i < an := by simp at hlt; omega
    obtain ⟨x, hx⟩ : ∃ x, la[i]? = some x := ⟨_, List.getElem?_eq_getElem (by omega)⟩
    repeat (first | refine zr ?_ | (refine zn ?_; intro _))
    (first | apply ops_pl rfl rfl rfl ?_ rfl ?_ | apply draw_pl rfl rfl rfl rfl ?_ rfl rfl ?_); rotate_left; focus exact (.p rfl (opP_idxA owna rfl rfl rfl rfl (by omega) (by omega)))
    (first | apply ops_pl rfl rfl rfl ?_ rfl ?_ | apply draw_pl rfl rfl rfl rfl ?_ rfl rfl ?_); rotate_left; focus exact (.l rfl (fun H hs => opL_load rfl ((OwnA.slM owna hs (by first | exact List.mem_of_getElem? (i := 0) rfl | exact List.mem_of_getElem? (i := 1) rfl | exact List.mem_of_getElem? (i := 2) rfl | exact List.mem_of_getElem? (i := 3) rfl | exact List.mem_of_getElem? (i := 4) rfl | exact List.mem_of_getElem? (i := 5) rfl | exact List.mem_of_getElem? (i := 6) rfl | exact List.mem_of_getElem? (i := 7) rfl)).ld rfl (str_get hx))))
    repeat (first | refine zr ?_ | (refine zn ?_; intro _))
    refine ops_step rfl rfl rfl (step_call_pure rfl rfl rfl (fun H hs => contains_ok (ownb.slM hs (List.mem_of_getElem? (i := 1) rfl)) (by omega)) ?_)
    cases hm : decide (x ∈ lb)
    · repeat (first | refine zr ?_ | (refine zn ?_; intro _))
      refine ⟨k - 1, by omega, _, _, ?_, List.Sublist.refl _, i + 1, by omega, fun j y hj hy => ?_, rfl, rfl⟩
      · exact ⟨rfl, rfl, rfl, rfl, trivial⟩
      · by_cases hji : j = i
        · subst hji
          rw [hx] at hy
          cases hy
          exact hm
        · exact hpre j y (by omega) hy
    · repeat (first | refine zr ?_ | (refine zn ?_; intro _))
      refine ⟨trivial, _, rfl, ?_⟩
      have hdr : la.drop i = x :: la.drop (i + 1) := by
        obtain ⟨hi2, rfl⟩ := List.getElem?_eq_some_iff.1 hx
        exact List.drop_eq_getElem_cons hi2
      rw [find_drop (p := fun x => decide (x ∈ lb)) hpre, hdr, List.find?_cons, hm]
      rfl
  · have hi : an ≤ i := by simp at hge; omega
    repeat (first | refine zr ?_ | (refine zn ?_; intro _))
    refine ⟨trivial, _, rfl, ?_⟩
    rw [find_drop (p := fun x => decide (x ∈ lb)) hpre, List.drop_eq_nil_of_le (by omega)]
    rfl
end Go.Proofs.Ythifbkjkiijkoaa

