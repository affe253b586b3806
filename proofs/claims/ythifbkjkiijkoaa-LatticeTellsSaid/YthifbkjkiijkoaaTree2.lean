/-
  Walks: what stands above a class; its interfaces.
-/
import Derived.Test.YthifbkjkiijkoaaTree1
namespace Go.Proofs.Ythifbkjkiijkoaa
open Go.Ev Go.Ev.Wk
set_option linter.unusedVariables false
set_option linter.unusedSimpArgs false
variable {O : Old}


/-- a class and what stands above it -/
inductive ChainOf (g : List UInt8 → Option CV) : List UInt8 → List (List UInt8) → Prop
  | none {s : List UInt8} : g s = none → ChainOf g s []
  | cons {s : List UInt8} {c : CV} {l : List (List UInt8)} : g s = some c → ChainOf g c.su l → s ∉ l → ChainOf g s (s :: l)

theorem ChainOf.nodup {g : List UInt8 → Option CV} {s : List UInt8} {l : List (List UInt8)} (h : ChainOf g s l) : l.Nodup := by
  induction h with
  | none => exact .nil
  | cons _ _ hn ih => exact List.nodup_cons.2 ⟨hn, ih⟩

set_option maxHeartbeats 8000000 in
set_option maxRecDepth 100000 in
theorem chain_ok {H : Heap} {tb mb : Nat} {lv : Value} {g : List UInt8 → Option CV} {s : List UInt8} {l : List (List UInt8)} (hst : St (blksOf []) H H []) (ht : TreeK O H tb mb lv g) (hc : ChainOf g s l) (hl : l.length ≤ 1000) :
    FpC TT O 28 [ptr tb, str s] H [] fun v F' => ∃ a n c pa, v = .slice a n c ∧ F' = [pa] ∧ OwnA 1 9 a n c (l.map str) pa := by
  refine call_fp rfl rfl rfl rfl rfl hst ?_
  refine ExecS.ghost ?_
  repeat (first | refine zr ?_ | (refine zn ?_; intro _))
  refine ops_step rfl rfl rfl (step_call_fp [] _ rfl rfl rfl (List.Perm.refl _) (fun H hs hst => setNew_ok hst) (fun v F' h => ?_))
  obtain ⟨sb, mm, rfl, rfl⟩ := h
  repeat (first | refine zr ?_ | (refine zn ?_; intro _))
  refine ExecS.weak (E' := [(0, ptr tb), (1, str s), (5, ptr sb), (6, .slice none 0 0)]) ⟨rfl, rfl, rfl, rfl, trivial⟩ (List.Sublist.refl _) ?_
  refine exec_loop (fun k E L => ∃ (done rest : List (List UInt8)) (name : List UInt8) (a : Option Addr) (n c : Nat) (pa : Option Nat × Cont) (es : List (Value × Value)) (f : List UInt8 → Option Value), l = done ++ rest ∧ ChainOf g name rest ∧ rest.length = k ∧ Says es f ∧ (∀ x, x ∉ done → f x = none) ∧ E = [(0, ptr tb), (1, str name), (5, ptr sb), (6, .slice a n c)] ∧ L = setA sb mm es ++ [pa] ∧ OwnA 1 9 a n c (done.map str) pa) ?_ l.length _ _ ⟨[], l, s, none, 0, 0, _, [], _, rfl, hc, rfl, Says.nil, fun _ _ => rfl, rfl, rfl, .nil _⟩
  rintro k E L ⟨done, rest, name, a, n, c, pa, es, f, hld, hcr, hk, hf, hfd, rfl, rfl, own⟩
  have hdn : done.length = n := by have := own.len; simpa using this
  have hln : done.length + rest.length ≤ 1000 := by rw [hld, List.length_append] at hl; exact hl
  repeat (first | refine zr ?_ | (refine zn ?_; intro _))
  refine ops_step rfl rfl rfl (step_call_pure rfl rfl rfl (fun H hs => known_ok (ht.pure hs)) ?_)
  cases hcr with
  | none hg =>
    rw [hg]
    repeat (first | refine zr ?_ | (refine zn ?_; intro _))
    refine ⟨trivial, _, rfl, [pa], setA sb mm es, List.perm_middle (l₁ := setA sb mm es) (a := pa) (l₂ := []), a, n, c, pa, rfl, rfl, ?_⟩
    rw [hld, List.append_nil]; exact own
  | cons hg hcr hnl =>
    rename_i cl rest
    have hnd : name ∉ done := by
      have := hc.nodup
      rw [hld, List.nodup_append] at this
      intro hm
      exact this.2.2 name hm name (by simp) rfl
    rw [hg]
    repeat (first | refine zr ?_ | (refine zn ?_; intro _))
    refine ops_step rfl rfl rfl (step_call_fp (setA sb mm es) [pa] rfl rfl rfl (List.Perm.refl _) (fun H hs hst => setAdd_ok hst hf (hfd name hnd)) (fun v F' h => ?_))
    obtain ⟨rfl, es2, rfl, hf2⟩ := h
    repeat (first | refine zr ?_ | (refine zn ?_; intro _))
    refine ops_step rfl rfl rfl (step_append 3 1 rfl rfl rfl rfl rfl rfl rfl rfl own (fun H hs => src_own (j := 0) hs rfl rfl 1) rfl (by first | rfl | exact allCell_map (fun _ => rfl) _) (by first | rfl | (simp; done) | (simp; omega)) (by omega) (fun a2 c2 p2 own2 => ?_))
    repeat (first | refine zr ?_ | (refine zn ?_; intro _))
    refine ops_step rfl rfl rfl (step_call_pure rfl rfl rfl (fun H hs => super_ok (ht.pure hs)) ?_)
    rw [show getC g name = cl from by rw [getC, hg]; rfl]
    repeat (first | refine zr ?_ | (refine zn ?_; intro _))
    simp only [List.length_cons] at hk hln
    refine ⟨k - 1, by omega, _, _, ?_, List.Sublist.cons _ (List.Sublist.refl _), done ++ [name], rest, cl.su, a2, n + 1, c2, p2, es2, _, by rw [hld]; simp, hcr, by omega, hf2, fun x hx => ?_, rfl, rfl, by rw [List.map_append]; exact own2⟩
    · exact ⟨rfl, rfl, rfl, rfl, trivial⟩
    · simp only [List.mem_append, List.mem_singleton, not_or] at hx
      rw [if_neg hx.2]
      exact hfd x hx.1

/-- the interfaces of a class, and theirs, behind those that were come to -/
def underF (g : List UInt8 → Option CV) : Nat → List UInt8 → List (List UInt8) → Option (List (List UInt8))
  | 0, _, _ => none
  | f + 1, s, out => (getC g s).ifs.foldlM (fun out i => if (g i).isSome = true ∧ i ∉ out then underF g f i (out ++ [i]) else some out) out

theorem foldlM_le {α : Type} {st : List α → α → Option (List α)} (h : ∀ o i o', st o i = some o' → o.length ≤ o'.length) : ∀ (l o o' : List α), l.foldlM st o = some o' → o.length ≤ o'.length
  | [], o, o', e => by cases e; exact Nat.le_refl _
  | i :: l, o, o', e => by
    rw [List.foldlM_cons] at e
    cases hi : st o i with
    | none => rw [hi] at e; cases e
    | some o2 =>
      rw [hi] at e
      exact Nat.le_trans (h _ _ _ hi) (foldlM_le h l o2 o' e)

theorem underF_le (g : List UInt8 → Option CV) : ∀ (f : Nat) (s : List UInt8) (o o' : List (List UInt8)), underF g f s o = some o' → o.length ≤ o'.length
  | 0, _, _, _, e => by cases e
  | f + 1, s, o, o', e => by
    refine foldlM_le (fun o i o2 h => ?_) _ _ _ e
    split at h
    · have := underF_le g f i _ _ h
      rw [List.length_append] at this
      omega
    · cases h; exact Nat.le_refl _

theorem treeIfs {H : Heap} {tb mb : Nat} {lv : Value} {g : List UInt8 → Option CV} {X : List Nat} (ht : Keep X H fun H' => TreeH O H' tb mb lv g) (s : List UInt8) : Keep X H fun H' => Sl O H' (.slice (getC g s).ia (getC g s).iN (getC g s).ic) 1 (getC g s).iN ((getC g s).ifs.map str) := fun H' e => by
  cases hg : g s with
  | none => rw [getC, hg]; exact Sl.nil
  | some c => rw [getC, hg]; exact ((ht H' e).cls s c hg).ifs

set_option maxHeartbeats 8000000 in
set_option maxRecDepth 100000 in
theorem under_ok {tb mb : Nat} {lv : Value} {g : List UInt8 → Option CV} : ∀ (f : Nat) (s : List UInt8) (out out' : List (List UInt8)), underF g f s out = some out' → out'.length ≤ 1000 → ∀ (H : Heap) (a : Option Addr) (n c : Nat) (p : Option Nat × Cont), OwnA 1 9 a n c (out.map str) p → St (blksOf [p]) H H [p] → Keep (blksOf [p]) H (fun H' => TreeH O H' tb mb lv g) →
    FpC TT O 62 [ptr tb, str s, .slice a n c] H [p] fun v F' => ∃ a' n' c' p', v = .slice a' n' c' ∧ F' = [p'] ∧ OwnA 1 9 a' n' c' (out'.map str) p'
  | 0, _, _, _, e, _, _, _, _, _, _, _, _, _ => by cases e
  | f + 1, s, out, out', e, ho', H, a, n, c, p, own, hst, ht => by
    have hsl := treeIfs ht s
    obtain ⟨C, hC⟩ : ∃ C, C = getC g s := ⟨_, rfl⟩
    rw [← hC] at hsl
    have hsl0 := hsl H (ExtBut.refl _ _)
    have hin : C.ifs.length = C.iN := by have := hsl0.1; simpa using this
    have hN : C.iN ≤ 1000000 := by
      rw [hC, getC]
      cases hg : g s with
      | none => exact Nat.zero_le _
      | some c => exact ((ht H (ExtBut.refl _ _)).cls s c hg).iN
    rw [underF, ← hC] at e
    refine call_fp rfl rfl rfl rfl rfl hst ?_
    repeat (first | refine zr ?_ | (refine zn ?_; intro _))
    (first | apply ops_pl rfl rfl rfl ?_ rfl ?_ | apply draw_pl rfl rfl rfl rfl ?_ rfl rfl ?_); rotate_left; focus exact (.l rfl (look_hasO (fun H hs => (ht.at hs).tree) rfl rfl rfl))
    repeat (first | refine zr ?_ | (refine zn ?_; intro _))
    (first | apply ops_pl rfl rfl rfl ?_ rfl ?_ | apply draw_pl rfl rfl rfl rfl ?_ rfl rfl ?_); rotate_left; focus exact (.l rfl (look_mapO (r := C.val) (fun H hs => (ht.at hs).map) rfl rfl rfl (by rw [hC, getC]; cases hg : g s <;> rfl)))
    repeat (first | refine zr ?_ | (refine zn ?_; intro _))
    refine ExecS.weak (E' := [(0, ptr tb), (2, .slice a n c), (15, .slice C.ia C.iN C.ic), (16, .int .i64 (C.iN : Int)), (17, .int .i64 ((0 : Nat) : Int))]) ⟨rfl, rfl, rfl, rfl, rfl, trivial⟩ (List.Sublist.refl _) ?_
    refine exec_loop (fun k E L => ∃ (i : Nat) (o : List (List UInt8)) (a : Option Addr) (n c : Nat) (p : Option Nat × Cont), i + k = C.iN ∧ (C.ifs.drop i).foldlM (fun out i => if (g i).isSome = true ∧ i ∉ out then underF g f i (out ++ [i]) else some out) o = some out' ∧ E = [(0, ptr tb), (2, .slice a n c), (15, .slice C.ia C.iN C.ic), (16, .int .i64 (C.iN : Int)), (17, .int .i64 (i : Int))] ∧ L = [p] ∧ OwnA 1 9 a n c (o.map str) p) ?_ C.iN _ _ ⟨0, out, a, n, c, p, by omega, e, rfl, rfl, own⟩
    rintro k E L ⟨i, o, a, n, c, q, hik, hfo, rfl, rfl, own⟩
    have hon : o.length = n := by have := own.len; simpa using this
    have hole := foldlM_le (fun o i o2 h => by
      split at h
      · have := underF_le g f i _ _ h
        rw [List.length_append] at this
        omega
      · cases h; exact Nat.le_refl _) _ _ _ hfo
    repeat (first | refine zr ?_ | (refine zn ?_; intro _))
    refine exec_cond rfl (fun hlt => ?_) (fun hge => ?_)
    · have hi : i < C.iN := by simp at hlt; omega
      obtain ⟨x, hx⟩ : ∃ x, C.ifs[i]? = some x := ⟨_, List.getElem?_eq_getElem (by omega)⟩
      have hdr : C.ifs.drop i = x :: C.ifs.drop (i + 1) := by
        obtain ⟨hi2, rfl⟩ := List.getElem?_eq_some_iff.1 hx
        exact List.drop_eq_getElem_cons hi2
      rw [hdr, List.foldlM_cons] at hfo
      repeat (first | refine zr ?_ | (refine zn ?_; intro _))
      (first | apply ops_pl rfl rfl rfl ?_ rfl ?_ | apply draw_pl rfl rfl rfl rfl ?_ rfl rfl ?_); rotate_left; focus exact (.p rfl (opP_idx rfl rfl hsl0 rfl rfl (by omega) (by omega)))
      (first | apply ops_pl rfl rfl rfl ?_ rfl ?_ | apply draw_pl rfl rfl rfl rfl ?_ rfl rfl ?_); rotate_left; focus exact (.l rfl (fun H hs => opL_load rfl ((hsl.at hs).ld rfl (str_get hx))))
      repeat (first | refine zr ?_ | (refine zn ?_; intro _))
      refine ops_step rfl rfl rfl (step_call_pure rfl rfl rfl (fun H hs => known_ok (ht.pure hs)) ?_)
      repeat (first | refine zr ?_ | (refine zn ?_; intro _))
      cases hkn : (g x).isSome
      · rw [if_neg (fun h => by rw [hkn] at h; exact Bool.noConfusion h.1)] at hfo
        repeat (first | refine zr ?_ | (refine zn ?_; intro _))
        refine ⟨k - 1, by omega, _, _, ?_, List.Sublist.refl _, i + 1, o, a, n, c, q, by omega, hfo, rfl, rfl, own⟩
        exact ⟨rfl, rfl, rfl, rfl, rfl, trivial⟩
      · repeat (first | refine zr ?_ | (refine zn ?_; intro _))
        refine ops_step rfl rfl rfl (step_call_pure rfl rfl rfl (fun H hs => contains_ok (own.slM hs (List.mem_of_getElem? (i := 0) rfl)) (by omega)) ?_)
        repeat (first | refine zr ?_ | (refine zn ?_; intro _))
        cases hmo : decide (x ∈ o)
        · have hno := of_decide_eq_false hmo
          rw [if_pos ⟨hkn, hno⟩] at hfo
          cases hu : underF g f x (o ++ [x]) with
          | none => rw [hu] at hfo; cases hfo
          | some o2 =>
            rw [hu] at hfo
            have hle2 := foldlM_le (fun o i o2 h => by
              split at h
              · have := underF_le g f i _ _ h
                rw [List.length_append] at this
                omega
              · cases h; exact Nat.le_refl _) _ _ _ hfo
            repeat (first | refine zr ?_ | (refine zn ?_; intro _))
            refine ops_step rfl rfl rfl (step_append 1 1 rfl rfl rfl rfl rfl rfl rfl rfl own (fun H hs => src_own (j := 0) hs rfl rfl 1) rfl (by first | rfl | exact allCell_map (fun _ => rfl) _) (by first | rfl | (simp; done) | (simp; omega)) (by omega) (fun a2 c2 p2 own2 => ?_))
            have own3 : OwnA 1 9 a2 (n + 1) c2 ((o ++ [x]).map str) p2 := by rw [List.map_append]; exact own2
            repeat (first | refine zr ?_ | (refine zn ?_; intro _))
            refine ops_step rfl rfl rfl (step_call_fp [p2] [_] rfl rfl rfl (List.Perm.swap _ _ _) (fun H hs hst => under_ok f x (o ++ [x]) o2 hu (by omega) H a2 (n + 1) c2 p2 own3 hst (ht.base hs)) (fun v F' h => ?_))
            obtain ⟨a4, n4, c4, p4, rfl, rfl, own4⟩ := h
            repeat (first | refine zr ?_ | (refine zn ?_; intro _))
            refine ⟨k - 1, by omega, _, _, ?_, List.Sublist.cons_cons _ (List.nil_sublist _), i + 1, o2, a4, n4, c4, p4, by omega, hfo, rfl, rfl, own4⟩
            exact ⟨rfl, rfl, rfl, rfl, rfl, trivial⟩
        · have hyes := of_decide_eq_true hmo
          rw [if_neg (fun h => h.2 hyes)] at hfo
          repeat (first | refine zr ?_ | (refine zn ?_; intro _))
          refine ⟨k - 1, by omega, _, _, ?_, List.Sublist.refl _, i + 1, o, a, n, c, q, by omega, hfo, rfl, rfl, own⟩
          exact ⟨rfl, rfl, rfl, rfl, rfl, trivial⟩
    · have hi : C.iN ≤ i := by simp at hge; omega
      rw [List.drop_eq_nil_of_le (by omega)] at hfo
      cases hfo
      repeat (first | refine zr ?_ | (refine zn ?_; intro _))
      exact ⟨trivial, _, rfl, [q], [], List.Perm.refl _, a, n, c, q, rfl, rfl, own⟩
end Go.Proofs.Ythifbkjkiijkoaa

