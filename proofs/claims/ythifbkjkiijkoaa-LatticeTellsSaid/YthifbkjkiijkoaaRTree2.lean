/-
  Walks: the reference's tree: chains, interfaces, what stands above two classes.
-/
import Derived.Test.YthifbkjkiijkoaaRTree1
namespace Go.Proofs.Ythifbkjkiijkoaa
open Go.Ev Go.Ev.Wk
set_option linter.unusedVariables false
set_option linter.unusedSimpArgs false
variable {O : Old}


set_option maxHeartbeats 8000000 in
set_option maxRecDepth 100000 in
theorem rchain_ok {H : Heap} {wb : Nat} {aa : Option Addr} {an ac : Nat} {cl : List CV} {s : List UInt8} {l : List (List UInt8)} (hst : St (blksOf []) H H []) (ht : RefK O H wb aa an ac cl) (hN : an ≤ 1000000) (hc : ChainOf (gOf cl) s l) (hl : l.length ≤ 1000) :
    FpC TT O 74 [ptr wb, str s] H [] fun v F' => ∃ a n c pa, v = .slice a n c ∧ F' = [pa] ∧ OwnA 1 9 a n c (l.map str) pa := by
  refine call_fp rfl rfl rfl rfl rfl hst ?_
  refine ExecS.ghost ?_
  repeat (first | refine zr ?_ | (refine zn ?_; intro _))
  refine ExecS.weak (E' := [(0, ptr wb), (1, str s), (5, .slice none 0 0)]) ⟨rfl, rfl, rfl, trivial⟩ (List.Sublist.refl _) ?_
  refine exec_loop (fun k E L => ∃ (done rest : List (List UInt8)) (name : List UInt8) (a : Option Addr) (n c : Nat) (pa : Option Nat × Cont), l = done ++ rest ∧ ChainOf (gOf cl) name rest ∧ rest.length = k ∧ E = [(0, ptr wb), (1, str name), (5, .slice a n c)] ∧ L = [pa] ∧ OwnA 1 9 a n c (done.map str) pa) ?_ l.length _ _ ⟨[], l, s, none, 0, 0, _, rfl, hc, rfl, rfl, rfl, .nil _⟩
  rintro k E L ⟨done, rest, name, a, n, c, pa, hld, hcr, hk, rfl, rfl, own⟩
  have hdn : done.length = n := by have := own.len; simpa using this
  have hln : done.length + rest.length ≤ 1000 := by rw [hld, List.length_append] at hl; exact hl
  repeat (first | refine zr ?_ | (refine zn ?_; intro _))
  refine ops_step rfl rfl rfl (step_call_pure rfl rfl rfl (fun H hs => rknown_ok (ht.pure hs) hN) ?_)
  cases hcr with
  | none hg =>
    rw [hg]
    repeat (first | refine zr ?_ | (refine zn ?_; intro _))
    refine ⟨trivial, _, rfl, [pa], [], List.Perm.refl _, a, n, c, pa, rfl, rfl, ?_⟩
    rw [hld, List.append_nil]; exact own
  | cons hg hcr hnl =>
    rename_i cv rest
    have hnd : name ∉ done := by
      have := hc.nodup
      rw [hld, List.nodup_append] at this
      intro hm
      exact this.2.2 name hm name (by simp) rfl
    rw [hg]
    repeat (first | refine zr ?_ | (refine zn ?_; intro _))
    refine ops_step rfl rfl rfl (step_call_pure rfl rfl rfl (fun H hs => rin_ok (own.slM hs (List.mem_of_getElem? (i := 0) rfl)) (by omega)) ?_)
    rw [decide_eq_false hnd]
    repeat (first | refine zr ?_ | (refine zn ?_; intro _))
    refine ops_step rfl rfl rfl (step_append 1 1 rfl rfl rfl rfl rfl rfl rfl rfl own (fun H hs => src_own (j := 0) hs rfl rfl 1) rfl (by first | rfl | exact allCell_map (fun _ => rfl) _) (by first | rfl | (simp; done) | (simp; omega)) (by omega) (fun a2 c2 p2 own2 => ?_))
    repeat (first | refine zr ?_ | (refine zn ?_; intro _))
    refine ops_step rfl rfl rfl (step_call_pure rfl rfl rfl (fun H hs => rsuper_ok (ht.pure hs) hN) ?_)
    rw [show getC (gOf cl) name = cv from by rw [getC, hg]; rfl]
    repeat (first | refine zr ?_ | (refine zn ?_; intro _))
    simp only [List.length_cons] at hk hln
    refine ⟨k - 1, by omega, _, _, ?_, List.Sublist.cons _ (List.Sublist.refl _), done ++ [name], rest, cv.su, a2, n + 1, c2, p2, by rw [hld]; simp, hcr, by omega, rfl, rfl, by rw [List.map_append]; exact own2⟩
    exact ⟨rfl, rfl, rfl, trivial⟩

theorem refIfs {H : Heap} {wb : Nat} {aa : Option Addr} {an ac : Nat} {cl : List CV} {X : List Nat} (ht : Keep X H fun H' => RefH O H' wb aa an ac cl) (s : List UInt8) : Keep X H fun H' => Sl O H' (.slice (getC (gOf cl) s).ia (getC (gOf cl) s).iN (getC (gOf cl) s).ic) 1 (getC (gOf cl) s).iN ((getC (gOf cl) s).ifs.map str) := fun H' e => by
  cases hg : gOf cl s with
  | none => rw [getC, hg]; exact Sl.nil
  | some c =>
    rw [getC, hg]
    rcases gOf_mem hg with hb | hm
    · exact (biC_cls hb).ifs
    · exact ((ht H' e).cls c hm).ifs


set_option maxHeartbeats 8000000 in
set_option maxRecDepth 100000 in
theorem rbehind_ok {wb : Nat} {aa : Option Addr} {an ac : Nat} {cl : List CV} (hN : an ≤ 1000000) : ∀ (f : Nat) (s : List UInt8) (out out' : List (List UInt8)), underF (gOf cl) f s out = some out' → out'.length ≤ 1000 → ∀ (H : Heap) (a : Option Addr) (n c : Nat) (p : Option Nat × Cont), OwnA 1 9 a n c (out.map str) p → St (blksOf [p]) H H [p] → Keep (blksOf [p]) H (fun H' => RefH O H' wb aa an ac cl) →
    FpC TT O 90 [ptr wb, .slice a n c, str s] H [p] fun v F' => ∃ a' n' c' p', v = .slice a' n' c' ∧ F' = [p'] ∧ OwnA 1 9 a' n' c' (out'.map str) p'
  | 0, _, _, _, e, _, _, _, _, _, _, _, _, _ => by cases e
  | f + 1, s, out, out', e, ho', H, a, n, c, p, own, hst, ht => by
    have hsl := refIfs ht s
    obtain ⟨C, hC⟩ : ∃ C, C = getC (gOf cl) s := ⟨_, rfl⟩
    rw [← hC] at hsl
    have hsl0 := hsl H (ExtBut.refl _ _)
    have hin : C.ifs.length = C.iN := by have := hsl0.1; simpa using this
    have hCN : C.iN ≤ 1000000 := by
      rw [hC, getC]
      cases hg : gOf cl s with
      | none => exact Nat.zero_le _
      | some c =>
        rcases gOf_mem hg with hb | hm
        · exact (biC_cls (O := O) (H := H) hb).iN
        · exact ((ht H (ExtBut.refl _ _)).cls c hm).iN
    rw [underF, ← hC] at e
    refine call_fp rfl rfl rfl rfl rfl hst ?_
    repeat (first | refine zr ?_ | (refine zn ?_; intro _))
    refine ops_step rfl rfl rfl (step_call_pure rfl rfl rfl (fun H hs => rclass_ok (ht.pure hs) hN) ?_)
    rw [← hC]
    repeat (first | refine zr ?_ | (refine zn ?_; intro _))
    rename_i cb
    refine ExecS.weak (E' := [(0, ptr wb), (1, .slice a n c), (7, ptr cb), (9, .int .i64 ((0 : Nat) : Int))]) ⟨rfl, rfl, rfl, rfl, trivial⟩ (List.Sublist.refl _) ?_
    refine ExecS.perm (L' := [p, (some cb, .cells 0 [str C.nm, str C.su, .slice C.ia C.iN C.ic, .int .i64 C.kd, .slice C.fa C.fN C.fc, .slice C.ma C.mN C.mc] 0 70)]) (List.Perm.swap _ _ _) ?_
    refine exec_loop (fun k E L => ∃ (i : Nat) (o : List (List UInt8)) (a : Option Addr) (n c : Nat) (p : Option Nat × Cont), i + k = C.iN ∧ (C.ifs.drop i).foldlM (fun out i => if (gOf cl i).isSome = true ∧ i ∉ out then underF (gOf cl) f i (out ++ [i]) else some out) o = some out' ∧ E = [(0, ptr wb), (1, .slice a n c), (7, ptr cb), (9, .int .i64 (i : Int))] ∧ L = [p, (some cb, .cells 0 [str C.nm, str C.su, .slice C.ia C.iN C.ic, .int .i64 C.kd, .slice C.fa C.fN C.fc, .slice C.ma C.mN C.mc] 0 70)] ∧ OwnA 1 9 a n c (o.map str) p) ?_ C.iN _ _ ⟨0, out, a, n, c, p, by omega, e, rfl, rfl, own⟩
    rintro k E L ⟨i, o, a, n, c, q, hik, hfo, rfl, rfl, own⟩
    have hon : o.length = n := by have := own.len; simpa using this
    have hle : ∀ (l o o' : List (List UInt8)), l.foldlM (fun out i => if (gOf cl i).isSome = true ∧ i ∉ out then underF (gOf cl) f i (out ++ [i]) else some out) o = some o' → o.length ≤ o'.length := foldlM_le (fun o i o2 h => by
      split at h
      · have := underF_le (gOf cl) f i _ _ h
        rw [List.length_append] at this
        omega
      · cases h; exact Nat.le_refl _)
    have hole := hle _ _ _ hfo
    repeat (first | refine zr ?_ | (refine zn ?_; intro _))
    refine exec_cond rfl (fun hlt => ?_) (fun hge => ?_)
    · have hi : i < C.iN := by simp at hlt; omega
      obtain ⟨x, hx⟩ : ∃ x, C.ifs[i]? = some x := ⟨_, List.getElem?_eq_getElem (by omega)⟩
      have hdr : C.ifs.drop i = x :: C.ifs.drop (i + 1) := by
        obtain ⟨hi2, rfl⟩ := List.getElem?_eq_some_iff.1 hx
        exact List.drop_eq_getElem_cons hi2
      rw [hdr, List.foldlM_cons] at hfo
      repeat (first | refine zr ?_ | (refine zn ?_; intro _))
      (first | apply ops_pl rfl rfl rfl ?_ rfl ?_ | apply draw_pl rfl rfl rfl rfl ?_ rfl rfl ?_); rotate_left; focus exact (.p rfl (opP_idx rfl rfl hsl0 rfl rfl (by omega) (by omega)))
      (first | apply ops_pl rfl rfl rfl ?_ rfl ?_ | apply draw_pl rfl rfl rfl rfl ?_ rfl rfl ?_); rotate_left; focus exact (.l rfl (fun H hs => opL_load rfl ((hsl.at hs).ld rfl (str_get hx))))
      repeat (first | refine zr ?_ | (refine zn ?_; intro _))
      refine ops_step rfl rfl rfl (step_call_pure rfl rfl rfl (fun H hs => rknown_ok (ht.pure hs) hN) ?_)
      repeat (first | refine zr ?_ | (refine zn ?_; intro _))
      cases hkn : (gOf cl x).isSome
      · rw [if_neg (fun h => by rw [hkn] at h; exact Bool.noConfusion h.1)] at hfo
        repeat (first | refine zr ?_ | (refine zn ?_; intro _))
        refine ⟨k - 1, by omega, _, _, ?_, List.Sublist.refl _, i + 1, o, a, n, c, q, by omega, hfo, rfl, rfl, own⟩
        exact ⟨rfl, rfl, rfl, rfl, trivial⟩
      · repeat (first | refine zr ?_ | (refine zn ?_; intro _))
        refine ops_step rfl rfl rfl (step_call_pure rfl rfl rfl (fun H hs => rin_ok (own.slM hs (List.mem_of_getElem? (i := 0) rfl)) (by omega)) ?_)
        repeat (first | refine zr ?_ | (refine zn ?_; intro _))
        cases hmo : decide (x ∈ o)
        · have hno := of_decide_eq_false hmo
          rw [if_pos ⟨hkn, hno⟩] at hfo
          cases hu : underF (gOf cl) f x (o ++ [x]) with
          | none => rw [hu] at hfo; cases hfo
          | some o2 =>
            rw [hu] at hfo
            have hle2 := hle _ _ _ hfo
            repeat (first | refine zr ?_ | (refine zn ?_; intro _))
            refine ops_step rfl rfl rfl (step_append 1 1 rfl rfl rfl rfl rfl rfl rfl rfl own (fun H hs => src_own (j := 0) hs rfl rfl 1) rfl (by first | rfl | exact allCell_map (fun _ => rfl) _) (by first | rfl | (simp; done) | (simp; omega)) (by omega) (fun a2 c2 p2 own2 => ?_))
            have own3 : OwnA 1 9 a2 (n + 1) c2 ((o ++ [x]).map str) p2 := by rw [List.map_append]; exact own2
            repeat (first | refine zr ?_ | (refine zn ?_; intro _))
            refine OpsS.reord [1] rfl ?_
            refine ops_step rfl rfl rfl (step_call_fp [p2] _ rfl rfl rfl (List.Perm.refl _) (fun H hs hst => rbehind_ok hN f x (o ++ [x]) o2 hu (by omega) H a2 (n + 1) c2 p2 own3 hst (ht.base hs)) (fun v F' h => ?_))
            obtain ⟨a4, n4, c4, p4, rfl, rfl, own4⟩ := h
            repeat (first | refine zr ?_ | (refine zn ?_; intro _))
            refine ⟨k - 1, by omega, _, _, ?_, List.Sublist.cons_cons _ (List.Sublist.cons _ (List.Sublist.refl _)), i + 1, o2, a4, n4, c4, p4, by omega, hfo, rfl, rfl, own4⟩
            exact ⟨rfl, rfl, rfl, rfl, trivial⟩
        · have hyes := of_decide_eq_true hmo
          rw [if_neg (fun h => h.2 hyes)] at hfo
          repeat (first | refine zr ?_ | (refine zn ?_; intro _))
          refine ⟨k - 1, by omega, _, _, ?_, List.Sublist.refl _, i + 1, o, a, n, c, q, by omega, hfo, rfl, rfl, own⟩
          exact ⟨rfl, rfl, rfl, rfl, trivial⟩
    · have hi : C.iN ≤ i := by simp at hge; omega
      rw [List.drop_eq_nil_of_le (by omega)] at hfo
      cases hfo
      repeat (first | refine zr ?_ | (refine zn ?_; intro _))
      exact ⟨trivial, _, rfl, [q], [_], List.Perm.refl _, a, n, c, q, rfl, rfl, own⟩


set_option maxHeartbeats 8000000 in
set_option maxRecDepth 100000 in
theorem rifaces_ok {H : Heap} {wb : Nat} {aa : Option Addr} {an ac : Nat} {cl : List CV} {s : List UInt8} {l il : List (List UInt8)} {fu : Nat} (hst : St (blksOf []) H H []) (ht : RefK O H wb aa an ac cl) (hN : an ≤ 1000000) (hc : ChainOf (gOf cl) s l) (hl : l.length ≤ 1000) (hi : ifsF (gOf cl) fu l [] = some il) (hil : il.length ≤ 1000) :
    FpC TT O 77 [ptr wb, str s] H [] fun v F' => ∃ a n c pa, v = .slice a n c ∧ F' = [pa] ∧ OwnA 1 9 a n c (il.map str) pa := by
  refine call_fp rfl rfl rfl rfl rfl hst ?_
  refine ExecS.ghost ?_
  repeat (first | refine zr ?_ | (refine zn ?_; intro _))
  refine ops_step rfl rfl rfl (step_call_fp [] _ rfl rfl rfl (List.Perm.refl _) (fun H hs hst => rchain_ok hst (ht.pure hs) hN hc hl) (fun v F' h => ?_))
  obtain ⟨ca, cn, cc, pc, rfl, rfl, ownc⟩ := h
  have hcn : l.length = cn := by have := ownc.len; simpa using this
  repeat (first | refine zr ?_ | (refine zn ?_; intro _))
  refine ExecS.weak (E' := [(0, ptr wb), (5, .slice none 0 0), (6, .slice ca cn cc), (7, .int .i64 ((0 : Nat) : Int))]) ⟨rfl, rfl, rfl, rfl, trivial⟩ (List.Sublist.refl _) ?_
  refine ExecS.perm (L' := [(none, .map []), pc]) (List.Perm.swap _ _ _) ?_
  refine exec_loop (fun k E L => ∃ (i : Nat) (o : List (List UInt8)) (a : Option Addr) (n c : Nat) (p : Option Nat × Cont), i + k = cn ∧ ifsF (gOf cl) fu (l.drop i) o = some il ∧ E = [(0, ptr wb), (5, .slice a n c), (6, .slice ca cn cc), (7, .int .i64 (i : Int))] ∧ L = [p, pc] ∧ OwnA 1 9 a n c (o.map str) p) ?_ cn _ _ ⟨0, [], none, 0, 0, _, by omega, hi, rfl, rfl, .nil _⟩
  rintro k E L ⟨i, o, a, n, c, p, hik, hfo, rfl, rfl, own⟩
  repeat (first | refine zr ?_ | (refine zn ?_; intro _))
  refine exec_cond rfl (fun hlt => ?_) (fun hge => ?_)
  · have hi : i < cn := by simp at hlt; omega
    obtain ⟨x, hx⟩ : ∃ x, l[i]? = some x := ⟨_, List.getElem?_eq_getElem (by omega)⟩
    have hdr : l.drop i = x :: l.drop (i + 1) := by
      obtain ⟨hi2, rfl⟩ := List.getElem?_eq_some_iff.1 hx
      exact List.drop_eq_getElem_cons hi2
    rw [hdr, ifsF, List.foldlM_cons] at hfo
    cases hu : underF (gOf cl) fu x o with
    | none => rw [hu] at hfo; cases hfo
    | some o2 =>
      rw [hu] at hfo
      have hfo : ifsF (gOf cl) fu (l.drop (i + 1)) o2 = some il := hfo
      have hle := ifsF_le (gOf cl) fu _ _ _ hfo
      repeat (first | refine zr ?_ | (refine zn ?_; intro _))
      (first | apply ops_pl rfl rfl rfl ?_ rfl ?_ | apply draw_pl rfl rfl rfl rfl ?_ rfl rfl ?_); rotate_left; focus exact (.p rfl (opP_idxA ownc rfl rfl rfl rfl (by omega) (by omega)))
      (first | apply ops_pl rfl rfl rfl ?_ rfl ?_ | apply draw_pl rfl rfl rfl rfl ?_ rfl rfl ?_); rotate_left; focus exact (.l rfl (fun H hs => opL_load rfl ((OwnA.slM ownc hs (by first | exact List.mem_of_getElem? (i := 0) rfl | exact List.mem_of_getElem? (i := 1) rfl | exact List.mem_of_getElem? (i := 2) rfl | exact List.mem_of_getElem? (i := 3) rfl | exact List.mem_of_getElem? (i := 4) rfl | exact List.mem_of_getElem? (i := 5) rfl | exact List.mem_of_getElem? (i := 6) rfl | exact List.mem_of_getElem? (i := 7) rfl)).ld rfl (str_get hx))))
      repeat (first | refine zr ?_ | (refine zn ?_; intro _))
      refine ops_step rfl rfl rfl (step_call_fp [p] [pc] rfl rfl rfl (List.Perm.refl _) (fun H hs hst => rbehind_ok hN fu x o o2 hu (by omega) H a n c p own hst (ht.base hs)) (fun v F' h => ?_))
      obtain ⟨a4, n4, c4, p4, rfl, rfl, own4⟩ := h
      repeat (first | refine zr ?_ | (refine zn ?_; intro _))
      refine ⟨k - 1, by omega, _, _, ?_, List.Sublist.refl _, i + 1, o2, a4, n4, c4, p4, by omega, hfo, rfl, rfl, own4⟩
      exact ⟨rfl, rfl, rfl, rfl, trivial⟩
  · have hi : cn ≤ i := by simp at hge; omega
    rw [List.drop_eq_nil_of_le (by omega)] at hfo
    cases hfo
    repeat (first | refine zr ?_ | (refine zn ?_; intro _))
    exact ⟨trivial, _, rfl, [p], [pc], List.Perm.refl _, a, n, c, p, rfl, rfl, own⟩

set_option maxHeartbeats 8000000 in
set_option maxRecDepth 100000 in
theorem rsub_ok {H : Heap} {wb : Nat} {aa : Option Addr} {an ac : Nat} {cl : List CV} {m : TM} {a b : List UInt8} (ht : RefK O H wb aa an ac cl) (hN : an ≤ 1000000) (hm : TMok (gOf cl) m) :
    CallC TT O 52 [ptr wb, str a, str b] H fun v H' => v = .bool (m.sub a b) ∧ Ext H H' := by
  obtain ⟨fu, hi⟩ := hm.ifl a
  have hc := hm.ch a
  have hl := hm.chl a
  have hil := hm.ifll a
  have ka := hm.known a
  have kb := hm.known b
  refine call_pure rfl rfl rfl rfl rfl ?_
  repeat (first | refine zr ?_ | (refine zn ?_; intro _))
  refine ops_step rfl rfl rfl (step_call_pure rfl rfl rfl (fun H hs => rknown_ok (ht.pure hs) hN) ?_)
  rw [ka]
  cases hka : m.known a
  · repeat (first | refine zr ?_ | (refine zn ?_; intro _))
    exact ⟨trivial, _, rfl, by rw [TM.sub, hka]; rfl⟩
  repeat (first | refine zr ?_ | (refine zn ?_; intro _))
  refine ops_step rfl rfl rfl (step_call_pure rfl rfl rfl (fun H hs => rknown_ok (ht.pure hs) hN) ?_)
  rw [kb]
  cases hkb : m.known b
  · repeat (first | refine zr ?_ | (refine zn ?_; intro _))
    exact ⟨trivial, _, rfl, by rw [TM.sub, hka, hkb]; rfl⟩
  repeat (first | refine zr ?_ | (refine zn ?_; intro _))
  have hsb : m.sub a b = (decide (a = b) || decide (b = objB) || decide (b ∈ m.ch a) || decide (b ∈ m.ifl a)) := by rw [TM.sub, hka, hkb]; rfl
  rw [hsb]
  repeat (first | refine zr ?_ | (refine zn ?_; intro _))
  rw [baEq a b]
  cases hab : decide (a = b)
  rotate_left
  · repeat (first | refine zr ?_ | (refine zn ?_; intro _))
    exact ⟨trivial, _, rfl, rfl⟩
  repeat (first | refine zr ?_ | (refine zn ?_; intro _))
  rw [show ((⟨⟨b⟩⟩ : ByteArray).data.toList == (⟨⟨[79, 98, 106, 101, 99, 116]⟩⟩ : ByteArray).data.toList) = decide (b = objB) from baEq b objB]
  cases hbo : decide (b = objB)
  rotate_left
  · repeat (first | refine zr ?_ | (refine zn ?_; intro _))
    exact ⟨trivial, _, rfl, rfl⟩
  repeat (first | refine zr ?_ | (refine zn ?_; intro _))
  refine ops_step rfl rfl rfl (step_call_fp [] _ rfl rfl rfl (List.Perm.refl _) (fun H hs hst => rchain_ok hst (ht.pure hs) hN hc hl) (fun v F' h => ?_))
  obtain ⟨ca, cn, cc, pc, rfl, rfl, ownc⟩ := h
  have hcn : (m.ch a).length = cn := by have := ownc.len; simpa using this
  repeat (first | refine zr ?_ | (refine zn ?_; intro _))
  refine ops_step rfl rfl rfl (step_call_pure rfl rfl rfl (fun H hs => rin_ok (ownc.slM hs (List.mem_of_getElem? (i := 0) rfl)) (by omega)) ?_)
  cases hbl : decide (b ∈ m.ch a)
  rotate_left
  · repeat (first | refine zr ?_ | (refine zn ?_; intro _))
    exact ⟨trivial, _, rfl, rfl⟩
  repeat (first | refine zr ?_ | (refine zn ?_; intro _))
  refine ops_step rfl rfl rfl (step_call_fp [] _ rfl rfl rfl (List.Perm.refl _) (fun H hs hst => rifaces_ok hst (ht.pure hs) hN hc hl hi hil) (fun v F' h => ?_))
  obtain ⟨ia, iN, ic, pi, rfl, rfl, owni⟩ := h
  have hin : (m.ifl a).length = iN := by have := owni.len; simpa using this
  repeat (first | refine zr ?_ | (refine zn ?_; intro _))
  refine ops_step rfl rfl rfl (step_call_pure rfl rfl rfl (fun H hs => rin_ok (owni.slM hs (List.mem_of_getElem? (i := 0) rfl)) (by omega)) ?_)
  repeat (first | refine zr ?_ | (refine zn ?_; intro _))
  exact ⟨trivial, _, rfl, rfl⟩

set_option maxHeartbeats 8000000 in
set_option maxRecDepth 100000 in
theorem rcommon_ok {H : Heap} {wb : Nat} {aa : Option Addr} {an ac : Nat} {cl : List CV} {m : TM} {a b : List UInt8} (ht : RefK O H wb aa an ac cl) (hN : an ≤ 1000000) (hm : TMok (gOf cl) m) :
    CallC TT O 51 [ptr wb, str a, str b] H fun v H' => v = str (m.common a b) ∧ Ext H H' := by
  have hca := hm.ch a
  have hla := hm.chl a
  have hcb := hm.ch b
  have hlb := hm.chl b
  refine call_pure rfl rfl rfl rfl rfl ?_
  repeat (first | refine zr ?_ | (refine zn ?_; intro _))
  rw [baEq a b]
  refine OpsS.mono (Q := fun E L => SubE [(0, ptr wb), (1, str a), (2, str b), (22, .bool (!decide (a = b) && (m.iface a || m.iface b)))] E ∧ L = []) ?_ ?_
  · cases hab : decide (a = b)
    rotate_left
    · repeat (first | refine zo ?_ | (refine zn ?_; intro _))
      exact ops_nil ⟨⟨rfl, rfl, rfl, rfl, trivial⟩, rfl⟩
    repeat (first | refine zo ?_ | (refine zn ?_; intro _))
    refine ops_step rfl rfl rfl (step_call_pure rfl rfl rfl (fun H hs => riface_ok (ht.pure hs) hN hm) ?_)
    cases hka : m.iface a
    · repeat (first | refine zo ?_ | (refine zn ?_; intro _))
      refine ops_step rfl rfl rfl (step_call_pure rfl rfl rfl (fun H hs => riface_ok (ht.pure hs) hN hm) ?_)
      repeat (first | refine zo ?_ | (refine zn ?_; intro _))
      exact ops_nil ⟨⟨rfl, rfl, rfl, rfl, trivial⟩, rfl⟩
    · repeat (first | refine zo ?_ | (refine zn ?_; intro _))
      exact ops_nil ⟨⟨rfl, rfl, rfl, rfl, trivial⟩, rfl⟩
  rintro E L ⟨hE, rfl⟩
  refine ExecS.weak hE (List.Sublist.refl _) ?_
  cases hq : (!decide (a = b) && (m.iface a || m.iface b))
  rotate_left
  · have hcm : m.common a b = objB := by
      simp only [Bool.and_eq_true, Bool.not_eq_true', decide_eq_false_iff_not, Bool.or_eq_true] at hq
      rw [TM.common, if_pos hq]
    repeat (first | refine zr ?_ | (refine zn ?_; intro _))
    exact ⟨trivial, _, rfl, by rw [hcm]; rfl⟩
  have hcm : m.common a b = ((m.ch a).find? fun x => decide (x ∈ m.ch b)).getD objB := by
    rw [TM.common, if_neg]
    intro h
    rw [decide_eq_false h.1] at hq
    rcases h.2 with h | h <;> simp [h] at hq
  rw [hcm]
  generalize m.ch a = la at hca hla
  generalize m.ch b = lb at hcb hlb
  repeat (first | refine zr ?_ | (refine zn ?_; intro _))
  refine ops_step rfl rfl rfl (step_call_fp [] _ rfl rfl rfl (List.Perm.refl _) (fun H hs hst => rchain_ok hst (ht.pure hs) hN hca hla) (fun v F' h => ?_))
  obtain ⟨xa, xn, xc, pa, rfl, rfl, owna⟩ := h
  have han : la.length = xn := by have := owna.len; simpa using this
  repeat (first | refine zr ?_ | (refine zn ?_; intro _))
  refine ops_step rfl rfl rfl (step_call_fp [] _ rfl rfl rfl (List.Perm.refl _) (fun H hs hst => rchain_ok hst (ht.pure hs) hN hcb hlb) (fun v F' h => ?_))
  obtain ⟨ya, yn, yc, pb, rfl, rfl, ownb⟩ := h
  have hbn : lb.length = yn := by have := ownb.len; simpa using this
  repeat (first | refine zr ?_ | (refine zn ?_; intro _))
  refine ExecS.weak (E' := [(7, .slice xa xn xc), (8, .slice ya yn yc), (9, .int .i64 ((0 : Nat) : Int))]) ⟨rfl, rfl, rfl, trivial⟩ (List.Sublist.refl _) ?_
  refine exec_loop (fun k E L => ∃ i : Nat, i + k = xn ∧ (∀ j y, j < i → la[j]? = some y → decide (y ∈ lb) = false) ∧ E = [(7, .slice xa xn xc), (8, .slice ya yn yc), (9, .int .i64 (i : Int))] ∧ L = [pb, pa]) ?_ xn _ _ ⟨0, by omega, fun j y hj => by omega, rfl, rfl⟩
  rintro k E L ⟨i, hik, hpre, rfl, rfl⟩
  repeat (first | refine zr ?_ | (refine zn ?_; intro _))
  refine exec_cond rfl (fun hlt => ?_) (fun hge => ?_)
  · have hi : i < xn := by simp at hlt; omega
    obtain ⟨x, hx⟩ : ∃ x, la[i]? = some x := ⟨_, List.getElem?_eq_getElem (by omega)⟩
    repeat (first | refine zr ?_ | (refine zn ?_; intro _))
    (first | apply ops_pl rfl rfl rfl ?_ rfl ?_ | apply draw_pl rfl rfl rfl rfl ?_ rfl rfl ?_); rotate_left; focus exact (.p rfl (opP_idxA owna rfl rfl rfl rfl (by omega) (by omega)))
    (first | apply ops_pl rfl rfl rfl ?_ rfl ?_ | apply draw_pl rfl rfl rfl rfl ?_ rfl rfl ?_); rotate_left; focus exact (.l rfl (fun H hs => opL_load rfl ((OwnA.slM owna hs (by first | exact List.mem_of_getElem? (i := 0) rfl | exact List.mem_of_getElem? (i := 1) rfl | exact List.mem_of_getElem? (i := 2) rfl | exact List.mem_of_getElem? (i := 3) rfl | exact List.mem_of_getElem? (i := 4) rfl | exact List.mem_of_getElem? (i := 5) rfl | exact List.mem_of_getElem? (i := 6) rfl | exact List.mem_of_getElem? (i := 7) rfl)).ld rfl (str_get hx))))
    repeat (first | refine zr ?_ | (refine zn ?_; intro _))
    refine ops_step rfl rfl rfl (step_call_pure rfl rfl rfl (fun H hs => rin_ok (ownb.slM hs (List.mem_of_getElem? (i := 0) rfl)) (by omega)) ?_)
    cases hm : decide (x ∈ lb)
    · repeat (first | refine zr ?_ | (refine zn ?_; intro _))
      refine ⟨k - 1, by omega, _, _, ?_, List.Sublist.refl _, i + 1, by omega, fun j y hj hy => ?_, rfl, rfl⟩
      · exact ⟨rfl, rfl, rfl, trivial⟩
      · by_cases hji : j = i
        · subst hji
          rw [hx] at hy
          cases hy
          exact hm
        · exact hpre j y (by omega) hy
    · repeat (first | refine zr ?_ | (refine zn ?_; intro _))
      (first | apply ops_pl rfl rfl rfl ?_ rfl ?_ | apply draw_pl rfl rfl rfl rfl ?_ rfl rfl ?_); rotate_left; focus exact (.p rfl (opP_idxA owna rfl rfl rfl rfl (by omega) (by omega)))
      (first | apply ops_pl rfl rfl rfl ?_ rfl ?_ | apply draw_pl rfl rfl rfl rfl ?_ rfl rfl ?_); rotate_left; focus exact (.l rfl (fun H hs => opL_load rfl ((OwnA.slM owna hs (by first | exact List.mem_of_getElem? (i := 0) rfl | exact List.mem_of_getElem? (i := 1) rfl | exact List.mem_of_getElem? (i := 2) rfl | exact List.mem_of_getElem? (i := 3) rfl | exact List.mem_of_getElem? (i := 4) rfl | exact List.mem_of_getElem? (i := 5) rfl | exact List.mem_of_getElem? (i := 6) rfl | exact List.mem_of_getElem? (i := 7) rfl)).ld rfl (str_get hx))))
      repeat (first | refine zr ?_ | (refine zn ?_; intro _))
      refine ⟨trivial, _, rfl, ?_⟩
      have hdr : la.drop i = x :: la.drop (i + 1) := by
        obtain ⟨hi2, rfl⟩ := List.getElem?_eq_some_iff.1 hx
        exact List.drop_eq_getElem_cons hi2
      rw [find_drop (p := fun x => decide (x ∈ lb)) hpre, hdr, List.find?_cons, hm]
      rfl
  · have hi : xn ≤ i := by simp at hge; omega
    repeat (first | refine zr ?_ | (refine zn ?_; intro _))
    refine ⟨trivial, _, rfl, ?_⟩
    rw [find_drop (p := fun x => decide (x ∈ lb)) hpre, List.drop_eq_nil_of_le (by omega)]
    rfl
end Go.Proofs.Ythifbkjkiijkoaa

