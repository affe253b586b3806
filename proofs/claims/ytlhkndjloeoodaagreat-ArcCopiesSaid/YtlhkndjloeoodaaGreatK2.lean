/-
  Lemmas for the laws of this seat.
-/
import Derived.Test.YtlhkndjloeoodaaGreatK1
import Derived.Laws.Cells
import Derived.Laws.BytesString
import Derived.MapKept
set_option linter.unusedVariables false
set_option linter.unusedSimpArgs false
namespace Go.Ev
inductive AR (ρ : Ren) (b off : Nat) : Option Nat → Nat → Nat → Prop
  | old : AR ρ b off none b off
  | new {ver : Nat} {l : Loc} (h : ρ.loc b ver = some l) (hd : l.d ≤ off) : AR ρ b off (some ver) l.r (off - l.d)
theorem AR.add {ρ : Ren} {b off b' off' : Nat} {spot : Option Nat} (h : AR ρ b off spot b' off') (k : Nat) : AR ρ b (off + k) spot b' (off' + k) := by
  cases h with
  | old => exact .old
  | new h hd =>
    rename_i ver l
    rw [show off - l.d + k = off + k - l.d by omega]
    exact .new h (by omega)
theorem V.ptrA {ρ : Ren} {b off : Nat} {spot : Option Nat} {v' : Value} (h : V ρ (.pointer (some ⟨b, off, spot⟩)) v') : ∃ b' off', v' = .pointer (some ⟨b', off', none⟩) ∧ AR ρ b off spot b' off' := by
  cases spot with
  | none => exact ⟨_, _, h.oldPtr_inv, .old⟩
  | some ver => obtain ⟨l, hl, hd, e⟩ := h.newPtr_inv; exact ⟨_, _, e, .new hl hd⟩
theorem cell_of {w : World} {r i ty : Nat} {c : Array Value} {fz : Nat × Nat} {y : Value} (h : w.heap[r]? = some (.cells c ty fz)) (hy : c[i]? = some y) : w.cell? ⟨r, i, none⟩ = some y := by
  simp [World.cell?, h, hy]
section rd
variable {w0 : World} {ρ : Ren} {H : Heap} {w : World} (hr : HR w0 ρ H w)
include hr
theorem HR.blkOf {b v : Nat} {l : Loc} {k : Blk} (hl : ρ.loc b v = some l) (hk : H.blks.get b = some k) : BR ρ b k w := by
  obtain ⟨k', h1, h2⟩ := hr.blk _ _ _ hl
  rw [hk] at h1; cases h1; exact h2
theorem rd_sim {b off b' off' : Nat} {spot : Option Nat} {v : Value} (h : rd w0.cell? H b off spot = some v) (ha : AR ρ b off spot b' off') :
    ∃ y, w.cell? ⟨b', off', none⟩ = some y ∧ V ρ v y := by
  cases ha with
  | old =>
    simp only [rd, keepFlat] at h
    cases hc : w0.cell? ⟨b, off, none⟩ with
    | none => simp [hc] at h
    | some x =>
      simp only [hc] at h
      cases hf : flat x with
      | false => simp [hf] at h
      | true =>
        simp [hf] at h
        subst h
        refine ⟨x, ?_, .flat hf⟩
        rw [← hc]
        simp only [World.cell?]
        have : b < w0.heap.size := by
          simp only [World.cell?] at hc
          cases hh : w0.heap[b]? with
          | none => simp [hh] at hc
          | some o => exact (Array.getElem?_eq_some_iff.1 hh).1
        rw [hr.old b this]
  | new hl hd =>
    rename_i ver l
    simp only [rd] at h
    cases hk : H.blks.get b with
    | none => simp [hk] at h
    | some k =>
      simp only [hk] at h
      have hb := hr.blkOf hl hk
      cases k with
      | cells cs n v0 prev esz ty =>
        simp only [Blk.at] at h
        obtain ⟨_, hlt, hno, hcur, hprev⟩ := hb
        cases hv : Nat.beq ver v0 with
        | true =>
          simp only [hv, cond_true] at h
          obtain rfl := Nat.eq_of_beq_eq_true hv
          obtain ⟨c, fz, h1, h2, h3, h4, h5⟩ := hcur l hl
          obtain ⟨y, hy, hvy⟩ := h5 off v hd (hlt _ _ h) h
          exact ⟨y, cell_of h1 hy, hvy⟩
        | false =>
          simp only [hv, cond_false] at h
          cases hv1 : Nat.beq (ver + 1) v0 with
          | false => simp [hv1] at h
          | true =>
            simp only [hv1, cond_true] at h
            obtain rfl := Nat.eq_of_beq_eq_true hv1
            cases prev with
            | none => simp at h
            | some pn =>
              simp only at h
              cases hp : Nat.blt off pn with
              | false => simp [hp] at h
              | true =>
                simp only [hp, cond_true] at h
                have hoff : off < pn := by simpa [Nat.blt_eq] using hp
                obtain ⟨hpn, c, fz, h1, h2, h3, h4, h5⟩ := hprev pn rfl ver l rfl hl
                obtain ⟨y, hy, hvy⟩ := h5 off v hd hoff h
                exact ⟨y, cell_of h1 hy, hvy⟩
      | map es => simp [Blk.at] at h
      | dead => simp [Blk.at] at h
theorem rdN_sim {b b' : Nat} {spot : Option Nat} : ∀ {n off off' : Nat} {l : List Value}, rdN w0.cell? H b spot n off = some l → AR ρ b off spot b' off' →
    ∃ l', All2 (V ρ) l l' ∧ l'.length = n ∧ ∀ j v, l'[j]? = some v → w.cell? ⟨b', off' + j, none⟩ = some v
  | 0, off, off', l, h, ha => by
    simp [rdN] at h
    subst h
    exact ⟨[], .nil, rfl, fun j v h => by simp at h⟩
  | n + 1, off, off', l, h, ha => by
    simp only [rdN] at h
    split at h
    · cases h
    · rename_i v hv
      split at h
      · cases h
      · rename_i r hr'
        cases h
        obtain ⟨y, hy, hvy⟩ := rd_sim hr hv ha
        obtain ⟨l', h1, h2, h3⟩ := rdN_sim hr' (ha.add 1)
        refine ⟨y :: l', .cons hvy h1, by simp [h2], fun j v hj => ?_⟩
        cases j with
        | zero => simp at hj; subst hj; exact hy
        | succ j =>
          simp at hj
          have := h3 j v hj
          rwa [show off' + 1 + j = off' + (j + 1) by omega] at this
theorem rdN_run {P : Program} {b b' off off' n : Nat} {spot : Option Nat} {l : List Value} (h : rdN w0.cell? H b spot n off = some l) (ha : AR ρ b off spot b' off') :
    ∃ l', All2 (V ρ) l l' ∧ l'.length = n ∧ (loadCells ⟨b', off', none⟩ n).run P w = .ok l'.toArray w ∧ ∀ j v, l'[j]? = some v → w.cell? ⟨b', off' + j, none⟩ = some v := by
  obtain ⟨l', h1, h2, h3⟩ := rdN_sim hr h ha
  refine ⟨l', h1, h2, ?_, h3⟩
  rw [← h2]
  refine run_loadCells_list w _ l' fun j v hj => ?_
  have := h3 j v hj
  by_cases h0 : j = 0
  · subst h0; simpa [Addr.add] using this
  · simpa [Addr.add, h0] using this
theorem sim_load {T : Tab} {P : Program} (ok : T.Ok P) {t : Nat} {a a' v : Value} (h : load T w0.cell? H t a = some v) (ha : V ρ a a') : ∃ v', (Instr.loadAt t a').run P w = .ok v' w ∧ V ρ v v' := by
  unfold load at h
  split at h
  · rename_i b off spot
    obtain ⟨b', off', rfl, har⟩ := ha.ptrA
    split at h
    · cases h
    · rename_i d hd
      cases hg : isAggD d with
      | true =>
        simp only [hg, cond_true] at h
        split at h
        · cases h
        · rename_i n hn
          split at h
          · cases h
          · rename_i l hl
            cases h
            obtain ⟨l', h1, h2, h3, _⟩ := rdN_run hr (P := P) hl har
            refine ⟨.agg l'.toArray, ?_, .agg (by simpa using h1)⟩
            simp [Instr.loadAt, Instr.sureAddr, loadVar, ok.runAgg hd, hg, ok.runSize hn, h3]
      | false =>
        simp only [hg, cond_false] at h
        obtain ⟨y, hy, hv⟩ := rd_sim hr h har
        refine ⟨y, ?_, hv⟩
        simp [Instr.loadAt, Instr.sureAddr, loadVar, ok.runAgg hd, hg, hy]
  · cases h
end rd
theorem bounds_m {len cap : Nat} {lo hi : Option Value} {l h m : Nat} (hb : bounds len cap lo hi none = some (l, h, m)) : m = cap := by
  unfold bounds at hb
  simp only at hb
  split at hb
  · cases hb
  · cases lo with
    | none => simp at hb; omega
    | some v =>
      simp only at hb
      cases hn : asN v with
      | none => simp [hn] at hb
      | some i =>
        simp only [hn] at hb
        split at hb
        · simp at hb; omega
        · cases hb
theorem isKey_IsKey {d : TypeDesc} {k : Value} (h : isKey d k = true) : MapKept.IsKey d k := by
  cases d <;> cases k <;> first | (simp [isKey] at h; done) | trivial | (simp [isKey] at h; exact h)
theorem beq_bytes (a b : ByteArray) : (a == b) = (a.data.toList == b.data.toList) := by
  rw [beq_toListBytes, toList_eq, toList_eq]
theorem sameNow_of {d : TypeDesc} {k k' : Value} {r : Bool} (hd : isKey d k = true) (h : sameKey k k' = some r) : Instr.sameNow d k k' = some r := by
  unfold sameKey at h
  split at h
  · split at h
    · cases h
      rename_i e
      cases d <;> first | (simp [isKey] at hd; done) | (simp [Instr.sameNow, e])
    · cases h
  · cases h
    cases d <;> first | (simp [isKey] at hd; done) | (simp [Instr.sameNow, beq_bytes])
  · cases h
    cases d <;> first | (simp [isKey] at hd; done) | (simp [Instr.sameNow])
  · cases h
def ER (ρ : Ren) (x : Value × Value) (e : MapEntry) : Prop := e.key = x.1 ∧ V ρ x.2 e.val
theorem find_sim {ρ : Ren} {d : TypeDesc} {k : Value} (hd : isKey d k = true) : ∀ {es : List (Value × Value)} {en : List MapEntry} {r : Option Value} (i : Nat), find k es = some r → All2 (ER ρ) es en →
    ∃ r', Instr.findNow d k en i = some r' ∧ (match r with | none => r' = none | some v => ∃ j v', r' = some (j, v') ∧ V ρ v v')
  | [], _, r, i, h, hs => by
    cases hs
    simp [find] at h
    subst h
    exact ⟨none, rfl, rfl⟩
  | (k', v) :: es, _, r, i, h, hs => by
    cases hs with
    | cons hx ht =>
      rename_i e en
      obtain ⟨hk, hv⟩ := hx
      simp only at hk hv
      simp only [find] at h
      split at h
      · rename_i hs
        cases h
        refine ⟨some (i, e.val), ?_, i, e.val, rfl, hv⟩
        have := sameNow_of hd hs
        rw [← hk] at this
        simp [Instr.findNow, this]
      · rename_i hs
        obtain ⟨r', h1, h2⟩ := find_sim hd (i + 1) h ht
        refine ⟨r', ?_, h2⟩
        have := sameNow_of hd hs
        rw [← hk] at this
        simp [Instr.findNow, this, h1]
      · cases h
section mem
variable {w0 : World} {ρ : Ren} {H : Heap} {w : World} (hr : HR w0 ρ H w) {T : Tab} {P : Program} (ok : T.Ok P)
include hr ok
omit ok in
theorem entries_sim {x x' : Value} {es : List (Value × Value)} (h : entries H x = some es) (hx : V ρ x x') :
    ∃ en : Array MapEntry, All2 (ER ρ) es en.toList ∧ ((x' = .map none ∧ en = #[]) ∨ ∃ r clock, x' = .map (some r) ∧ w.heap[r]? = some (.map en clock)) := by
  unfold entries at h
  split at h
  · cases h
    exact ⟨#[], .nil, .inl ⟨hx.nilMap_inv, rfl⟩⟩
  · rename_i m
    obtain ⟨l, hl, rfl⟩ := hx.newMap_inv
    split at h
    · rename_i es' hm
      cases h
      obtain ⟨en, clock, h1, h2⟩ := hr.blkOf hl hm l hl
      exact ⟨en, h2, .inr ⟨l.r, clock, rfl, h1⟩⟩
    · cases h
  · cases h
theorem sim_lookup0 {t : Nat} {x k x' k' v : Value} {c : Bool} (h : lookup0 T H t x k c = some v) (hx : V ρ x x') (hk : V ρ k k') : ∃ v', (Instr.lookup t x' k' c).run P w = .ok v' w ∧ V ρ v v' := by
  unfold lookup0 at h
  split at h
  · rename_i kt et hu
    split at h
    · rename_i d z es hd hz hes
      cases hc : (isKey d k && closedC z) with
      | false => simp [hc] at h
      | true =>
        simp only [hc, cond_true] at h
        simp only [Bool.and_eq_true] at hc
        obtain ⟨hkey, hcz⟩ := hc
        have hke : k' = k := by
          cases d <;> cases k <;> first | (simp [isKey] at hkey; done) | exact hk.int_inv | exact hk.string_inv | exact hk.bool_inv
        subst hke
        obtain ⟨en, he, hcase⟩ := entries_sim hr hes hx
        have hck : ∀ e, (Instr.checkKey e 10000 kt k').run P w = .ok () w := fun e => MapKept.run_checkKey (P := P) (w := w) (ok.und hd) (isKey_IsKey hkey) e 9999
        split at h
        · rename_i u hf
          cases h
          obtain ⟨r', h1, j, v', rfl, hv⟩ := find_sim hkey 0 hf he
          have hfk := MapKept.run_findKey (P := P) (w := w) (ok.und hd) h1
          refine ⟨if c then .tuple #[v', .bool true] else v', ?_, ?_⟩
          · rcases hcase with ⟨rfl, rfl⟩ | ⟨r, clock, rfl, hw⟩
            · simp only [Instr.lookup, Sem.run_bind, ok.runUnd hu, Result.andThen_ok, hck, hfk, Sem.run_pure]
            · have hg : (getObj r).run P w = .ok (.map en clock) w := by simp [getObj, Sem.run, hw]
              simp only [Instr.lookup, Sem.run_bind, ok.runUnd hu, Result.andThen_ok, hg, hck, hfk, Sem.run_pure]
          · cases c
            · exact hv
            · exact .tuple (.cons hv (.cons (.flat rfl) .nil))
        · rename_i hf
          cases h
          obtain ⟨r', h1, rfl⟩ := find_sim hkey 0 hf he
          have hfk := MapKept.run_findKey (P := P) (w := w) (ok.und hd) h1
          refine ⟨if c then .tuple #[z, .bool false] else z, ?_, ?_⟩
          · rcases hcase with ⟨rfl, rfl⟩ | ⟨r, clock, rfl, hw⟩
            · simp only [Instr.lookup, Sem.run_bind, ok.runUnd hu, Result.andThen_ok, hck, hfk, Sem.run_pure, ok.runZero hz]
            · have hg : (getObj r).run P w = .ok (.map en clock) w := by simp [getObj, Sem.run, hw]
              simp only [Instr.lookup, Sem.run_bind, ok.runUnd hu, Result.andThen_ok, hg, hck, hfk, Sem.run_pure, ok.runZero hz]
          · cases c
            · exact .closed hcz
            · exact .tuple (.cons (.closed hcz) (.cons (.flat rfl) .nil))
        · cases h
    · cases h
  · cases h
omit hr ok in
theorem noKey_find {i : Nat} {s : ByteArray} (hbin : ∀ b v, T.bin .eql (.chan (some i)) (.string b) = some (.bool v) → v = (s.data.toList == b.data.toList)) : ∀ {es : List (Value × Value)}, noKey T i es = true → find (.string s) es = some none
  | [], _ => rfl
  | (k, u) :: es, h => by
    unfold noKey at h
    split at h
    · rename_i heq; cases heq
    · rename_i b w es2 heq
      cases heq
      split at h
      · rename_i hb
        have := hbin b false hb
        simp only [find, sameKey, ← this]
        exact noKey_find hbin h
      · cases h
    · cases h
theorem sim_lookup (hS : ρ.sym = T.sym) {t : Nat} {x k x' k' v : Value} {c : Bool} (h : lookup T H t x k c = some v) (hx : V ρ x x') (hk : V ρ k k') : ∃ v', (Instr.lookup t x' k' c).run P w = .ok v' w ∧ V ρ v v' := by
  unfold lookup at h
  split at h
  · rename_i i
    split at h
    · rename_i kt et hu
      split at h
      · rename_i z es l hkt hz hes hl
        cases hc : closedC z && noKey T i es with
        | false => simp [hc] at h
        | true =>
          simp only [hc, cond_true] at h
          simp only [Bool.and_eq_true] at hc
          obtain ⟨s, h1, _⟩ := ok.slen _ _ hl
          obtain ⟨h3, h4⟩ := hk.sym_inv hS
          rw [h1] at h3; cases h3
          have hsv : SV T.sym (.chan (some i)) (.string s) := .inl ⟨i, rfl, h1, rfl⟩
          have hf := noKey_find (T := T) (i := i) (s := s) (fun b v hb => by
            obtain ⟨v', g1, g2⟩ := ok.bin _ _ _ _ hb _ _ hsv (.inr ⟨.inr rfl, rfl⟩)
            rcases g2 with ⟨_, _, _, e, _⟩ | ⟨a, b', e1, e2, g3⟩
            · cases e
            · cases e1; cases e2
              simp only [strOp, Option.some.injEq] at g3
              subst g3
              rcases g1 with ⟨j, e, _⟩ | ⟨_, e⟩
              · cases e
              · cases e; rfl) hc.2
          refine sim_lookup0 hr ok (k := .string s) ?_ hx (.flat rfl)
          unfold lookup0
          simp only [hu, hkt, hz, hes, isKey, hc.1, Bool.and_self, cond_true, hf]
          exact h
      · cases h
    · cases h
  · exact sim_lookup0 hr ok h hx hk
theorem sim_slice {t : Nat} {x x' v : Value} {lo hi mx lo' hi' mx' : Option Value} (h : sliceV T H t x lo hi mx = some v) (hx : V ρ x x') (hlo : OV ρ lo lo') (hhi : OV ρ hi hi') (hmx : OV ρ mx mx') :
    ∃ v', (Instr.sliceAt t x' lo' hi' mx').run P w = .ok v' w ∧ V ρ v v' := by
  unfold sliceV at h
  split at h
  · rename_i s hu
    obtain rfl := hx.string_inv
    cases hm : mx.isSome with
    | true => simp [hm] at h
    | false =>
      simp only [hm, cond_false] at h
      obtain rfl : mx = none := by cases mx <;> simp_all
      obtain rfl : mx' = none := by cases mx' <;> simp_all [OV]
      split at h
      · rename_i l h' m hb
        cases h
        refine ⟨.string (s.extract l h'), ?_, ?_⟩
        · simp [Instr.sliceAt, ok.runUnd hu, Instr.slice, run_bounds hb (Nat.le_refl _) hlo hhi hmx]
        · have : (⟨⟨(s.data.toList.take h').drop l⟩⟩ : ByteArray) = s.extract l h' := by
            apply ByteArray.ext
            apply Array.ext'
            simp [ByteArray.data_extract, Array.toList_extract, List.extract, List.take_drop]
            obtain ⟨h1, h2, h3, h4⟩ := bounds_le hb (Nat.le_refl _)
            have : l + (h' - l) = h' := by omega
            simp [this]
          rw [this]
          exact .flat rfl
      · cases h
  · rename_i elem hu
    obtain rfl := hx.nilSlice_inv
    split at h
    · rename_i n p hn hb
      cases h
      obtain ⟨l, h', m⟩ := p
      obtain ⟨h1, h2, h3, h4⟩ := bounds_le hb (Nat.le_refl _)
      obtain ⟨h5, h6, h7⟩ : l = 0 ∧ h' = 0 ∧ m = 0 := by omega
      subst h5; subst h6; subst h7
      refine ⟨.slice none 0 0, ?_, .flat rfl⟩
      have hrb := run_bounds (P := P) hb (Nat.le_refl _) hlo hhi hmx true w
      simp only [ite_self] at hrb
      simp [Instr.sliceAt, ok.runUnd hu, Instr.slice, hrb, ok.runSize hn]
    · cases h
  · rename_i elem b off ver len cap hu
    split at h
    · rename_i z cs n v0 prev esz ty hz hk
      split at h
      · cases h
      · rename_i l h' m hb
        split at h
        · cases h
        · rename_i hesz
          cases h
          simp only [ne_eq, Decidable.not_not] at hesz
          subst hesz
          obtain ⟨lc, o', cap', hl, hd, ho, hs, hlen, hc, rfl⟩ := hx.newSlice_inv
          have he : ρ.esz b = esz := (hr.blkOf hl hk).1
          rw [he] at hs
          obtain ⟨h1, h2, h3, h4⟩ := bounds_le hb (Nat.le_refl _)
          have hrb := run_bounds (P := P) hb hlen hlo hhi hmx true w
          generalize hM : (if mx.isSome = true then m else cap') = M at hrb
          have hMle : M ≤ cap' := by subst hM; split <;> omega
          have hhM : h' ≤ M := by subst hM; split <;> omega
          have hlM : l ≤ M := by omega
          have hmul : (M - l) * esz + l * esz ≤ cap' * esz := by
            rw [← Nat.add_mul, Nat.sub_add_cancel hlM]
            exact Nat.mul_le_mul_right _ hMle
          refine ⟨.slice (some (if M = l then ⟨lc.r, o', none⟩ else ⟨lc.r, o' + l * esz, none⟩)) (h' - l) (M - l), ?_, ?_⟩
          · simp only [Instr.sliceAt, ok.runUnd hu, Sem.run_bind, Result.andThen_ok, Instr.slice, hrb, ok.runSize hz, Sem.run_pure]
            congr 2
            by_cases hml : M = l
            · simp [hml]
            · by_cases h0 : l * esz = 0
              · simp [hml, Addr.add, h0]
              · simp [hml, Addr.add, h0]
          · refine .fr ?_
            have hcap : cutCap mx m l cap = unk ∨ cutCap mx m l cap = M - l := by
              subst hM
              cases mx with
              | some x => right; simp [cutCap]
              | none =>
                simp only [cutCap]
                rcases hc with rfl | rfl
                · left; simp [unk]
                · cases hq : Nat.beq cap unk with
                  | true => left; rfl
                  | false => right; simp
            by_cases hml : M = l
            · rw [if_pos hml]
              exact .slice hl (by omega) (.inr (by omega)) (by rw [he]; omega) (by omega) hcap
            · rw [if_neg hml]
              refine .slice hl (by omega) (.inl ?_) (by rw [he]; omega) (by omega) hcap
              rcases ho with rfl | ⟨e1, e2⟩
              · omega
              · exfalso; omega
    · cases h
  · rename_i elem b off len cap hu
    split at h
    · cases h
    · rename_i z hz
      split at h
      · cases h
      · rename_i l h' m hb
        cases h
        obtain rfl := hx.oldSlice_inv
        have hrb := run_bounds (P := P) hb (Nat.le_refl _) hlo hhi hmx true w
        refine ⟨.slice (some (if m = l then ⟨b, off, none⟩ else ⟨b, off + l * z, none⟩)) (h' - l) (m - l), ?_, .flat (by split <;> rfl)⟩
        have hm : (if mx.isSome = true then m else cap) = m := by
          cases mx with
          | some x => simp
          | none => simp [bounds_m hb]
        rw [hm] at hrb
        simp only [Instr.sliceAt, ok.runUnd hu, Sem.run_bind, Result.andThen_ok, Instr.slice, hrb, ok.runSize hz, Sem.run_pure]
        congr 2
        by_cases hml : m = l
        · simp [hml]
        · by_cases h0 : l * z = 0
          · simp [hml, Addr.add, h0]
          · simp [hml, Addr.add, h0]
  · cases h
omit hr ok in
theorem bytesOf_inv : ∀ {l : List Value} {r : List UInt8}, bytesOf l = some r → ∃ ns : List Int, l = ns.map (Value.int .u8) ∧ r = ns.map fun n => UInt8.ofNat n.toNat
  | [], r, h => by simp [bytesOf] at h; subst h; exact ⟨[], rfl, rfl⟩
  | v :: l, r, h => by
    cases v with
    | int k n =>
      cases k <;> simp only [bytesOf] at h <;> try (cases h; done)
      split at h
      · rename_i q hq
        cases h
        obtain ⟨ns, e1, e2⟩ := bytesOf_inv hq
        exact ⟨n :: ns, by simp [e1], by simp [e2]⟩
      · cases h
    | _ => simp [bytesOf] at h
omit hr ok in
theorem ints_same {ns : List Int} : ∀ {l' : List Value}, All2 (V ρ) (ns.map (Value.int .u8)) l' → l' = ns.map (Value.int .u8) := by
  induction ns with
  | nil => intro l' h; cases h; rfl
  | cons n ns ih =>
    intro l' h
    cases h with
    | cons h1 h2 =>
      rw [h1.int_inv, ih h2]
      rfl
omit hr ok in
theorem foldl_push (ns : List Int) : ∀ (s : ByteArray), ns.foldl (fun r n => r.push (UInt8.ofNat n.toNat)) s = ⟨⟨s.data.toList ++ ns.map fun n => UInt8.ofNat n.toNat⟩⟩ := by
  induction ns with
  | nil => intro s; simp
  | cons n ns ih =>
    intro s
    simp only [List.foldl_cons, ih]
    apply ByteArray.ext
    apply Array.ext'
    simp
omit ok in
theorem blockOf {b ver : Nat} {lc : Loc} {cs : Tr Value} {n : Nat} {prev : Option Nat} {esz ty : Nat} (hl : ρ.loc b ver = some lc) (hk : H.blks.get b = some (.cells cs n ver prev esz ty)) :
    CR ρ cs n ty lc w ∧ (∀ i x, cs.get i = some x → i < n) := by
  obtain ⟨h1, h2, h3, h4, h5⟩ := hr.blkOf hl hk
  exact ⟨h4 _ hl, h2⟩
omit hr ok in
theorem depth_succ (P : Program) : ∃ d, P.depth = d + 1 := ⟨2 * (P.types.size + Made.depth) + 1, rfl⟩
omit hr ok in
theorem sameLayout_refl (t : TypeId) : sameLayout P P.depth t t = true := by
  obtain ⟨d, hd⟩ := depth_succ P
  rw [hd]
  simp [sameLayout]
omit hr ok in
theorem lies_self {t : TypeId} {count off n : Nat} (h0 : P.cellsOf t ≠ 0) (h1 : off % P.cellsOf t = 0) (h2 : off / P.cellsOf t + n ≤ count) : liesAt P P.depth t count off t n = true := by
  obtain ⟨d, hd⟩ := depth_succ P
  have : rowAt P (sameLayout P P.depth · t) P.depth t count off n = true := by
    conv => lhs; arg 3; rw [hd]
    simp [rowAt, h0, h1, h2, sameLayout_refl]
  rw [show liesAt P P.depth t count off t n = liesAt P (d + 1) t count off t n by rw [hd]]
  simp [liesAt, this]
omit hr in
theorem Tab.Ok.cellsOf {t n : Nat} (h : T.size t = some n) : P.cellsOf t = n := by
  obtain ⟨i, hi, rfl⟩ := ok.size h
  simp [Program.cellsOf, hi]
omit hr ok in
theorem run_seenAt {a : Addr} {c : Array Value} {ty : TypeId} {fz : Nat × Nat} (h : w.heap[a.block]? = some (.cells c ty fz)) : (Conv.seenAt a).run P w = .ok a w := by
  simp [Conv.seenAt, viewAt, World.shape?, h]
theorem sim_conv0 (hS : ρ.sym = T.sym) {s d : Nat} {x x' v : Value} (hnb : isBytes T d = false) (h : convV T w0.cell? H s d x = some v) (hx : V ρ x x') : ∃ v', (convert s d x').run P w = .ok v' w ∧ V ρ v v' := by
  unfold convV at h
  split at h
  · rename_i ds k kk n hs hd
    cases h
    obtain rfl := hx.int_inv
    refine ⟨_, ?_, .flat rfl⟩
    simp only [convert, Sem.run_bind, ok.runUnd hs, ok.runUnd hd, Result.andThen_ok, Conv.intToInt, Sem.run_pure]
  · rename_i ds m r hs hd
    cases h
    obtain ⟨n, rfl, hn, hm⟩ := hx.res_inv
    refine ⟨.int .i64 n, ?_, .fr (.res (fk := .f64) hn hm)⟩
    have e := wrap_res (fk := .f64) hn
    simp only [resK] at e
    simp only [convert, resK, Sem.run_bind, ok.runUnd hs, ok.runUnd hd, Result.andThen_ok, Conv.intToInt, Sem.run_pure, e]
  · rename_i ds k i hs hd
    obtain ⟨k0, n, h1, h2⟩ := ok.sconv _ _ _ h
    obtain ⟨h3, _⟩ := hx.sym_inv hS
    rw [h1] at h3; cases h3
    refine ⟨_, ?_, h2.toV hS⟩
    simp only [convert, Sem.run_bind, ok.runUnd hs, ok.runUnd hd, Result.andThen_ok, Conv.intToInt, Sem.run_pure]
  · rename_i ds st hs hd
    cases h
    obtain rfl := hx.string_inv
    refine ⟨_, ?_, .flat rfl⟩
    simp only [convert, Sem.run_bind, ok.runUnd hs, ok.runUnd hd, Result.andThen_ok, Sem.run_pure]
  · rename_i e hs hd
    obtain rfl := hx.nilSlice_inv
    split at h
    · rename_i he
      cases h
      refine ⟨.string .empty, ?_, .flat rfl⟩
      simp only [convert, Sem.run_bind, ok.runUnd hs, ok.runUnd hd, ok.runUnd he, Result.andThen_ok, Conv.bytesToString, Sem.run_pure]
    · cases h
  · rename_i e b off spot n cap hs hd
    split at h
    · rename_i he
      split at h
      · rename_i l hl
        split at h
        · rename_i r hb
          cases h
          obtain ⟨ns, rfl, rfl⟩ := bytesOf_inv hb
          have fin : ∀ b' off' c', AR ρ b off spot b' off' → (Conv.bytesToString (.slice (some ⟨b', off', none⟩) n c')).run P w = .ok (.string ⟨⟨ns.map fun n => UInt8.ofNat n.toNat⟩⟩) w := by
            intro b' off' c' ha
            obtain ⟨l', h1, h2, h3, _⟩ := rdN_run hr (P := P) hl ha
            rw [ints_same h1] at h3
            rw [run_bytesToString w _ _ _ ns h3, foldl_push]
            rfl
          cases spot with
          | none =>
            obtain rfl := hx.oldSlice_inv
            refine ⟨.string ⟨⟨ns.map fun n => UInt8.ofNat n.toNat⟩⟩, ?_, .flat rfl⟩
            simp only [convert, Sem.run_bind, ok.runUnd hs, ok.runUnd hd, ok.runUnd he, Result.andThen_ok, fin _ _ _ .old]
          | some ver =>
            obtain ⟨lc, o', cap', hlc, hdd, ho, hss, hlen, hc, rfl⟩ := hx.newSlice_inv
            refine ⟨.string ⟨⟨ns.map fun n => UInt8.ofNat n.toNat⟩⟩, ?_, .flat rfl⟩
            by_cases h0 : n = 0
            · subst h0
              have hn : ns = [] := by simpa [rdN] using hl
              subst hn
              simp [convert, Sem.run_bind, ok.runUnd hs, ok.runUnd hd, ok.runUnd he, Result.andThen_ok, Conv.bytesToString, loadCells, loadCellsFrom]
              rfl
            · have : o' = off - lc.d := ho.resolve_right (by omega)
              subst this
              simp only [convert, Sem.run_bind, ok.runUnd hs, ok.runUnd hd, ok.runUnd he, Result.andThen_ok, fin _ _ _ (.new hlc hdd)]
        · cases h
      · cases h
    · cases h
  · exfalso
    rename_i hd
    simp [isBytes, hd] at hnb
  · rename_i t hs hd
    cases h
    obtain rfl := hx.nilPtr_inv
    refine ⟨_, ?_, .flat rfl⟩
    simp only [convert, Sem.run_bind, ok.runUnd hs, ok.runUnd hd, Result.andThen_ok, Conv.unsafePointer, Sem.run_pure]
  · rename_i t b off ver hs hd
    split at h
    · rename_i n cs nn v0 prev esz ty hn hk
      cases hc : (Nat.beq ver v0 && (cs.get off).isSome) with
      | false => simp [hc] at h
      | true =>
        simp only [hc, cond_true] at h
        cases h
        simp only [Bool.and_eq_true] at hc
        obtain rfl := Nat.eq_of_beq_eq_true hc.1
        obtain ⟨y, hy⟩ := Option.isSome_iff_exists.1 hc.2
        obtain ⟨lc, hl, hdd, rfl⟩ := hx.newPtr_inv
        obtain ⟨⟨c, fz, h1, h2, h3, h4, h5⟩, hlt⟩ := blockOf hr hl hk
        obtain ⟨z, hz, _⟩ := h5 off y hdd (hlt _ _ hy) hy
        have hin : off - lc.d < c.size := by
          have := Array.getElem?_eq_some_iff.1 hz
          exact this.1
        refine ⟨_, ?_, .fr (.ptr hl hdd)⟩
        have hs1 : (Conv.seenAt ⟨lc.r, off - lc.d, none⟩).run P w = .ok ⟨lc.r, off - lc.d, none⟩ w := run_seenAt h1
        have hc1 : (cellsIn lc.r).run P w = .ok (some c.size) w := by simp [cellsIn, World.shape?, h1]
        simp only [convert, Sem.run_bind, ok.runUnd hs, ok.runUnd hd, Result.andThen_ok, Conv.unsafePointer, hs1, hc1, ok.runSize hn]
        have : ¬ (c.size ≤ off - lc.d) := by omega
        simp [this]
    · cases h
  · rename_i t hs hd
    cases h
    obtain rfl := hx.nilPtr_inv
    refine ⟨_, ?_, .flat rfl⟩
    simp only [convert, Sem.run_bind, ok.runUnd hs, ok.runUnd hd, Result.andThen_ok, Conv.unsafePointer, Sem.run_pure]
  · rename_i u b ver hs hd
    split at h
    · rename_i n cs m v0 prev esz ty hn hk
      cases hc : (Nat.beq ver v0 && Nat.beq ty u && Nat.ble 1 n && Nat.ble n m) with
      | false => simp [hc] at h
      | true =>
        simp only [hc, cond_true] at h
        cases h
        simp only [Bool.and_eq_true] at hc
        obtain ⟨⟨⟨c1, c2⟩, c3⟩, c4⟩ := hc
        obtain rfl := Nat.eq_of_beq_eq_true c1
        obtain rfl := Nat.eq_of_beq_eq_true c2
        have c3 := Nat.le_of_ble_eq_true c3
        have c4 := Nat.le_of_ble_eq_true c4
        obtain ⟨lc, hl, hdd, rfl⟩ := hx.newPtr_inv
        obtain ⟨⟨c, fz, h1, h2, h3, h4, h5⟩, hlt⟩ := blockOf hr hl hk
        refine ⟨_, ?_, .fr (.ptr hl hdd)⟩
        have hd0 : lc.d = 0 := by omega
        have hs1 : (Conv.seenAt ⟨lc.r, 0 - lc.d, none⟩).run P w = .ok ⟨lc.r, 0 - lc.d, none⟩ w := run_seenAt h1
        have hce := ok.cellsOf hn
        have hv1 : (variablesAt ⟨lc.r, 0 - lc.d, none⟩ ty 1).run P w = .ok true w := by
          have : c.size / n ≥ 1 := by
            rw [ge_iff_le, Nat.le_div_iff_mul_le (by omega)]
            omega
          have hlies := lies_self (P := P) (t := ty) (count := c.size / n) (off := 0 - lc.d) (n := 1) (by omega) (by simp) (by rw [hce]; simpa using this)
          simp only [variablesAt, Sem.run_bind, run_program, run_shape, Result.andThen_ok, World.shape?, h1, Sem.run_pure, hce, hlies]
        simp only [convert, Sem.run_bind, ok.runUnd hs, ok.runUnd hd, Result.andThen_ok, Conv.unsafePointer, hs1, ok.runSize hn, hv1]
        simp
    · cases h
  · cases h
theorem sim_len (hS : ρ.sym = T.sym) {t : Nat} {x x' v : Value} {ts : Array TypeId} {l : List TypeId} (hts : ts.toList = t :: l) (h : lenV T H t x = some v) (hx : V ρ x x') (ty : TypeId) : ∃ v', (Builtin.len_ ts ty #[x']).run P w = .ok v' w ∧ V ρ v v' := by
  have h0 : ts[0]? = some t := by
    have := congrArg (·[0]?) hts
    simpa using this
  unfold lenV at h
  split at h
  · rename_i s hu
    cases h
    obtain rfl := hx.string_inv
    exact ⟨_, by simp [Builtin.len_, h0, ok.runUnd hu, goInt], .flat rfl⟩
  · rename_i i hu
    obtain ⟨s, h1, h2⟩ := ok.slen _ _ h
    obtain ⟨h3, _⟩ := hx.sym_inv hS
    rw [h1] at h3; cases h3
    exact ⟨_, by simp [Builtin.len_, h0, ok.runUnd hu, goInt], h2.toV hS⟩
  · rename_i e a n c hu
    cases h
    have := hx.slice_inv
    cases this <;> exact ⟨_, by simp [Builtin.len_, h0, ok.runUnd hu, goInt], .flat rfl⟩
  · rename_i n e hu
    cases h
    exact ⟨_, by simp [Builtin.len_, h0, ok.runUnd hu, goInt], .flat rfl⟩
  · rename_i k e hu
    cases h
    obtain rfl := hx.nilMap_inv
    exact ⟨_, by simp [Builtin.len_, h0, ok.runUnd hu, goInt], .flat rfl⟩
  · rename_i k e m hu
    obtain ⟨lc, hl, rfl⟩ := hx.newMap_inv
    split at h
    · rename_i es hm
      cases h
      obtain ⟨en, clock, h1, h2⟩ := hr.blkOf hl hm lc hl
      have := h2.length
      simp at this
      exact ⟨_, by simp [Builtin.len_, h0, ok.runUnd hu, goInt, getObj, Sem.run, h1, this], .flat rfl⟩
    · cases h
  · cases h
omit hr ok in
theorem sim_mm : ∀ {mx : Bool} {x : Value} {l : List Value} {x' : Value} {l' : List Value} {v : Value}, mm mx x l = some v → V ρ x x' → All2 (V ρ) l l' →
    ∃ v', (l'.foldlM (if mx then Builtin.max2 else Builtin.min2) x').run P w = .ok v' w ∧ V ρ v v'
  | mx, x, [], x', l', v, h, hx, hl => by
    cases hl
    simp [mm] at h
    subst h
    exact ⟨x', rfl, hx⟩
  | mx, x, y :: l, x', l', v, h, hx, hl => by
    cases hl with
    | cons hy ht =>
      unfold mm at h
      split at h
      · rename_i heq; cases heq
      · rename_i k a kk b ll heq
        cases heq
        obtain rfl := hx.int_inv
        obtain rfl := hy.int_inv
        obtain ⟨v', h1, h2⟩ := sim_mm h (.flat rfl) ht
        refine ⟨v', ?_, h2⟩
        rw [← h1]
        cases mx
        · simp [List.foldlM_cons, Builtin.min2]
        · simp [List.foldlM_cons, Builtin.max2]
      · cases h
omit hr ok in
theorem sliceData_nil (ts : Array TypeId) (ty : TypeId) (l c : Nat) : Builtin.unsafeSliceData_ ts ty #[.slice none l c] = pure (.pointer none) := rfl
omit hr ok in
theorem sliceData_some (ts : Array TypeId) (ty : TypeId) (a : Addr) (l c : Nat) : Builtin.unsafeSliceData_ ts ty #[.slice (some a) l c] =
    (if c ≠ 0 then pure (.pointer (some a)) else (do if (← viewAt a.block).isSome then pure (.pointer (some a)) else pure (.pointer (some ⟨← newObj (.view a (← elemOf ty)), 0, none⟩)) : Sem Value)) := rfl
omit hr ok in
theorem freeze_at {r : Nat} {c : Array Value} {ty : TypeId} {fz : Nat × Nat} (h : w.heap[r]? = some (.cells c ty fz)) :
    (w.freeze ⟨r, c.size, none⟩ 1).heap[r]? = some (.cells c ty (if fz.1 == fz.2 then (c.size, c.size + 1) else (min fz.1 c.size, max fz.2 (c.size + 1)))) := by
  obtain ⟨lo, hi⟩ := fz
  simp [World.freeze, Array.getElem?_modify, h]
omit hr ok in
theorem freeze_off {r i n m : Nat} (h : i ≠ r) : (w.freeze ⟨r, n, none⟩ m).heap[i]? = w.heap[i]? := by
  unfold World.freeze
  split
  · rfl
  · simp only
    rw [Array.getElem?_modify]
    simp [Ne.symm h]
omit hr ok in
theorem freeze_size {a : Addr} {m : Nat} : (w.freeze a m).heap.size = w.heap.size := by
  unfold World.freeze
  split
  · rfl
  · simp
omit hr ok in
theorem CR.frz {r : Nat} {c : Array Value} {ty ty' n : Nat} {fz : Nat × Nat} {cs : Tr Value} {l : Loc} (h : w.heap[r]? = some (.cells c ty fz)) (hc : CR ρ cs n ty' l w) : CR ρ cs n ty' l (w.freeze ⟨r, c.size, none⟩ 1) := by
  obtain ⟨c1, fz1, h1, h2, ⟨h3, h3'⟩, h4, h5⟩ := hc
  by_cases e : l.r = r
  · subst e
    rw [h] at h1
    cases h1
    refine ⟨c, _, freeze_at h, h2, ⟨?_, fun i hi => ?_⟩, h4, h5⟩
    · split
      · simp
      · simp only; omega
    · have := h3' i hi
      by_cases hq : fz.1 = fz.2
      · simp [hq]; omega
      · have hz : ¬ fz.1 < c.size ∨ fz.2 ≤ fz.1 := by
          by_cases hlt : fz.1 < c.size
          · have := h3' _ hlt; omega
          · exact .inl hlt
        simp [hq]; omega
  · exact ⟨c1, fz1, by rw [freeze_off e]; exact h1, h2, ⟨h3, h3'⟩, h4, h5⟩
omit ok in
theorem HR.frz {r : Nat} {c : Array Value} {ty : Nat} {fz : Nat × Nat} (h : w.heap[r]? = some (.cells c ty fz)) (hw : w0.heap.size ≤ r) : HR w0 ρ H (w.freeze ⟨r, c.size, none⟩ 1) where
  old := fun i hi => by rw [freeze_off (by omega)]; exact hr.old i hi
  big := by rw [freeze_size]; exact hr.big
  io := by
    have : (w.freeze ⟨r, c.size, none⟩ 1).os = w.os ∧ (w.freeze ⟨r, c.size, none⟩ 1).output = w.output := by unfold World.freeze; split <;> exact ⟨rfl, rfl⟩
    exact ⟨this.1.trans hr.io.1, this.2.trans hr.io.2⟩
  dom := fun b v l hl => by rw [freeze_size]; exact hr.dom b v l hl
  inj := hr.inj
  blk := fun b v l hl => by
    obtain ⟨k, hk, hb⟩ := hr.blk b v l hl
    refine ⟨k, hk, ?_⟩
    cases k with
    | cells cs n ver prev esz ty =>
      obtain ⟨b1, b2, b3, b4, b5⟩ := hb
      exact ⟨b1, b2, b3, fun l hl => (b4 l hl).frz h, fun pn hp v l hv hl => ⟨(b5 pn hp v l hv hl).1, (b5 pn hp v l hv hl).2.frz h⟩⟩
    | map es =>
      intro l hl
      obtain ⟨en, clock, e1, e2⟩ := hb l hl
      exact ⟨en, clock, by rw [freeze_off (fun e => by rw [e, h] at e1; cases e1)]; exact e1, e2⟩
    | dead => trivial
theorem sim_conv (hS : ρ.sym = T.sym) {s d : Nat} {x x' v : Value} (h : convV T w0.cell? H s d x = some v) (hx : V ρ x x') : ∃ v' w', (convert s d x').run P w = .ok v' w' ∧ HR w0 ρ H w' ∧ V ρ v v' := by
  cases hnb : isBytes T d with
  | false =>
    obtain ⟨v', h1, h2⟩ := sim_conv0 hr ok hS hnb h hx
    exact ⟨v', w, h1, hr, h2⟩
  | true =>
    unfold convV at h
    split at h
    case h_7 e0 e b off ver n c hs hd =>
      split at h
      · rename_i cs m v0 pv es ty he hk
        cases hg : (Nat.beq s d && Nat.beq ver v0) with
        | false => simp [hg] at h
        | true =>
          simp only [hg, cond_true, Option.some.injEq] at h
          subst h
          simp only [Bool.and_eq_true] at hg
          obtain rfl := Nat.eq_of_beq_eq_true hg.1
          obtain rfl := Nat.eq_of_beq_eq_true hg.2
          rw [hs] at hd
          cases hd
          obtain ⟨lc, o', cap', hlc, hdd, ho, hss, hlen, hcc, rfl⟩ := hx.newSlice_inv
          obtain ⟨⟨c1, fz, h1, h2, h3, h4, h5⟩, hlt⟩ := blockOf hr hlc hk
          refine ⟨_, w.freeze ⟨lc.r, c1.size, none⟩ 1, ?_, hr.frz h1 (hr.dom _ _ _ hlc).2.1, hx⟩
          have hsh : World.shape? w lc.r = some (ty, c1.size) := by simp [World.shape?, h1]
          simp only [convert, Sem.run_bind, ok.runUnd hs, ok.runUnd he, Result.andThen_ok, beq_self_eq_true, Sem.run_pure, markStringish, run_shape, hsh, run_freeze]
      · cases h
    all_goals first | (cases h; done) | (exfalso; simp_all [isBytes]; done)
theorem simL (hS : ρ.sym = T.sym) {e : Operand → Option Value} {g : Operand → Value} (he : OR ρ e g) {o : Oper} {v : Value} (h : opL T w0.cell? H e o.op = some v) :
    ∃ v' w', (execOp g o).run P w = .ok (.value v') w' ∧ HR w0 ρ H w' ∧ V ρ v v' := by
  unfold execOp
  unfold opL at h
  split at h
  · rename_i t a hop
    simp only [hop]
    split at h
    · rename_i u hu
      obtain ⟨v', h1, h2⟩ := sim_load hr ok h (he _ _ hu)
      exact ⟨v', w, by simp [h1], hr, h2⟩
    · cases h
  · rename_i t x lo hi mx hop
    simp only [hop]
    split at h
    · rename_i a l hh m ha hl hhi hm
      obtain ⟨v', h1, h2⟩ := sim_slice hr ok h (he _ _ ha) (optV_rel he hl) (optV_rel he hhi) (optV_rel he hm)
      exact ⟨v', w, by simp [h1], hr, h2⟩
    · cases h
  · rename_i t m k c hop
    simp only [hop]
    split at h
    · rename_i a b ha hb
      obtain ⟨v', h1, h2⟩ := sim_lookup hr ok hS h (he _ _ ha) (he _ _ hb)
      exact ⟨v', w, by simp [h1], hr, h2⟩
    · cases h
  · rename_i s d x hop
    simp only [hop]
    split at h
    · rename_i a ha
      obtain ⟨v', w', h1, h3, h2⟩ := sim_conv hr ok hS h (he _ _ ha)
      exact ⟨v', w', by simp [h1], h3, h2⟩
    · cases h
  · rename_i xa ts hop
    simp only [hop]
    split at h
    · rename_i x t l hxa hts
      split at h
      · rename_i a ha
        obtain ⟨v', h1, h2⟩ := sim_len hr ok hS hts h (he _ _ ha) o.type
        have e1 : xa.map g = #[g x] := by apply Array.ext'; simp [hxa]
        exact ⟨v', w, by simp [resolve, invoke, builtin, e1, h1], hr, h2⟩
      · cases h
    · cases h
  · rename_i xa ts hop
    simp only [hop]
    split at h
    · rename_i hargs
      cases h
      have := args_rel he hargs
      cases hxa : xa.toList.map g with
      | nil => rw [hxa] at this; cases this
      | cons y l =>
        rw [hxa] at this
        cases this with
        | cons hy ht =>
          cases ht
          obtain rfl := hy.nilSlice_inv
          have e1 : xa.map g = #[.slice none 0 0] := by apply Array.ext'; simp [hxa]
          exact ⟨.pointer none, w, by simp [resolve, invoke, builtin, e1, sliceData_nil], hr, .flat rfl⟩
    · rename_i b off ver n cap hargs
      cases h
      have := args_rel he hargs
      cases hxa : xa.toList.map g with
      | nil => rw [hxa] at this; cases this
      | cons y l =>
        rw [hxa] at this
        cases this with
        | cons hy ht =>
          cases ht
          obtain ⟨lc, o', cap', hlc, hdd, ho, hss, hlen, hc, rfl⟩ := hy.newSlice_inv
          have : o' = off - lc.d := ho.resolve_right (by omega)
          subst this
          have e1 : xa.map g = #[.slice (some ⟨lc.r, off - lc.d, none⟩) (n + 1) cap'] := by apply Array.ext'; simp [hxa]
          have hc0 : cap' ≠ 0 := by omega
          exact ⟨_, w, by simp [resolve, invoke, builtin, e1, sliceData_some, hc0], hr, .fr (.ptr hlc hdd)⟩
    · cases h
  · rename_i xa ts hop
    simp only [hop]
    split at h
    · rename_i x l hargs
      have := args_rel he hargs
      cases hxa : xa.toList.map g with
      | nil => rw [hxa] at this; cases this
      | cons y r =>
        rw [hxa] at this
        cases this with
        | cons hy ht =>
          obtain ⟨v', h1, h2⟩ := sim_mm (P := P) (w := w) h hy ht
          refine ⟨v', w, ?_, hr, h2⟩
          have e1 : (xa.map g).toList = y :: r := by simp [hxa]
          simp only [if_true] at h1
          simp [resolve, invoke, builtin, Builtin.max_, hxa, h1]
    · cases h
  · rename_i xa ts hop
    simp only [hop]
    split at h
    · rename_i x l hargs
      have := args_rel he hargs
      cases hxa : xa.toList.map g with
      | nil => rw [hxa] at this; cases this
      | cons y r =>
        rw [hxa] at this
        cases this with
        | cons hy ht =>
          obtain ⟨v', h1, h2⟩ := sim_mm (P := P) (w := w) h hy ht
          refine ⟨v', w, ?_, hr, h2⟩
          have e1 : (xa.map g).toList = y :: r := by simp [hxa]
          simp only [Bool.false_eq_true, if_false] at h1
          simp [resolve, invoke, builtin, Builtin.min_, hxa, h1]
    · cases h
  · cases h
end mem
end Go.Ev
namespace Go.Ev
theorem CR.mono {ρ ρ' : Ren} {cs : Tr Value} {n ty : Nat} {l : Loc} {w w' : World} (h : CR ρ cs n ty l w) (hr : ρ.le ρ') (hw : w'.heap[l.r]? = w.heap[l.r]?) : CR ρ' cs n ty l w' := by
  obtain ⟨c, fz, h1, h2, h3, h4, h5⟩ := h
  exact ⟨c, fz, hw.trans h1, h2, h3, h4, fun i x a b d => let ⟨y, e1, e2⟩ := h5 i x a b d; ⟨y, e1, e2.mono hr⟩⟩
theorem BR.mono {ρ ρ' : Ren} {b : Nat} {k : Blk} {w w' : World} (h : BR ρ b k w) (hr : ρ.le ρ') (hl : ∀ v, ρ'.loc b v = ρ.loc b v) (he : ρ'.esz b = ρ.esz b)
    (hw : ∀ v l, ρ.loc b v = some l → w'.heap[l.r]? = w.heap[l.r]?) : BR ρ' b k w' := by
  cases k with
  | cells cs n ver prev esz ty =>
    obtain ⟨h1, h2, h3, h4, h5⟩ := h
    refine ⟨he.trans h1, h2, fun v hv => (hl v).trans (h3 v hv), fun l hlo => ?_, fun pn hp v l hv hlo => ?_⟩
    · rw [hl] at hlo
      exact (h4 l hlo).mono hr (hw _ _ hlo)
    · rw [hl] at hlo
      obtain ⟨a, c⟩ := h5 pn hp v l hv hlo
      exact ⟨a, c.mono hr (hw _ _ hlo)⟩
  | map es =>
    intro l hlo
    rw [hl] at hlo
    obtain ⟨en, clock, h1, h2⟩ := h l hlo
    exact ⟨en, clock, (hw _ _ hlo).trans h1, h2.mono fun _ _ hh => ⟨hh.1, hh.2.mono hr⟩⟩
  | dead => trivial
def Ren.has (ρ : Ren) (b : Nat) : Prop := ∃ v l, ρ.loc b v = some l
theorem HR.weak {w0 : World} {ρ : Ren} {H H' : Heap} {w : World} (h : HR w0 ρ H w) (hg : ∀ b, ρ.has b → H'.blks.get b = H.blks.get b) (hn : H.next ≤ H'.next) : HR w0 ρ H' w where
  old := h.old
  big := h.big
  io := h.io
  dom := fun b v l hl => let ⟨a, c⟩ := h.dom b v l hl; ⟨by omega, c⟩
  inj := h.inj
  blk := fun b v l hl => by
    rw [hg b ⟨v, l, hl⟩]
    exact h.blk b v l hl
def Ren.ext (ρ : Ren) (id r s esz : Nat) : Ren where
  loc := fun b v => if b = id then (if v = 0 then some ⟨r, 0, s⟩ else none) else ρ.loc b v
  esz := fun b => if b = id then esz else ρ.esz b
  sym := ρ.sym
theorem Ren.ext_le {ρ : Ren} {id r s esz : Nat} (h : ¬ ρ.has id) : ρ.le (ρ.ext id r s esz) := by
  refine ⟨fun b v l hl => ?_, rfl⟩
  have : b ≠ id := fun e => h (e ▸ ⟨v, l, hl⟩)
  simp [Ren.ext, this, hl]
theorem HR.ext {w0 : World} {ρ : Ren} {H : Heap} {w w' : World} {id s esz : Nat} {k : Blk} (h : HR w0 ρ H w) (hid : ¬ ρ.has id) (hlt : id < H.next) (hk : H.blks.get id = some k)
    (hw : ∀ r, r < w.heap.size → w'.heap[r]? = w.heap[r]?) (hsz : w'.heap.size = w.heap.size + 1) (hb : BR (ρ.ext id w.heap.size s esz) id k w') (hio : w'.os = w.os ∧ w'.output = w.output) : HR w0 (ρ.ext id w.heap.size s esz) H w' where
  old := fun r hr => (hw r (by have := h.big; omega)).trans (h.old r hr)
  big := by have := h.big; omega
  io := ⟨hio.1.trans h.io.1, hio.2.trans h.io.2⟩
  dom := fun b v l hl => by
    simp only [Ren.ext] at hl
    split at hl
    · rename_i e
      split at hl
      · cases hl
        subst e
        have := h.big
        exact ⟨hlt, by simp; omega, by simp; omega⟩
      · cases hl
    · obtain ⟨a, c, d⟩ := h.dom b v l hl
      exact ⟨a, c, by omega⟩
  inj := fun b v l b' v' l' hl hl' hrr => by
    simp only [Ren.ext] at hl hl'
    split at hl
    · rename_i e
      split at hl
      · cases hl
        split at hl'
        · rename_i e'; omega
        · have := (h.dom b' v' l' hl').2.2
          simp at hrr; omega
      · cases hl
    · split at hl'
      · split at hl'
        · cases hl'
          have := (h.dom b v l hl).2.2
          simp at hrr; omega
        · cases hl'
      · exact h.inj b v l b' v' l' hl hl' hrr
  blk := fun b v l hl => by
    by_cases e : b = id
    · subst e; exact ⟨k, hk, hb⟩
    · have hl0 : ρ.loc b v = some l := by simpa [Ren.ext, e] using hl
      obtain ⟨k', h1, h2⟩ := h.blk b v l hl0
      refine ⟨k', h1, h2.mono (Ren.ext_le hid) (fun v => by simp [Ren.ext, e]) (by simp [Ren.ext, e]) fun v l hl => hw _ (h.dom _ _ _ hl).2.2⟩
theorem get_fill0 (l : List Value) (j : Nat) : (Tr.fill l 0 .lf).get j = l[j]? := by
  rw [Tr.get_fill]
  by_cases h : j < l.length
  · simp [h]
  · simp [h, Tr.get_lf]
structure NewOk (T : Tab) (P : Program) (ρ : Ren) (H : Heap) (w : World) (v : Value) (k : Blk) (v' : Value) (w' : World) (s esz : Nat) : Prop where
  same : ∀ r, r < w.heap.size → w'.heap[r]? = w.heap[r]?
  size : w'.heap.size = w.heap.size + 1
  io : w'.os = w.os ∧ w'.output = w.output := by exact ⟨rfl, rfl⟩
  val : ∀ id, H.next = id → ¬ ρ.has id → V (ρ.ext id w.heap.size s esz) v v'
  blk : ∀ id, H.next = id → ¬ ρ.has id → BR (ρ.ext id w.heap.size s esz) id k w'
theorem br_cells {ρ : Ren} {id r s esz ty : Nat} {l l' : List Value} {w' : World} {c : Array Value} {fz : Nat × Nat} (hid : ¬ ρ.has id) (hl : All2 (V ρ) l l') (h1 : w'.heap[r]? = some (.cells c ty fz)) (h2 : c.size = s)
    (h3 : fz.1 ≤ fz.2 ∧ ∀ i, i < c.size → ¬ (fz.1 ≤ i ∧ i < fz.2)) (h4 : ∀ (i : Nat) y, l'[i]? = some y → c[i]? = some y) : BR (ρ.ext id r s esz) id (.cells (Tr.fill l 0 .lf) l.length 0 none esz ty) w' := by
  have hlen : l.length ≤ s := by
    rcases Nat.eq_zero_or_pos l.length with h | h
    · omega
    · have e := hl.length
      have : l'[l.length - 1]? = some (l'[l.length - 1]'(by omega)) := by simp
      have := h4 _ _ this
      have := (Array.getElem?_eq_some_iff.1 this).1
      omega
  refine ⟨by simp [Ren.ext], fun i x hx => ?_, fun v hv => ?_, fun lc hlc => ?_, fun pn hp => by cases hp⟩
  · rw [get_fill0] at hx
    exact (List.getElem?_eq_some_iff.1 hx).1
  · simp [Ren.ext]; omega
  · simp [Ren.ext] at hlc
    subst hlc
    refine ⟨c, fz, h1, h2, h3, by simp; exact hlen, fun i x _ hi hx => ?_⟩
    rw [get_fill0] at hx
    obtain ⟨y, hy, hv⟩ := hl.get hx
    exact ⟨y, by simpa using h4 _ _ hy, hv.mono (Ren.ext_le hid)⟩
theorem push_old {w : World} {o : Obj} {r : Nat} (h : r < w.heap.size) : (w.heap.push o)[r]? = w.heap[r]? := by
  rw [Array.getElem?_push]
  have : r ≠ w.heap.size := by omega
  simp [this]
theorem newOk_cells {T : Tab} {P : Program} {ρ : Ren} {H : Heap} {w : World} {l l' : List Value} {v v' : Value} {ty esz : Nat} (hl : All2 (V ρ) l l')
    (hv : ∀ id, H.next = id → ¬ ρ.has id → V (ρ.ext id w.heap.size l'.length esz) v v') :
    NewOk T P ρ H w v (.cells (Tr.fill l 0 .lf) l.length 0 none esz ty) v' { w with heap := w.heap.push (.cells l'.toArray ty) } l'.length esz where
  same := fun r hr => push_old hr
  size := by simp
  val := hv
  blk := fun id _ hid => br_cells hid hl (c := l'.toArray) (fz := (0, 0)) (by simp) (by simp) ⟨Nat.le_refl _, by intro i _; simp⟩ (by intro i y hy; simpa using hy)
theorem ext_ptr {ρ : Ren} {id r s esz : Nat} : V (ρ.ext id r s esz) (.pointer (some ⟨id, 0, some 0⟩)) (.pointer (some ⟨r, 0, none⟩)) :=
  .fr (.ptr (l := ⟨r, 0, s⟩) (by simp [Ren.ext]) (Nat.le_refl _))
theorem ext_slice {ρ : Ren} {id r s esz len cap cap' : Nat} (h1 : cap' * esz ≤ s) (h2 : len ≤ cap') (h3 : cap = unk ∨ cap = cap') : V (ρ.ext id r s esz) (.slice (some ⟨id, 0, some 0⟩) len cap) (.slice (some ⟨r, 0, none⟩) len cap') :=
  .fr (.slice (l := ⟨r, 0, s⟩) (by simp [Ren.ext]) (Nat.le_refl _) (.inl rfl) (by simpa [Ren.ext] using h1) h2 h3)
theorem length_reps (z : List Value) : ∀ n, (reps z n).length = n * z.length
  | 0 => by simp [reps]
  | n + 1 => by simp [reps, length_reps z n, Nat.add_mul]; omega
theorem get_reps (z : List Value) (hz : 0 < z.length) : ∀ (n i : Nat), i < n * z.length → (reps z n)[i]? = z[i % z.length]?
  | 0, i, h => by simp at h
  | n + 1, i, h => by
    simp only [reps]
    by_cases hi : i < z.length
    · rw [List.getElem?_append_left hi, Nat.mod_eq_of_lt hi]
    · rw [List.getElem?_append_right (by omega), get_reps z hz n _ (by rw [Nat.add_mul] at h; omega)]
      congr 1
      rw [Nat.mod_eq_sub_mod (by omega : i ≥ z.length)]
theorem range_reps (z : Array Value) (n : Nat) (hz : 0 < z.size) : ((Array.range (n * z.size)).map (fun i => z[i % z.size]!)).toList = reps z.toList n := by
  apply List.ext_getElem?
  intro i
  by_cases h : i < n * z.size
  · rw [get_reps _ (by simpa using hz) n i (by simpa using h)]
    have : i % z.size < z.size := Nat.mod_lt _ hz
    simp [h, this]
  · have h1 : (reps z.toList n).length ≤ i := by rw [length_reps]; simp; omega
    rw [List.getElem?_eq_none h1]
    simp
    omega
section
variable {T : Tab} {P : Program} (ok : T.Ok P) {ρ : Ren} {H : Heap}
include ok
theorem sim_alloc {t : Nat} {v : Value} {H' : Heap} (h : alloc T H t = some (v, H')) (w : World) : ∃ k v' w' s esz, H' = H.new k ∧ (Instr.alloc t true (.tuple #[])).run P w = .ok v' w' ∧ NewOk T P ρ H w v k v' w' s esz := by
  unfold alloc at h
  split at h
  · cases h
  · rename_i z hz
    cases hc : closedC z with
    | false => simp [hc] at h
    | true =>
      simp only [hc, cond_true] at h
      cases h
      refine ⟨_, .pointer (some ⟨w.heap.size, 0, none⟩), _, _, _, rfl, ?_, newOk_cells (V.closed hc : V ρ z z).cells fun id e _ => by subst e; exact ext_ptr⟩
      simp [Instr.alloc, ok.runZero hz, newVar, newRow]
omit ok in
theorem sim_box {t : Nat} {x x' v : Value} {H' : Heap} (h : box H t x = some (v, H')) (hx : V ρ x x') (w : World) : ∃ k v' w' s esz, H' = H.new k ∧ (Instr.box t x').run P w = .ok v' w' ∧ NewOk T P ρ H w v k v' w' s esz := by
  unfold box at h
  cases h
  refine ⟨_, .pointer (some ⟨w.heap.size, 0, none⟩), _, _, _, rfl, ?_, newOk_cells hx.cells fun id e _ => by subst e; exact ext_ptr⟩
  simp [Instr.box, newVar, newRow]
theorem sim_buildSlice {t len : Nat} {ps ps' : List (Nat × Value)} {v : Value} {H' : Heap} (h : buildSlice T H t len ps = some (v, H')) (hp : All2 (fun (p q : Nat × Value) => p.1 = q.1 ∧ V ρ p.2 q.2) ps ps') (w : World) :
    ∃ k v' w' s esz, H' = H.new k ∧ (Instr.buildSlice t len ps'.toArray).run P w = .ok v' w' ∧ NewOk T P ρ H w v k v' w' s esz := by
  unfold buildSlice at h
  split at h
  · rename_i elem hu
    split at h
    · rename_i n z hn hz
      cases hc : (closedC z && Nat.beq z.cells.size n && Nat.ble 1 n && Nat.ble (len * n) 16777216) with
      | false => simp [hc] at h
      | true =>
        simp only [hc, cond_true] at h
        simp only [Bool.and_eq_true] at hc
        obtain ⟨⟨⟨c1, c2⟩, c3⟩, c4⟩ := hc
        have c2 := Nat.eq_of_beq_eq_true c2
        have c3 := Nat.le_of_ble_eq_true c3
        have c4 := Nat.le_of_ble_eq_true c4
        split at h
        · cases h
        · rename_i l hl
          cases h
          have hreps : All2 (V ρ) (reps z.cells.toList len) (reps z.cells.toList len) := by
            have : ∀ n, All2 (V ρ) (reps z.cells.toList n) (reps z.cells.toList n) := by
              intro n
              induction n with
              | zero => exact .nil
              | succ n ih => exact (V.closed c1 : V ρ z z).cells.append ih
            exact this len
          obtain ⟨l', h1, h2⟩ := fill_lay hl hreps hp
          have hlen : l'.length = len * n := by
            have e1 := h2.length
            have : ∀ {cs : List Value} {ps : List (Nat × Value)} {l : List Value}, lay (fun i => some (i * n, n)) cs ps = some l → l.length = cs.length := by
              intro cs ps
              induction ps generalizing cs with
              | nil => intro l h; simp [lay] at h; rw [h]
              | cons p ps ih =>
                intro l h
                obtain ⟨i, u⟩ := p
                simp only [lay] at h
                cases hb : (Nat.beq u.cells.size n && Nat.ble (i * n + n) cs.length) with
                | false => simp [hb] at h
                | true =>
                  simp only [hb, cond_true] at h
                  simp only [Bool.and_eq_true] at hb
                  have b1 := Nat.eq_of_beq_eq_true hb.1
                  have b2 := Nat.le_of_ble_eq_true hb.2
                  have := ih h
                  simp at this
                  omega
            have := this hl
            rw [length_reps] at this
            simp only [Array.length_toList, c2] at this
            omega
          obtain ⟨i, hi, hzi⟩ := ok.zero hz
          have hn' := ok.runSize hn
          refine ⟨_, .slice (some ⟨w.heap.size, 0, none⟩) len len, _, _, n, rfl, ?_, newOk_cells h2 fun id e _ => by subst e; exact ext_slice (by omega) (Nat.le_refl _) (.inr rfl)⟩
          have hsmall : ¬ (len * n > 2 ^ 24) := by omega
          by_cases h0 : len * n = 0
          · obtain rfl : len = 0 := by rcases Nat.mul_eq_zero.1 h0 with h | h <;> omega
            have h1' : Instr.fill (fun i => some (i * n, n)) #[] ps' = some l'.toArray := h1
            simp [Instr.buildSlice, ok.runUnd hu, hn', show Array.range 0 = #[] from rfl, h1', newRow]
          · have hcells : (Array.range (len * n)).map (fun x => z.cells[x % z.cells.size]!) = (reps z.cells.toList len).toArray := by
              apply Array.ext'
              have := range_reps z.cells len (by omega)
              rw [c2] at this
              rw [c2]
              simpa using this
            simp only [Instr.buildSlice, Sem.run_bind, ok.runUnd hu, Result.andThen_ok, hn', hsmall, if_false, h0, ok.runZero hz, Sem.run_pure, hcells, h1, newRow, run_newObj]
    · cases h
  · cases h
omit ok in
theorem wrap_small {c : Int} (h0 : 0 ≤ c) (h1 : c ≤ 1073741824) : IntKind.i64.wrap c = c := by
  unfold IntKind.wrap
  simp only [IntKind.bits, IntKind.signed, Bool.true_and]
  split <;> rename_i h <;> simp at h <;> omega
theorem sim_makeSlice {t : Nat} {a b a' b' v : Value} {H' : Heap} (h : makeSlice T H t a b = some (v, H')) (ha : V ρ a a') (hb : V ρ b b') (w : World) :
    ∃ k v' w' s esz, H' = H.new k ∧ (Instr.makeSlice t a' b').run P w = .ok v' w' ∧ NewOk T P ρ H w v k v' w' s esz := by
  unfold makeSlice at h
  split at h
  · rename_i elem k1 l k2 c hu
    obtain rfl := ha.int_inv
    obtain rfl := hb.int_inv
    split at h
    · cases h
    · rename_i i hi
      split at h
      · cases h
      · rename_i z hz
        split at h
        · rename_i hc
          obtain ⟨c1, c2, c3, c4, c5, c6, c7⟩ := hc
          cases h
          have hn : T.size elem = some i.size := by simp [Tab.size, hi]
          have hzz : T.zero elem = some z := by simp [Tab.zero, hi, hz]
          have wl : IntKind.i64.wrap l = l := wrap_small c4 (by omega)
          have wc : IntKind.i64.wrap c = c := wrap_small (by omega) c6
          obtain ⟨L, rfl⟩ := Int.eq_ofNat_of_zero_le c4
          obtain ⟨C, rfl⟩ := Int.eq_ofNat_of_zero_le (show 0 ≤ c by omega)
          have hLC : L ≤ C := by omega
          have hbytes : (i.bytes : Int) * (C : Int) ≤ 2 ^ 48 := by
            have h1 : i.bytes * C ≤ 65536 * 1073741824 := Nat.mul_le_mul c7 (by omega)
            have h2 : (i.bytes : Int) * (C : Int) = ((i.bytes * C : Nat) : Int) := by simp
            rw [h2]
            generalize i.bytes * C = q at h1
            omega
          have hz0 : 0 < z.cells.size := by omega
          have hcells : ((Array.range (C * i.size)).map (fun x => z.cells[x % z.cells.size]!)).toList = reps z.cells.toList C := by
            have := range_reps z.cells C hz0
            rw [c2] at this ⊢
            exact this
          have hrefl : All2 (V ρ) (reps z.cells.toList L) (reps z.cells.toList L) := by
            have : ∀ n, All2 (V ρ) (reps z.cells.toList n) (reps z.cells.toList n) := by
              intro n
              induction n with
              | zero => exact .nil
              | succ n ih => exact (V.closed c1 : V ρ z z).cells.append ih
            exact this L
          have hlenC : ((Array.range (C * i.size)).map (fun x => z.cells[x % z.cells.size]!)).size = C * i.size := by simp
          refine ⟨_, .slice (some ⟨w.heap.size, 0, none⟩) L C, { w with heap := w.heap.push (.cells ((Array.range (C * i.size)).map (fun x => z.cells[x % z.cells.size]!)) elem) }, C * i.size, i.size, rfl, ?_, ?_⟩
          · have hn0 : C * i.size = 0 → C = 0 := fun h => by rcases Nat.mul_eq_zero.1 h with h | h <;> omega
            have g1 : ¬ ((C : Int) < 0) := by omega
            have g2 : ¬ ((i.bytes : Int) * (C : Int) > 2 ^ 48) := by omega
            have g3 : ¬ ((L : Int) < 0) := by omega
            have g4 : ¬ ((L : Int) > (C : Int)) := by omega
            simp only [Instr.makeSlice, Sem.run_bind, ok.runUnd hu, Result.andThen_ok, asInt, asIntOf, Sem.run_pure, ok.runInfo hi, wl, wc, ok.runSize hn]
            simp only [g1, g2, g3, g4, decide_false, Bool.or_self, Bool.false_eq_true, if_false, Sem.run_bind, run_askRoom, Result.andThen_ok, Int.toNat_natCast, ok.runSize hn]
            by_cases h0 : C * i.size = 0
            · obtain rfl := hn0 h0
              simp [newRow, show Array.range 0 = #[] from rfl]
            · simp [h0, ok.runZero hzz, newRow]
          · constructor
            · intro r hr; exact push_old hr
            · simp
            · exact ⟨rfl, rfl⟩
            · intro id e hid; subst e
              exact ext_slice (Nat.le_refl _) hLC (.inl rfl)
            · intro id e hid
              refine br_cells hid hrefl (c := (Array.range (C * i.size)).map (fun x => z.cells[x % z.cells.size]!)) (fz := (0, 0)) (by simp) hlenC ⟨Nat.le_refl _, by intro j _; simp⟩ ?_
              intro j y hy
              have hj : j < L * z.cells.size := by
                have := (List.getElem?_eq_some_iff.1 hy).1
                rw [length_reps] at this
                simpa using this
              have h2 : (reps z.cells.toList C)[j]? = some y := by
                have hm : L * z.cells.size ≤ C * z.cells.size := Nat.mul_le_mul_right _ hLC
                rw [get_reps _ (by simpa using hz0) C j (by simp; omega), ← get_reps _ (by simpa using hz0) L j (by simpa using hj)]
                exact hy
              rw [← hcells, Array.getElem?_toList] at h2
              exact h2
        · cases h
  · cases h
theorem sim_toBytes {s d : Nat} {x x' v : Value} {H' : Heap} (h : toBytes T H s d x = some (v, H')) (hx : V ρ x x') (w : World) :
    ∃ k v' w' sz esz, H' = H.new k ∧ (convert s d x').run P w = .ok v' w' ∧ NewOk T P ρ H w v k v' w' sz esz := by
  unfold toBytes at h
  split at h
  · rename_i ds e st hs hd
    split at h
    · rename_i he
      cases h
      obtain rfl := hx.string_inv
      have hq : (Question.appendCap st.size 0 e).forced = false := rfl
      generalize hcap : (Question.appendCap st.size 0 e).cut (w.tape w.drawn (.appendCap st.size 0 e)) = cap
      have hcs : st.size ≤ cap := by
        rw [← hcap]
        simp [Question.cut]
      let els : Array Value := (st.data.map fun b => Value.int .u8 b.toNat) ++ Array.replicate (cap - st.size) (.int .u8 0)
      have hels : els.size = cap := by
        simp only [els, Array.size_append, Array.size_map, Array.size_replicate]
        have : st.data.size = st.size := rfl
        omega
      let w1 : World := { w with drawn := w.drawn + 1 }
      let w2 : World := { w1 with heap := w.heap.push (.cells els e) }
      refine ⟨_, .slice (some ⟨w.heap.size, 0, none⟩) st.size cap, w2.freeze ⟨w.heap.size, els.size, none⟩ 1, cap, 1, rfl, ?_, ?_⟩
      · have hsz : (w1.heap.size) = w.heap.size := rfl
        simp only [convert, Sem.run_bind, ok.runUnd hs, ok.runUnd hd, ok.runUnd he, Result.andThen_ok, Conv.stringToBytes, run_choose, hq, Bool.false_eq_true, if_false, hcap, newRow, run_newObj, Sem.run_pure, markStringish, run_shape]
        have : World.shape? w2 w.heap.size = some (e, els.size) := by simp [World.shape?, w2]
        show ((Sem.run P (match w2.shape? w.heap.size with | some (_, n) => freeze { block := w.heap.size, off := n } 1 | _ => pure ()) w2).andThen fun a w' => Result.ok (Value.slice (some { block := w.heap.size, off := 0 }) st.size cap) w') = _
        rw [this]
        rfl
      · have hfr : (w2.freeze ⟨w.heap.size, els.size, none⟩ 1).heap = w.heap.push (.cells els e (els.size, els.size + 1)) := by
          simp only [World.freeze, w2, w1]
          apply Array.ext
          · simp
          · intro i h1 h2
            simp [Array.getElem_modify, Array.getElem_push]
            split
            · rename_i e1
              simp [e1.symm]
            · rename_i e1
              have : i < w.heap.size := by simp at h2; omega
              simp [this]
        have hsz : st.data.toList.length = st.size := by simp
        constructor
        · intro r hr; rw [hfr]; exact push_old hr
        · rw [hfr]; simp
        · constructor <;> simp [World.freeze, w2, w1]
        · intro id e1 hid; subst e1
          rw [hsz]
          exact ext_slice (by omega) hcs (.inl rfl)
        · intro id e1 hid
          have := br_cells (ρ := ρ) (id := id) (r := w.heap.size) (s := cap) (esz := 1) (ty := e) (l := st.data.toList.map fun c => Value.int .u8 c.toNat) (l' := st.data.toList.map fun c => Value.int .u8 c.toNat)
            (w' := w2.freeze ⟨w.heap.size, els.size, none⟩ 1) (c := els) (fz := (els.size, els.size + 1)) hid
            (All2.refl _ fun x hx => by obtain ⟨_, _, rfl⟩ := List.mem_map.1 hx; exact .flat rfl) (by rw [hfr]; simp) hels ⟨by simp, by intro i hi; simp; omega⟩ ?_
          · exact this
          · intro i y hy
            simp only [els]
            rw [Array.getElem?_append_left]
            · simpa using hy
            · have := (List.getElem?_eq_some_iff.1 hy).1
              simpa using this
    · cases h
  · cases h
end
theorem simA {T : Tab} {P : Program} (ok : T.Ok P) {ρ : Ren} {H H' : Heap} {e : Operand → Option Value} {g : Operand → Value} (he : OR ρ e g) {o : Oper} {v : Value} (h : opA T H e o.op = some (v, H')) (w : World) :
    ∃ k v' w' s esz, H' = H.new k ∧ (execOp g o).run P w = .ok (.value v') w' ∧ NewOk T P ρ H w v k v' w' s esz := by
  unfold execOp
  unfold opA at h
  split at h
  · rename_i t hop
    simp only [hop]
    obtain ⟨k, v', w', s, esz, h1, h2, h3⟩ := sim_alloc ok h w
    exact ⟨k, v', w', s, esz, h1, by simp [h2], h3⟩
  · rename_i t x hop
    simp only [hop]
    split at h
    · rename_i u hu
      obtain ⟨k, v', w', s, esz, h1, h2, h3⟩ := sim_box (T := T) (P := P) h (he _ _ hu) w
      exact ⟨k, v', w', s, esz, h1, by simp [h2], h3⟩
    · cases h
  · rename_i t n ps hop
    simp only [hop]
    split at h
    · rename_i l hl
      obtain ⟨k, v', w', s, esz, h1, h2, h3⟩ := sim_buildSlice ok h (parts_rel he hl) w
      have e1 : (List.map (fun (p : Nat × Operand) => (p.1, g p.2)) ps.toList).toArray = ps.map fun (p : Nat × Operand) => (p.1, g p.2) := by
        apply Array.ext'; simp
      rw [e1] at h2
      refine ⟨k, v', w', s, esz, h1, ?_, h3⟩
      simp only [Sem.run_bind]
      rw [h2]
      rfl
    · cases h
  · rename_i t r hop
    simp only [hop]
    split at h
    · cases h
      refine ⟨_, .map (some w.heap.size), { w with heap := w.heap.push (.map #[] 0) }, 0, 0, rfl, by simp [Instr.makeMap], ?_⟩
      constructor
      · intro r hr; exact push_old hr
      · simp
      · exact ⟨rfl, rfl⟩
      · intro id e1 hid; subst e1; exact .fr (.map (l := ⟨w.heap.size, 0, 0⟩) (by simp [Ren.ext]))
      · intro id e1 hid l hl
        simp [Ren.ext] at hl
        subst hl
        exact ⟨#[], 0, by simp, .nil⟩
    · cases h
  · rename_i t l c hop
    simp only [hop]
    split at h
    · rename_i a b ha hb
      obtain ⟨k, v', w', s, esz, h1, h2, h3⟩ := sim_makeSlice ok h (he _ _ ha) (he _ _ hb) w
      exact ⟨k, v', w', s, esz, h1, by simp [h2], h3⟩
    · cases h
  · rename_i s d x hop
    simp only [hop]
    split at h
    · rename_i a ha
      obtain ⟨k, v', w', s, esz, h1, h2, h3⟩ := sim_toBytes ok h (he _ _ ha) w
      exact ⟨k, v', w', s, esz, h1, by simp [h2], h3⟩
    · cases h
  · cases h
end Go.Ev
namespace Go.Ev
theorem HR.upd {w0 : World} {ρ ρ' : Ren} {H : Heap} {w w' : World} {b : Nat} {k' : Blk} (h : HR w0 ρ H w) (hle : ρ.le ρ') (hother : ∀ b', b' ≠ b → ∀ v, ρ'.loc b' v = ρ.loc b' v) (hesz : ∀ b', b' ≠ b → ρ'.esz b' = ρ.esz b')
    (hnew : ∀ v l, ρ'.loc b v = some l → (∃ v0 l0, ρ.loc b v0 = some l0 ∧ l0.r = l.r) ∨ (l.r = w.heap.size ∧ w.heap.size < w'.heap.size)) (hhas : ρ.has b)
    (hw : ∀ r, r < w.heap.size → (∀ v l, ρ.loc b v = some l → l.r ≠ r) → w'.heap[r]? = w.heap[r]?) (hsz : w.heap.size ≤ w'.heap.size) (hb : BR ρ' b k' w') (hio : w'.os = w.os ∧ w'.output = w.output := by exact ⟨rfl, rfl⟩) :
    HR w0 ρ' ⟨H.blks.put b k', H.next⟩ w' where
  old := fun r hr => by
    rw [hw r (by have := h.big; omega) (fun v l hl e => by have := (h.dom _ _ _ hl).2.1; omega)]
    exact h.old r hr
  big := by have := h.big; omega
  io := ⟨hio.1.trans h.io.1, hio.2.trans h.io.2⟩
  dom := fun b' v l hl => by
    by_cases e : b' = b
    · subst e
      obtain ⟨v1, l1, hl1⟩ := hhas
      have hlt := (h.dom _ _ _ hl1).1
      rcases hnew v l hl with ⟨v0, l0, h0, e0⟩ | ⟨e0, e1⟩
      · obtain ⟨_, c, d⟩ := h.dom _ _ _ h0
        exact ⟨hlt, by omega, by omega⟩
      · have := h.big
        exact ⟨hlt, by omega, by omega⟩
    · rw [hother b' e] at hl
      obtain ⟨a, c, d⟩ := h.dom _ _ _ hl
      exact ⟨a, c, by omega⟩
  inj := fun b1 v1 l1 b2 v2 l2 h1 h2 hr => by
    have key : ∀ {bb v l}, ρ'.loc bb v = some l → bb ≠ b → ρ.loc bb v = some l := fun {bb v l} hh e => by rw [hother bb e] at hh; exact hh
    by_cases e1 : b1 = b
    · by_cases e2 : b2 = b
      · omega
      · exfalso
        subst e1
        have h2' := key h2 e2
        rcases hnew v1 l1 h1 with ⟨v0, l0, h0, e0⟩ | ⟨e0, _⟩
        · exact e2 (h.inj _ _ _ _ _ _ h2' h0 (by omega))
        · have := (h.dom _ _ _ h2').2.2; omega
    · have h1' := key h1 e1
      by_cases e2 : b2 = b
      · exfalso
        subst e2
        rcases hnew v2 l2 h2 with ⟨v0, l0, h0, e0⟩ | ⟨e0, _⟩
        · exact e1 (h.inj _ _ _ _ _ _ h1' h0 (by omega))
        · have := (h.dom _ _ _ h1').2.2; omega
      · exact h.inj _ _ _ _ _ _ h1' (key h2 e2) hr
  blk := fun b' v l hl => by
    by_cases e : b' = b
    · subst e; exact ⟨k', Tr.get_put_self _ _ _, hb⟩
    · rw [hother b' e] at hl
      obtain ⟨k, h1, h2⟩ := h.blk _ _ _ hl
      refine ⟨k, by simpa [Tr.get_put_ne _ _ e] using h1, h2.mono hle (hother b' e) (hesz b' e) fun v2 l2 hl2 => ?_⟩
      refine hw _ (h.dom _ _ _ hl2).2.2 fun v3 l3 hl3 e3 => e ?_
      exact h.inj _ _ _ _ _ _ hl2 hl3 e3.symm
def wrA : Array Value → Nat → List Value → Array Value
  | c, _, [] => c
  | c, k, v :: vs => wrA (c.setIfInBounds k v) (k + 1) vs
theorem size_wrA : ∀ (vs : List Value) (c : Array Value) (k : Nat), (wrA c k vs).size = c.size
  | [], c, k => rfl
  | v :: vs, c, k => by simp [wrA, size_wrA vs]
theorem get_wrA : ∀ (vs : List Value) (c : Array Value) (k j : Nat), (∀ i, i < vs.length → k + i < c.size) → (wrA c k vs)[j]? = if k ≤ j ∧ j < k + vs.length then vs[j - k]? else c[j]?
  | [], c, k, j, _ => by simp [wrA]; intro h h2; omega
  | v :: vs, c, k, j, hb => by
    simp only [wrA]
    rw [get_wrA vs _ _ _ (fun i hi => by have := hb (i + 1) (by simp; omega); simp; omega)]
    have h0 := hb 0 (by simp)
    by_cases h1 : k + 1 ≤ j ∧ j < k + 1 + vs.length
    · have h2 : k ≤ j ∧ j < k + (v :: vs).length := by simp; omega
      rw [if_pos h1, if_pos h2]
      obtain ⟨i, rfl⟩ : ∃ i, j = k + 1 + i := ⟨j - (k + 1), by omega⟩
      rw [show k + 1 + i - (k + 1) = i by omega, show k + 1 + i - k = i + 1 by omega]
      simp
    · rw [if_neg h1]
      by_cases h2 : j = k
      · subst h2
        simp [Array.getElem?_setIfInBounds]
        omega
      · have h3 : ¬ (k ≤ j ∧ j < k + (v :: vs).length) := by simp; omega
        rw [if_neg h3]
        simp [Array.getElem?_setIfInBounds, Ne.symm h2]
theorem set_self {α : Type} {a : Array α} {i : Nat} {x : α} (h : a[i]? = some x) : a.setIfInBounds i x = a := by
  apply Array.ext_getElem?
  intro j
  rw [Array.getElem?_setIfInBounds]
  split
  · rename_i e; subst e
    have := (Array.getElem?_eq_some_iff.1 h).1
    rw [if_pos this, h]
  · rfl
theorem run_storeCells {P : Program} {r off ty : Nat} {fz : Nat × Nat} : ∀ (vs : List Value) (i : Nat) (c : Array Value) (w : World), w.heap[r]? = some (.cells c ty fz) →
    (∀ j, j < c.size → ¬ (fz.1 ≤ j ∧ j < fz.2)) → (∀ j, j < vs.length → off + i + j < c.size) → (∀ v ∈ vs, isCell v = true) →
    (storeCells ⟨r, off, none⟩ vs i).run P w = .ok () { w with heap := w.heap.setIfInBounds r (.cells (wrA c (off + i) vs) ty fz) }
  | [], i, c, w, hw, _, _, _ => by
    simp only [storeCells, Sem.run_pure, wrA]
    rw [set_self hw]
  | v :: vs, i, c, w, hw, hf, hb, hc => by
    have h0 := hb 0 (by simp)
    simp only [Nat.add_zero] at h0
    have ha : (⟨r, off, none⟩ : Addr).add i = ⟨r, off + i, none⟩ := by
      by_cases e : i = 0 <;> simp [Addr.add, e]
    have hone : v.oneCell' = true := by
      have := hc v (by simp)
      cases v <;> first | rfl | (simp [isCell] at this)
    have hcell : w.cell? ⟨r, off + i, none⟩ = some (c[off + i]'h0) := cell_of hw (by simp [h0])
    have hfr : w.frozen? ⟨r, off + i, none⟩ = false := by
      have := hf _ h0
      simp only [World.frozen?, hw]
      simpa using this
    have hset : w.setCell ⟨r, off + i, none⟩ v = { w with heap := w.heap.setIfInBounds r (.cells (c.setIfInBounds (off + i) v) ty fz) } := by
      simp only [World.setCell]
      congr 1
      apply Array.ext_getElem?
      intro j
      rw [Array.getElem?_modify, Array.getElem?_setIfInBounds]
      by_cases e : r = j
      · subst e
        have := (Array.getElem?_eq_some_iff.1 hw).1
        simp [this, hw]
        rw [(Array.getElem?_eq_some_iff.1 hw).2]
      · simp [e]
    simp only [storeCells, Sem.run_bind, ha, run_store P w _ _ _ hone, hcell, hfr, Bool.false_eq_true, if_false, Result.andThen_ok, hset]
    have hr : r < w.heap.size := (Array.getElem?_eq_some_iff.1 hw).1
    rw [run_storeCells (ty := ty) (fz := fz) vs (i + 1) (c.setIfInBounds (off + i) v) _ (by simp [hr]) (by intro j hj; exact hf j (by simpa using hj)) (by intro j hj; have := hb (j + 1) (by simp; omega); simp; omega) (fun u hu => hc u (by simp [hu]))]
    simp [wrA, Nat.add_assoc]
theorem wrN_inv : ∀ {l : List Value} {i : Nat} {t t' : Tr Value}, wrN l i t = some t' →
    (∀ v ∈ l, isCell v = true) ∧ (∀ j, j < l.length → (t.get (i + j)).isSome = true) ∧ ∀ j, t'.get j = if i ≤ j ∧ j < i + l.length then l[j - i]? else t.get j
  | [], i, t, t', h => by simp [wrN] at h; subst h; refine ⟨by simp, by simp, fun j => ?_⟩; simp; intro h1 h2; omega
  | v :: l, i, t, t', h => by
    simp only [wrN] at h
    cases hc : isCell v with
    | false => simp [hc] at h
    | true =>
      simp only [hc, cond_true] at h
      split at h
      · cases h
      · rename_i y hy
        obtain ⟨h1, h2, h3⟩ := wrN_inv h
        refine ⟨by simpa using ⟨hc, h1⟩, fun j hj => ?_, fun j => ?_⟩
        · cases j with
          | zero => simp [hy]
          | succ j =>
            have := h2 j (by simpa using hj)
            rw [Tr.get_put_ne _ _ (by omega)] at this
            rwa [show i + 1 + j = i + (j + 1) by omega] at this
        · rw [h3, Tr.get_put]
          by_cases e1 : i + 1 ≤ j ∧ j < i + 1 + l.length
          · have e2 : i ≤ j ∧ j < i + (v :: l).length := by simp; omega
            rw [if_pos e1, if_pos e2]
            obtain ⟨k, rfl⟩ : ∃ k, j = i + 1 + k := ⟨j - (i + 1), by omega⟩
            rw [show i + 1 + k - (i + 1) = k by omega, show i + 1 + k - i = k + 1 by omega]
            simp
          · rw [if_neg e1]
            by_cases e2 : j = i
            · subst e2; simp
            · have e3 : ¬ (i ≤ j ∧ j < i + (v :: l).length) := by simp; omega
              rw [if_neg e3, if_neg e2]
section
variable {w0 : World} {ρ : Ren} {H : Heap} {w : World} (hr : HR w0 ρ H w) {T : Tab} {P : Program} (ok : T.Ok P)
include hr
theorem sim_write {b ver off esz ty m : Nat} {prev : Option Nat} {lc : Loc} {cs cs' : Tr Value} {l l' : List Value} (hl : ρ.loc b ver = some lc) (hk : H.blks.get b = some (.cells cs m ver prev esz ty)) (hd : lc.d ≤ off)
    (hwr : wrN l off cs = some cs') (hll : All2 (V ρ) l l') :
    ∃ w', (storeCells ⟨lc.r, off - lc.d, none⟩ l').run P w = .ok () w' ∧ HR w0 ρ ⟨H.blks.put b (.cells cs' m ver none esz ty), H.next⟩ w' := by
  obtain ⟨i1, i2, i3⟩ := wrN_inv hwr
  have hbr := hr.blkOf hl hk
  obtain ⟨b1, b2, b3, b4, b5⟩ := hbr
  obtain ⟨c, fz, h1, h2, h3, h4, h5⟩ := b4 lc hl
  have hlen := hll.length
  have hb : ∀ j, j < l'.length → off - lc.d + 0 + j < c.size := by
    intro j hj
    have := i2 j (by omega)
    obtain ⟨x, hx⟩ := Option.isSome_iff_exists.1 this
    obtain ⟨y, hy, _⟩ := h5 (off + j) x (by omega) (b2 _ _ hx) hx
    have := (Array.getElem?_eq_some_iff.1 hy).1
    omega
  have hc : ∀ v ∈ l', isCell v = true := by
    intro v hv
    obtain ⟨j, hj⟩ := List.getElem?_of_mem hv
    have hj1 : j < l'.length := (List.getElem?_eq_some_iff.1 hj).1
    have : l[j]? = some (l[j]'(by omega)) := by simp
    obtain ⟨y, hy, hvy⟩ := hll.get this
    rw [hj] at hy; cases hy
    rw [hvy.isCell]
    exact i1 _ (by simp)
  have hrun := run_storeCells (P := P) (off := off - lc.d) l' 0 c w h1 h3.2 hb hc
  refine ⟨_, hrun, ?_⟩
  have hlt : lc.r < w.heap.size := (hr.dom _ _ _ hl).2.2
  refine hr.upd (Ren.le_refl _) (fun _ _ _ => rfl) (fun _ _ => rfl) (fun v l hh => .inl ⟨v, l, hh, rfl⟩) ⟨ver, lc, hl⟩ ?_ (by simp) ?_
  · intro r hr1 hr2
    simp only
    rw [Array.getElem?_setIfInBounds]
    have := hr2 _ _ hl
    simp [this]
  · refine ⟨b1, fun i x hx => ?_, b3, fun lc2 hl2 => ?_, fun pn hp => by cases hp⟩
    · rw [i3] at hx
      split at hx
      · rename_i e
        have := i2 (i - off) (by omega)
        rw [show off + (i - off) = i by omega] at this
        obtain ⟨y, hy⟩ := Option.isSome_iff_exists.1 this
        exact b2 _ _ hy
      · exact b2 _ _ hx
    · rw [hl] at hl2; cases hl2
      refine ⟨wrA c (off - lc.d + 0) l', fz, by simp [hlt], by rw [size_wrA]; exact h2, by rw [size_wrA]; exact h3, h4, fun i x hi1 hi2 hx => ?_⟩
      rw [i3] at hx
      rw [get_wrA _ _ _ _ hb]
      split at hx
      · rename_i e
        obtain ⟨y, hy, hv⟩ := hll.get hx
        refine ⟨y, ?_, hv⟩
        rw [if_pos (by omega)]
        rw [← hy]
        congr 1
        omega
      · rename_i e
        obtain ⟨y, hy, hv⟩ := h5 i x hi1 hi2 hx
        refine ⟨y, ?_, hv⟩
        rw [if_neg (by omega)]
        exact hy
include ok
theorem sim_store {t : Nat} {a x a' x' : Value} {H' : Heap} (h : store T H t a x = some H') (ha : V ρ a a') (hx : V ρ x x') : ∃ w' b k, (Instr.storeAt t a' x').run P w = .ok () w' ∧ HR w0 ρ H' w' ∧ H' = ⟨H.blks.put b k, H.next⟩ ∧ ρ.has b := by
  unfold store at h
  split at h
  · rename_i b off ver
    split at h
    · rename_i n cs m v prev esz ty hn hk
      cases hc : (Nat.beq ver v && Nat.beq x.cells.size n) with
      | false => simp [hc] at h
      | true =>
        simp only [hc, cond_true] at h
        simp only [Bool.and_eq_true] at hc
        obtain rfl := Nat.eq_of_beq_eq_true hc.1
        have hsz := Nat.eq_of_beq_eq_true hc.2
        split at h
        · cases h
        · rename_i cs' hwr
          cases h
          obtain ⟨lc, hl, hd, rfl⟩ := ha.newPtr_inv
          obtain ⟨w', h1, h2⟩ := sim_write hr (P := P) hl hk hd hwr hx.cells
          refine ⟨w', b, _, ?_, h2, rfl, ver, lc, hl⟩
          have hlen := hx.cells.length
          simp only [Array.length_toList] at hlen
          have : x'.cells.size = n := by omega
          simp [Instr.storeAt, Instr.sureAddr, storeVar, ok.runSize hn, this, h1]
    · cases h
  · cases h
end
end Go.Ev
namespace Go.Ev
def Out (w0 : World) (ρ : Ren) (H : Heap) (v : Value) (H' : Heap) (v' : Value) (w' : World) : Prop :=
  ∃ ρ', ρ.le ρ' ∧ HR w0 ρ' H' w' ∧ V ρ' v v' ∧ (∀ b, b < H.next → ρ'.has b → ρ.has b) ∧ (∀ b, b < H.next → ¬ ρ.has b → H'.blks.get b = H.blks.get b) ∧ H.next ≤ H'.next
theorem Out.same {w0 : World} {ρ : Ren} {H : Heap} {v v' : Value} {w : World} (h : HR w0 ρ H w) (hv : V ρ v v') : Out w0 ρ H v H v' w :=
  ⟨ρ, Ren.le_refl _, h, hv, fun _ _ h => h, fun _ _ _ => rfl, Nat.le_refl _⟩
theorem Out.put {w0 : World} {ρ : Ren} {H : Heap} {v v' : Value} {w' : World} {b : Nat} {k : Blk} (hb : ρ.has b) (h : HR w0 ρ ⟨H.blks.put b k, H.next⟩ w') (hv : V ρ v v') : Out w0 ρ H v ⟨H.blks.put b k, H.next⟩ v' w' :=
  ⟨ρ, Ren.le_refl _, h, hv, fun _ _ h => h, fun b' _ hn => Tr.get_put_ne _ _ fun e => hn (e ▸ hb), Nat.le_refl _⟩
theorem HR.new {w0 : World} {ρ : Ren} {H : Heap} {w w' : World} {v v' : Value} {k : Blk} {T : Tab} {P : Program} {s esz : Nat} (h : HR w0 ρ H w) (hn : NewOk T P ρ H w v k v' w' s esz) : Out w0 ρ H v (H.new k) v' w' := by
  have hid : ¬ ρ.has H.next := fun ⟨a, l, hl⟩ => by have := (h.dom _ _ _ hl).1; omega
  have hw : HR w0 ρ (H.new k) w := h.weak (fun b ⟨a, l, hl⟩ => by
    have := (h.dom _ _ _ hl).1
    exact Tr.get_put_ne _ _ (by omega)) (by simp [Heap.new])
  refine ⟨ρ.ext H.next w.heap.size s esz, Ren.ext_le hid, hw.ext hid (by simp [Heap.new]) (Tr.get_put_self _ _ _) hn.same hn.size (hn.blk _ rfl hid) hn.io, hn.val _ rfl hid, ?_, ?_, by simp [Heap.new]⟩
  · rintro b hb ⟨a, l, hl⟩
    have e : b ≠ H.next := by omega
    simp [Ren.ext, e] at hl
    exact ⟨a, l, hl⟩
  · intro b hb _
    exact Tr.get_put_ne _ _ (by omega)
section
variable {w0 : World} {ρ : Ren} {H : Heap} {w : World} (hr : HR w0 ρ H w) {T : Tab} {P : Program} (ok : T.Ok P)
include hr ok
omit hr ok in
theorem sameKey_eq {k k' : Value} (h : sameKey k k' = some true) : k' = k := by
  unfold sameKey at h
  split at h
  · split at h
    · rename_i e; subst e
      simp at h; rw [h]
    · cases h
  · rename_i a b
    simp at h
    congr 1
    apply ByteArray.ext
    exact h.symm
  · simp at h; rw [h]
  · cases h
omit hr ok in
theorem upd_sim {d : TypeDesc} {k v v' : Value} (hd : isKey d k = true) (hv : V ρ v v') : ∀ {es es' : List (Value × Value)} {en : List MapEntry} (i : Nat), upd k v es = some es' → All2 (ER ρ) es en →
    (∃ j e, Instr.findNow d k en i = some (some (i + j, e.val)) ∧ en[j]? = some e ∧ e.key = k ∧ All2 (ER ρ) es' (en.set j { e with val := v' })) ∨ (Instr.findNow d k en i = some none ∧ es' = es ++ [(k, v)])
  | [], es', en, i, h, hs => by
    cases hs
    simp [upd] at h
    subst h
    exact .inr ⟨rfl, rfl⟩
  | (k0, v0) :: es, es', _, i, h, hs => by
    cases hs with
    | cons hx ht =>
      rename_i e en
      obtain ⟨hk, hv0⟩ := hx
      simp only at hk hv0
      simp only [upd] at h
      split at h
      · rename_i hs
        cases h
        have h1 := sameNow_of hd hs
        rw [← hk] at h1
        refine .inl ⟨0, e, by simp [Instr.findNow, h1], by simp, hk.trans (sameKey_eq hs), ?_⟩
        exact .cons ⟨hk, hv⟩ ht
      · rename_i hs
        have h1 := sameNow_of hd hs
        rw [← hk] at h1
        split at h
        · rename_i r hu
          cases h
          rcases upd_sim hd hv (i + 1) hu ht with ⟨j, e', h2, h3, h4, h5⟩ | ⟨h2, rfl⟩
          · refine .inl ⟨j + 1, e', ?_, by simpa using h3, h4, .cons ⟨hk, hv0⟩ (by simpa using h5)⟩
            simp only [Instr.findNow, h1, h2]
            congr 3
            omega
          · exact .inr ⟨by simp [Instr.findNow, h1, h2], rfl⟩
        · cases h
      · cases h
theorem sim_mapUpdate {t : Nat} {m k v m' k' v' : Value} {H' : Heap} (h : mapUpdate T H t m k v = some H') (hm : V ρ m m') (hk : V ρ k k') (hv : V ρ v v') :
    ∃ w', (Instr.mapUpdate t m' k' v').run P w = .ok () w' ∧ Out w0 ρ H skipped H' skipped w' := by
  unfold mapUpdate at h
  split at h
  · rename_i kt et r hu
    split at h
    · rename_i d es hd hes
      cases hc : isKey d k with
      | false => simp [hc] at h
      | true =>
        simp only [hc, cond_true] at h
        have hke : k' = k := by
          cases d <;> cases k <;> first | (simp [isKey] at hc; done) | exact hk.int_inv | exact hk.string_inv | exact hk.bool_inv
        subst hke
        split at h
        · rename_i es' hu'
          cases h
          obtain ⟨lc, hl, rfl⟩ := hm.newMap_inv
          obtain ⟨en, clock, h1, h2⟩ := hr.blkOf hl hes lc hl
          have hlt : lc.r < w.heap.size := (hr.dom _ _ _ hl).2.2
          have hck : (Instr.checkKey false 10000 kt k').run P w = .ok () w := MapKept.run_checkKey (P := P) (w := w) (ok.und hd) (isKey_IsKey hc) false 9999
          have hg : (getObj lc.r).run P w = .ok (.map en clock) w := by simp [getObj, Sem.run, h1]
          have hs : ∀ o, (setObj lc.r o).run P w = .ok () { w with heap := w.heap.setIfInBounds lc.r o } := by intro o; simp [setObj, Sem.run, h1]
          have hup : ∀ (en2 : Array MapEntry) (clock2 : Nat), All2 (ER ρ) es' en2.toList → Out w0 ρ H skipped ⟨H.blks.put r (.map es'), H.next⟩ skipped { w with heap := w.heap.setIfInBounds lc.r (.map en2 clock2) } := by
            intro en2 clock2 he
            refine Out.put ⟨0, lc, hl⟩ (hr.upd (Ren.le_refl _) (fun _ _ _ => rfl) (fun _ _ => rfl) (fun v l hh => .inl ⟨v, l, hh, rfl⟩) ⟨0, lc, hl⟩ ?_ (by simp) ?_) (.tuple .nil)
            · intro r' hr1 hr2
              simp only
              rw [Array.getElem?_setIfInBounds]
              have := hr2 _ _ hl
              simp [this]
            · intro l2 hl2
              rw [hl] at hl2; cases hl2
              exact ⟨en2, clock2, by simp [hlt], he⟩
          rcases upd_sim hc hv 0 hu' h2 with ⟨j, e, f1, f2, f3, f4⟩ | ⟨f1, rfl⟩
          · have hf := MapKept.run_findKey (P := P) (w := w) (ok.und hd) f1
            refine ⟨_, ?_, hup (en.modify j fun e => { e with key := k', val := v' }) clock ?_⟩
            · have f2' : en[j]? = some e := by simpa using f2
              have hkeep : (Instr.keyThatStays k' k').run P w = .ok k' w := MapKept.run_keyThatStays (P := P) (w := w) (isKey_IsKey hc)
              simp only [Instr.mapUpdate, Sem.run_bind, ok.runUnd hu, Result.andThen_ok, hg, hck, hf, Nat.zero_add, f2', Option.map_some, Option.getD_some, f3, hkeep, hs]
            · have : (en.modify j fun e => { e with key := k', val := v' }).toList = en.toList.set j { e with val := v' } := by
                have f2' : en[j]? = some e := by simpa using f2
                apply List.ext_getElem?
                intro i
                rw [Array.getElem?_toList, Array.getElem?_modify, List.getElem?_set]
                have hj := (Array.getElem?_eq_some_iff.1 f2').1
                by_cases e1 : j = i
                · subst e1
                  simp [f2', hj, ← f3]
                  rw [(Array.getElem?_eq_some_iff.1 f2').2]
                · simp [e1]
              rw [this]
              exact f4
          · have hf := MapKept.run_findKey (P := P) (w := w) (ok.und hd) f1
            refine ⟨_, ?_, hup (en.push { key := k', val := v', born := clock }) (clock + 1) ?_⟩
            · simp only [Instr.mapUpdate, Sem.run_bind, ok.runUnd hu, Result.andThen_ok, hg, hck, hf, hs]
            · rw [Array.toList_push]
              exact h2.append (.cons ⟨rfl, hv⟩ .nil)
        · cases h
    · cases h
  · cases h
omit hr ok in
theorem growBy_le (need : Nat) : ∀ (r c : Nat), c ≤ 2 * need + 512 → Builtin.growBy need r c ≤ 2 * need + 512
  | 0, c, h => h
  | r + 1, c, h => by
    simp only [Builtin.growBy]
    split
    · exact h
    · exact growBy_le need r _ (by omega)
omit hr ok in
theorem nextcap_le {need cap : Nat} (h : cap < need) : Builtin.nextslicecap need cap ≤ 2 * need + 512 := by
  unfold Builtin.nextslicecap
  split
  · omega
  · split
    · omega
    · exact growBy_le need 4 cap (by omega)
omit ok in
theorem sim_src {z : Nat} {x x' : Value} {n : Nat} {l : List Value} (h : src w0.cell? H z x = some (n, l)) (hx : V ρ x x') (hz : l.length = n * z) :
    (Builtin.lenOf x').run P w = .ok n w ∧ ∃ l', All2 (V ρ) l l' ∧ ∀ dr m, m ≤ n → (Builtin.firstCells z m x').run P { w with drawn := dr } = .ok (l'.take (m * z)).toArray { w with drawn := dr } := by
  unfold src at h
  split at h
  · cases h
    obtain rfl := hx.nilSlice_inv
    refine ⟨rfl, [], .nil, fun dr m hm => ?_⟩
    simp [Builtin.firstCells]
  · rename_i b off spot k cap
    split at h
    · rename_i l1 hl
      cases h
      have fin : ∀ b' off' c', AR ρ b off spot b' off' → ∃ l', All2 (V ρ) l l' ∧
          ∀ dr m, m ≤ n → (Builtin.firstCells z m (.slice (some ⟨b', off', none⟩) n c')).run P { w with drawn := dr } = .ok (l'.take (m * z)).toArray { w with drawn := dr } := by
        intro b' off' c' ha
        obtain ⟨l', h1, h2, h3, h4⟩ := rdN_run hr (P := P) hl ha
        refine ⟨l', h1, fun dr m hm => ?_⟩
        have hle : m * z ≤ n * z := Nat.mul_le_mul_right _ hm
        have e : (l'.take (m * z)).length = m * z := by simp; omega
        show (loadCells ⟨b', off', none⟩ (m * z)).run P { w with drawn := dr } = _
        conv => lhs; rw [← e]
        refine run_loadCells_list _ _ _ fun j v hj => ?_
        rw [List.getElem?_take] at hj
        split at hj
        · have := h4 j v hj
          by_cases h0 : j = 0
          · subst h0; simpa [Addr.add, World.cell?] using this
          · simpa [Addr.add, h0, World.cell?] using this
        · cases hj
      cases spot with
      | none =>
        obtain rfl := hx.oldSlice_inv
        obtain ⟨l', h1, h3⟩ := fin _ _ cap .old
        exact ⟨rfl, l', h1, h3⟩
      | some ver =>
        obtain ⟨lc, o', cap', hlc, hdd, ho, hss, hlen, hc, rfl⟩ := hx.newSlice_inv
        refine ⟨rfl, ?_⟩
        by_cases h0 : n = 0
        · subst h0
          have : l = [] := by
            simp at hz; exact hz
          subst this
          refine ⟨[], .nil, fun dr m hm => ?_⟩
          obtain rfl : m = 0 := by omega
          simp [Builtin.firstCells, loadCells, loadCellsFrom]
        · have : o' = off - lc.d := ho.resolve_right (by omega)
          subst this
          exact fin _ _ cap' (.new hlc hdd)
    · cases h
  · rename_i s
    cases h
    obtain rfl := hx.string_inv
    refine ⟨rfl, s.data.toList.map fun c => .int .u8 c.toNat, All2.refl _ (fun x hx => by obtain ⟨_, _, rfl⟩ := List.mem_map.1 hx; exact .flat rfl), fun dr m hm => ?_⟩
    simp only [Builtin.firstCells, Sem.run_pure]
    congr 1
    apply Array.ext'
    have hz1 : s.data.toList.length = 0 ∨ z = 1 := by
      simp only [List.length_map] at hz
      rcases Nat.eq_zero_or_pos s.data.toList.length with h | h
      · exact .inl h
      · right
        exact Nat.eq_of_mul_eq_mul_left h (by omega)
    rcases hz1 with h | rfl
    · have : s.data.toList = [] := List.length_eq_zero_iff.1 h
      simp [ByteArray.data_extract, this]
    · simp [ByteArray.data_extract, Array.toList_extract, List.extract, List.map_take]
  · cases h
omit hr ok in
theorem nonempty_take {α : Type} {l : List α} : l.take l.length = l := by simp
omit hr in
theorem grow_run {elem : Nat} {i : TypeInfo} {z : Value} (hi : T.info elem = some i) (hz : i.zero = some z) (hzs : z.cells.size = i.size) (hb : i.bytes ≤ 65536) {t u : Nat} {d : TypeDesc} (hu : T.und t = some (.slice elem)) (hd : T.und u = some d)
    (hnd : ∀ k, d ≠ .int k) {base : Option Addr} {len cap n : Nat} {x' : Value} {old new : List Value} (hfit : ¬ len + n ≤ cap) (hsmall : len + n ≤ 1073741824)
    (hlen : (Builtin.lenOf x').run P w = .ok n w)
    (hold : ∀ dr, (Builtin.firstCells i.size len (.slice base len cap)).run P { w with drawn := dr } = .ok old.toArray { w with drawn := dr }) (hnew : ∀ dr, (Builtin.firstCells i.size n x').run P { w with drawn := dr } = .ok new.toArray { w with drawn := dr })
    (hol : old.length = len * i.size) (hnl : new.length = n * i.size) (ts : Array TypeId) (hts : ts.toList = [t, u]) (ty : TypeId) :
    ∃ (cap' dr : Nat) (rest : Array Value), len + n ≤ cap' ∧ (old.toArray ++ new.toArray ++ rest).size = cap' * i.size ∧
      (Builtin.append_ ts ty #[.slice base len cap, x']).run P w = .ok (.slice (some ⟨w.heap.size, 0, none⟩) (len + n) cap') { w with drawn := dr, heap := w.heap.push (.cells (old.toArray ++ new.toArray ++ rest) elem) } := by
  have h0 : ts[0]? = some t := by have := congrArg (·[0]?) hts; simpa using this
  have h1 : ts[1]? = some u := by have := congrArg (·[1]?) hts; simpa using this
  have hn : T.size elem = some i.size := by simp [Tab.size, hi]
  have hzz : T.zero elem = some z := by simp [Tab.zero, hi, hz]
  have hq : (Question.appendCap (len + n) cap elem).forced = false := rfl
  generalize hcap : (Question.appendCap (len + n) cap elem).cut (w.tape w.drawn (.appendCap (len + n) cap elem)) = cap'
  have hcs : len + n ≤ cap' := by rw [← hcap]; simp [Question.cut]
  have hnz : (d matches .int _) = false := by
    cases d <;> first | rfl | exact absurd rfl (hnd _)
  have g1 : ¬ (((len + n : Nat) : Int) > IntKind.i64.max ∧ (False ∨ i.bytes = 0)) := by
    intro h
    have := h.1
    simp [IntKind.max, IntKind.signed, IntKind.bits] at this
    omega
  have g2 : ¬ (Builtin.nextslicecap (len + n) cap * i.bytes > 2 ^ 48) := by
    have a := nextcap_le (need := len + n) (cap := cap) (by omega)
    have b : Builtin.nextslicecap (len + n) cap * i.bytes ≤ (2 * 1073741824 + 512) * 65536 := Nat.mul_le_mul (by omega) hb
    generalize Builtin.nextslicecap (len + n) cap * i.bytes = q at b
    omega
  refine ⟨cap', w.drawn + 1, Builtin.zeroCells z.cells (cap' - (len + n)), hcs, ?_, ?_⟩
  · simp only [Array.size_append, List.size_toArray, Builtin.zeroCells, Array.size_map, Array.size_range, hzs, hol, hnl]
    rw [← Nat.add_mul, ← Nat.add_mul]
    congr 1
    omega
  · have hz0 : ∀ dr, (zeroValue elem).run P { w with drawn := dr } = .ok z { w with drawn := dr } := fun dr => ok.runZero hzz _
    simp only [Builtin.append_, h0, h1, Sem.run_bind, ok.runUnd hu, Result.andThen_ok, ok.runSize hn, ok.runUnd hd]
    have e0 : #[Value.slice base len cap, x'][0]? = some (Value.slice base len cap) := rfl
    have e1 : #[Value.slice base len cap, x'][1]? = some x' := rfl
    simp only [e0, e1, Sem.run_bind, ok.runUnd hu, Result.andThen_ok, ok.runSize hn, ok.runUnd hd, hnz, Sem.run_pure, Bool.false_eq_true, if_false, hlen, hfit, ok.runInfo hi, g1, g2, run_choose, hq, hcap, run_askRoom, hold, Bool.not_false, if_true, hnew, hz0, newRow, run_newObj]
omit hr ok in
theorem blt_false {a b : Nat} (h : Nat.blt a b = false) : b ≤ a := by
  rcases Nat.lt_or_ge a b with hh | hh
  · rw [Nat.blt_eq.mpr hh] at h; cases h
  · exact hh
omit hr ok in
theorem all_isCell {l : List Value} {l' : List Value} (h : l.all isCell = true) (hl : All2 (V ρ) l l') : ∀ v ∈ l', isCell v = true := by
  intro v hv
  obtain ⟨j, hj⟩ := List.getElem?_of_mem hv
  have hj1 : j < l'.length := (List.getElem?_eq_some_iff.1 hj).1
  have e := hl.length
  have : l[j]? = some (l[j]'(by omega)) := by simp
  obtain ⟨y, hy, hvy⟩ := hl.get this
  rw [hj] at hy; cases hy
  rw [hvy.isCell]
  exact List.all_eq_true.1 h _ (by simp)
omit ok in
theorem HR.drew (dr : Nat) : HR w0 ρ H { w with drawn := dr } where
  old := hr.old
  big := hr.big
  io := hr.io
  dom := hr.dom
  inj := hr.inj
  blk := fun b v l hl => by
    obtain ⟨k, h1, h2⟩ := hr.blk b v l hl
    exact ⟨k, h1, h2.mono (Ren.le_refl _) (fun _ => rfl) rfl fun _ _ _ => rfl⟩
omit hr ok in
theorem newOk_grown {l l' : List Value} {rest : Array Value} {cap' esz dr elem len : Nat} (hl : All2 (V ρ) l l') (hs : (l'.toArray ++ rest).size = cap' * esz) (hlen : len ≤ cap') :
    NewOk T P ρ H w (.slice (some ⟨H.next, 0, some 0⟩) len unk) (.cells (Tr.fill l 0 .lf) l.length 0 none esz elem) (.slice (some ⟨w.heap.size, 0, none⟩) len cap')
      { w with drawn := dr, heap := w.heap.push (.cells (l'.toArray ++ rest) elem) } (cap' * esz) esz where
  same := fun r hr => push_old hr
  size := by simp
  val := fun id e _ => by subst e; exact ext_slice (Nat.le_refl _) hlen (.inl rfl)
  blk := fun id e hid => by
    refine br_cells hid hl (c := l'.toArray ++ rest) (fz := (0, 0)) (by simp) hs ⟨Nat.le_refl _, by intro i _; simp⟩ ?_
    intro i y hy
    have hi := (List.getElem?_eq_some_iff.1 hy).1
    rw [Array.getElem?_append_left (by simpa using hi)]
    simpa using hy
omit hr ok in
def _root_.Go.Ev.Ren.set (ρ : Ren) (b v : Nat) (l : Loc) : Ren where
  loc := fun b' v' => if b' = b ∧ v' = v then some l else ρ.loc b' v'
  esz := ρ.esz
  sym := ρ.sym
omit hr ok in
theorem set_le {b v : Nat} {l : Loc} (h : ρ.loc b v = none) : ρ.le (ρ.set b v l) := by
  refine ⟨fun b' v' l' hl => ?_, rfl⟩
  have : ¬ (b' = b ∧ v' = v) := by rintro ⟨rfl, rfl⟩; rw [h] at hl; cases hl
  simp [Ren.set, this, hl]
theorem sim_append {t u : Nat} {d : TypeDesc} {s x s' x' v : Value} {H' : Heap} (hd : T.und u = some d) (hnd : ∀ k, d ≠ .int k) (h : append T w0.cell? H t s x = some (v, H')) (hs : V ρ s s') (hx : V ρ x x')
    (ts : Array TypeId) (hts : ts.toList = [t, u]) (ty : TypeId) : ∃ v' w', (Builtin.append_ ts ty #[s', x']).run P w = .ok v' w' ∧ Out w0 ρ H v H' v' w' := by
  have h0 : ts[0]? = some t := by have := congrArg (·[0]?) hts; simpa using this
  have h1 : ts[1]? = some u := by have := congrArg (·[1]?) hts; simpa using this
  have hnz : (d matches .int _) = false := by
    cases d <;> first | rfl | exact absurd rfl (hnd _)
  unfold append at h
  split at h
  · rename_i elem hu
    split at h
    · cases h
    · rename_i i hi
      have hn : T.size elem = some i.size := by simp [Tab.size, hi]
      split at h
      · cases h
      · rename_i n new hsrc
        cases hc : (!(new.all isCell) || !(Nat.ble 1 i.size) || Nat.blt 65536 i.bytes || !(zeroOk i) || !(Nat.beq new.length (n * i.size))) with
        | true => simp only [hc, cond_true] at h; cases h
        | false =>
          simp only [hc, cond_false] at h
          simp only [Bool.or_eq_false_iff, Bool.not_eq_false'] at hc
          obtain ⟨⟨⟨⟨c1, c2⟩, c3⟩, c4⟩, c5⟩ := hc
          have c2 := Nat.le_of_ble_eq_true c2
          have c3 : i.bytes ≤ 65536 := blt_false c3
          have c5 := Nat.eq_of_beq_eq_true c5
          obtain ⟨z, hz, hzs⟩ : ∃ z, i.zero = some z ∧ z.cells.size = i.size := by
            unfold zeroOk at c4
            cases hzz : i.zero with
            | none => simp [hzz] at c4
            | some z => simp only [hzz] at c4; exact ⟨z, rfl, Nat.eq_of_beq_eq_true c4⟩
          obtain ⟨hlenx, new', hnew, hfirst⟩ := sim_src hr (P := P) hsrc hx c5
          have hnl : new'.length = n * i.size := by rw [← hnew.length]; exact c5
          have hfull : ∀ dr, (Builtin.firstCells i.size n x').run P { w with drawn := dr } = .ok new'.toArray { w with drawn := dr } := by
            intro dr
            rw [hfirst dr n (Nat.le_refl _), ← hnl, nonempty_take]
          have hfull0 : (Builtin.firstCells i.size n x').run P w = .ok new'.toArray w := hfull w.drawn
          have none_run : ∀ (base : Option Addr) (len cap' : Nat), len ≤ cap' → n = 0 → (Builtin.append_ ts ty #[.slice base len cap', x']).run P w = .ok (.slice base len cap') w := by
            intro base len cap' hle hn0
            subst hn0
            have : new' = [] := List.length_eq_zero_iff.1 (by simpa using hnl)
            subst this
            have e0 : #[Value.slice base len cap', x'][0]? = some (Value.slice base len cap') := rfl
            have e1 : #[Value.slice base len cap', x'][1]? = some x' := rfl
            simp only [Builtin.append_, h0, h1, e0, e1, Sem.run_bind, ok.runUnd hu, Result.andThen_ok, ok.runSize hn, ok.runUnd hd, hnz, Sem.run_pure, Bool.false_eq_true, if_false, hlenx, Nat.add_zero, hle, if_true, Bool.not_false, hfull0]
            cases base <;> simp [storeCells]
          split at h
          ·
            obtain rfl := hs.nilSlice_inv
            cases hn0 : Nat.beq n 0 with
            | true =>
              simp only [hn0, cond_true] at h
              cases h
              exact ⟨_, _, none_run none 0 0 (Nat.le_refl _) (Nat.eq_of_beq_eq_true hn0), Out.same hr (.flat rfl)⟩
            | false =>
              simp only [hn0, cond_false] at h
              have hn1 : n ≠ 0 := Nat.ne_of_beq_eq_false hn0
              cases hle : Nat.ble n 1073741824 with
              | false => simp [hle] at h
              | true =>
                simp only [hle, cond_true] at h
                cases h
                have hle := Nat.le_of_ble_eq_true hle
                obtain ⟨cap', dr, rest, g1, g2, g3⟩ := grow_run ok (w := w) hi hz hzs c3 hu hd hnd (base := none) (len := 0) (cap := 0) (n := n) (x' := x') (old := []) (new := new') (by omega) (by omega) hlenx (fun dr => by simp [Builtin.firstCells]) hfull (by simp) hnl ts hts ty
                simp only [Nat.zero_add] at g1 g3
                refine ⟨_, _, g3, ?_⟩
                have g2' : (new'.toArray ++ rest).size = cap' * i.size := by simpa using g2
                have := hr.new (newOk_grown (T := T) (P := P) (ρ := ρ) (H := H) (w := w) (dr := dr) (elem := elem) (len := n) hnew g2' g1)
                simpa [Heap.newCells] using this
          · rename_i b off spot len cap
            cases hn0 : Nat.beq n 0 with
            | true =>
              simp only [hn0, cond_true] at h
              have hn1 := Nat.eq_of_beq_eq_true hn0
              cases hg : (spot.isSome || Nat.ble len cap) with
              | false => simp [hg] at h
              | true =>
                simp only [hg, cond_true] at h
                cases h
                cases spot with
                | none =>
                  obtain rfl := hs.oldSlice_inv
                  simp only [Option.isSome_none, Bool.false_or] at hg
                  exact ⟨_, _, none_run _ len cap (Nat.le_of_ble_eq_true hg) hn1, Out.same hr hs⟩
                | some ver =>
                  obtain ⟨lc, o', cap', hlc, hdd, ho, hss, hlen, hcc, rfl⟩ := hs.newSlice_inv
                  exact ⟨_, _, none_run _ len cap' hlen hn1, Out.same hr hs⟩
            | false =>
              simp only [hn0, cond_false] at h
              have hn1 : n ≠ 0 := Nat.ne_of_beq_eq_false hn0
              cases hbig : Nat.blt 1073741824 (len + n) with
              | true => simp [hbig] at h
              | false =>
                simp only [hbig, cond_false] at h
                have hbig : len + n ≤ 1073741824 := blt_false hbig
                cases hun : Nat.beq cap unk with
                | true =>
                  obtain rfl := Nat.eq_of_beq_eq_true hun
                  simp only [hun, cond_true] at h
                  split at h
                  · rename_i ver cs m v0 prev esz ty0 hk
                    have grow : ∀ (cs0 : Tr Value) (m0 : Nat) (prev0 : Option Nat), (Nat.beq ver v0 && Nat.beq esz i.size && Nat.beq ty0 elem) = true → off + len * i.size = m0 → m0 ≤ m → (∀ j y, cs0.get j = some y → j < m0 ∧ cs.get j = some y) → (∀ pn, prev0 = some pn → pn = m ∧ m0 = m ∧ cs0 = cs) →
                        ∃ v' w', (Builtin.append_ ts ty #[s', x']).run P w = .ok v' w' ∧ Out w0 ρ H (.slice (some ⟨b, off, some (v0 + 1)⟩) (len + n) unk) ⟨H.blks.put b (.cells (Tr.fill new m0 cs0) (m0 + new.length) (v0 + 1) prev0 esz ty0), H.next⟩ v' w' := by
                      intro cs0 m0 prev0 hcnd k4 hmm hcs hpv
                      simp only [Bool.and_eq_true] at hcnd
                      obtain ⟨⟨k1, k2⟩, k3⟩ := hcnd
                      obtain rfl := Nat.eq_of_beq_eq_true k1
                      obtain rfl := Nat.eq_of_beq_eq_true k2
                      obtain rfl := Nat.eq_of_beq_eq_true k3
                      obtain ⟨lc, o', cap', hlc, hdd, ho, hss, hlen, hcc, rfl⟩ := hs.newSlice_inv
                      obtain ⟨b1, b2, b3, b4, b5⟩ := hr.blkOf hlc hk
                      obtain ⟨c, fz, e1, e2, e3, e4, e5⟩ := b4 lc hlc
                      rw [b1] at hss
                      have hlt : lc.r < w.heap.size := (hr.dom _ _ _ hlc).2.2
                      have hnone : ρ.loc b (ver + 1) = none := b3 _ (by omega)
                      have hlenn := hnew.length
                      have hget : ∀ j, (Tr.fill new m0 cs0).get j = if m0 ≤ j ∧ j < m0 + new.length then new[j - m0]? else cs0.get j := fun j => Tr.get_fill new m0 cs0 j
                      have hltm : ∀ j y, (Tr.fill new m0 cs0).get j = some y → j < m0 + new.length := by
                        intro j y hy
                        rw [hget] at hy
                        split at hy
                        · rename_i q; exact q.2
                        · have := (hcs _ _ hy).1; omega
                      by_cases hfit : len + n ≤ cap'
                      ·
                        have ho : o' = off - lc.d := ho.resolve_right (by omega)
                        subst ho
                        have hmul : len * i.size + n * i.size ≤ cap' * i.size := by rw [← Nat.add_mul]; exact Nat.mul_le_mul_right _ hfit
                        have hb : ∀ j, j < new'.length → m0 - lc.d + 0 + j < c.size := by intro j hj; omega
                        have hrun := run_storeCells (P := P) (off := m0 - lc.d) new' 0 c w e1 e3.2 hb (all_isCell c1 hnew)
                        have hadd : (⟨lc.r, off - lc.d, none⟩ : Addr).add (len * i.size) = ⟨lc.r, m0 - lc.d, none⟩ := by
                          by_cases q : len * i.size = 0
                          · simp [Addr.add, q]; omega
                          · simp [Addr.add, q]; omega
                        have e0' : ∀ A, #[Value.slice A len cap', x'][0]? = some (Value.slice A len cap') := fun _ => rfl
                        have e1' : ∀ A, #[Value.slice A len cap', x'][1]? = some x' := fun _ => rfl
                        refine ⟨.slice (some ⟨lc.r, off - lc.d, none⟩) (len + n) cap', { w with heap := w.heap.setIfInBounds lc.r (.cells (wrA c (m0 - lc.d + 0) new') ty0 fz) }, ?_, ?_⟩
                        rotate_left
                        · refine ⟨ρ.set b (ver + 1) lc, set_le hnone, hr.upd (w' := { w with heap := w.heap.setIfInBounds lc.r (.cells (wrA c (m0 - lc.d + 0) new') ty0 fz) }) (set_le hnone) (fun b' hb' v => by simp [Ren.set, hb']) (fun _ _ => rfl) ?_ ⟨ver, lc, hlc⟩ ?_ (by simp) ?_, ?_, ?_, ?_, Nat.le_refl _⟩
                          · intro v l hh
                            simp only [Ren.set] at hh
                            split at hh
                            · cases hh; exact .inl ⟨ver, _, hlc, rfl⟩
                            · exact .inl ⟨v, l, hh, rfl⟩
                          · intro r q1 q2
                            simp only
                            rw [Array.getElem?_setIfInBounds]
                            have := q2 _ _ hlc
                            simp [this]
                          · refine ⟨b1, hltm, fun v hv => ?_, fun l2 hl2 => ?_, fun pn hp v l2 hv hl2 => ?_⟩
                            · have q1 : ¬ v = ver + 1 := by omega
                              simp [Ren.set, q1]
                              exact b3 _ (by omega)
                            · simp [Ren.set] at hl2
                              subst hl2
                              refine ⟨wrA c (m0 - lc.d + 0) new', fz, by simp [hlt], by rw [size_wrA]; exact e2, by rw [size_wrA]; exact e3, by omega, fun j y q1 q2 hy => ?_⟩
                              rw [hget] at hy
                              rw [get_wrA _ _ _ _ hb]
                              split at hy
                              · obtain ⟨y', hy', hv⟩ := hnew.get hy
                                refine ⟨y', ?_, hv.mono (set_le hnone)⟩
                                rw [if_pos (by omega), ← hy']
                                exact congrArg (fun q : Nat => new'[q]?) (by omega)
                              · obtain ⟨y', hy', hv⟩ := e5 j y q1 (Nat.lt_of_lt_of_le (hcs _ _ hy).1 hmm) (hcs _ _ hy).2
                                refine ⟨y', ?_, hv.mono (set_le hnone)⟩
                                have := (hcs _ _ hy).1
                                rw [if_neg (by omega)]
                                exact hy'
                            · obtain ⟨rfl, rfl, rfl⟩ := hpv pn hp
                              have : v = ver := by omega
                              subst this
                              simp [Ren.set] at hl2
                              rw [hlc] at hl2; cases hl2
                              refine ⟨by omega, wrA c (m0 - lc.d + 0) new', fz, by simp [hlt], by rw [size_wrA]; exact e2, by rw [size_wrA]; exact e3, e4, fun j y q1 q2 hy => ?_⟩
                              rw [hget, if_neg (by omega)] at hy
                              obtain ⟨y', hy', hv⟩ := e5 j y q1 q2 hy
                              refine ⟨y', ?_, hv.mono (set_le hnone)⟩
                              rw [get_wrA _ _ _ _ hb, if_neg (by omega)]
                              exact hy'
                          · exact .fr (.slice (l := lc) (by simp [Ren.set]) hdd (.inl rfl) (by simp only [Ren.set, b1]; omega) hfit (.inl rfl))
                          · rintro b' hb' ⟨v, l, hh⟩
                            simp only [Ren.set] at hh
                            split at hh
                            · rename_i q; rw [q.1]; exact ⟨ver, lc, hlc⟩
                            · exact ⟨v, l, hh⟩
                          · intro b' hb' hn'
                            exact Tr.get_put_ne _ _ fun q => hn' (q ▸ ⟨ver, lc, hlc⟩)
                        · simp only [Builtin.append_, h0, h1, e0', e1', Sem.run_bind, ok.runUnd hu, Result.andThen_ok, ok.runSize hn, ok.runUnd hd, hnz, Sem.run_pure, Bool.false_eq_true, if_false, hlenx, hfit, if_true, Bool.not_false, hfull0, hadd, hrun]
                      ·
                        have hold : ∃ old' : List Value, old'.length = len * i.size ∧ (∀ j y, old'[j]? = some y → c[off - lc.d + j]? = some y) ∧ (∀ j, j < len * i.size → old'[j]? = c[off - lc.d + j]?) ∧
                            ∀ dr, (Builtin.firstCells i.size len (.slice (some ⟨lc.r, o', none⟩) len cap')).run P { w with drawn := dr } = .ok old'.toArray { w with drawn := dr } := by
                          let old' : List Value := (c.toList.drop (off - lc.d)).take (len * i.size)
                          have hol : old'.length = len * i.size := by
                            simp only [old', List.length_take, List.length_drop, Array.length_toList]
                            omega
                          have hg : ∀ j, j < len * i.size → old'[j]? = c[off - lc.d + j]? := by
                            intro j hj
                            simp only [old', List.getElem?_take, hj, if_true, List.getElem?_drop, Array.getElem?_toList]
                          refine ⟨old', hol, fun j y hy => ?_, hg, fun dr => ?_⟩
                          · have hj := (List.getElem?_eq_some_iff.1 hy).1
                            rw [← hg j (by omega)]
                            exact hy
                          · by_cases hl0 : len = 0
                            · subst hl0
                              have : old' = [] := List.length_eq_zero_iff.1 (by omega)
                              simp [Builtin.firstCells, loadCells, loadCellsFrom, this]
                            · have ho : o' = off - lc.d := ho.resolve_right (by omega)
                              subst ho
                              show (loadCells ⟨lc.r, off - lc.d, none⟩ (len * i.size)).run P { w with drawn := dr } = _
                              rw [← hol]
                              refine run_loadCells_list _ _ _ fun j v hj => ?_
                              have hj1 := (List.getElem?_eq_some_iff.1 hj).1
                              rw [hg j (by omega)] at hj
                              have := cell_of e1 hj
                              by_cases q : j = 0
                              · subst q; simpa [Addr.add, World.cell?] using this
                              · simpa [Addr.add, q, World.cell?] using this
                        obtain ⟨old', o1, o2, o3, o4⟩ := hold
                        obtain ⟨cap2, dr, rest, g1, g2, g3⟩ := grow_run ok (w := w) hi hz hzs c3 hu hd hnd (base := some ⟨lc.r, o', none⟩) (len := len) (cap := cap') (n := n) (x' := x') (old := old') (new := new') hfit hbig hlenx o4 hfull o1 hnl ts hts ty
                        have hmul : len * i.size + n * i.size ≤ cap2 * i.size := by rw [← Nat.add_mul]; exact Nat.mul_le_mul_right _ g1
                        refine ⟨_, _, g3, ?_⟩
                        refine ⟨ρ.set b (ver + 1) ⟨w.heap.size, off, cap2 * i.size⟩, set_le hnone, hr.upd (set_le hnone) (fun b' hb' v => by simp [Ren.set, hb']) (fun _ _ => rfl) ?_ ⟨ver, lc, hlc⟩ ?_ (by simp) ?_, ?_, ?_, ?_, Nat.le_refl _⟩
                        · intro v l hh
                          simp only [Ren.set] at hh
                          split at hh
                          · cases hh; exact .inr ⟨rfl, by simp⟩
                          · exact .inl ⟨v, l, hh, rfl⟩
                        · intro r q1 q2
                          exact push_old q1
                        · refine ⟨b1, hltm, fun v hv => ?_, fun l2 hl2 => ?_, fun pn hp v l2 hv hl2 => ?_⟩
                          · have q1 : ¬ v = ver + 1 := by omega
                            simp [Ren.set, q1]
                            exact b3 _ (by omega)
                          · simp [Ren.set] at hl2
                            subst hl2
                            refine ⟨old'.toArray ++ new'.toArray ++ rest, (0, 0), by simp, g2, ⟨Nat.le_refl _, by intro j _; simp⟩, by simp only; omega, fun j y q1 q2 hy => ?_⟩
                            simp only at q1
                            rw [hget] at hy
                            split at hy
                            · obtain ⟨y', hy', hv⟩ := hnew.get hy
                              have hjm := (List.getElem?_eq_some_iff.1 hy').1
                              refine ⟨y', ?_, hv.mono (set_le hnone)⟩
                              rw [Array.getElem?_append_left (by simp; omega), Array.getElem?_append_right (by simp; omega)]
                              simp only [List.size_toArray, List.getElem?_toArray]
                              rw [← hy']
                              exact congrArg (fun q : Nat => new'[q]?) (by omega)
                            · have hjm := (hcs _ _ hy).1
                              obtain ⟨y', hy', hv⟩ := e5 j y (by omega) (Nat.lt_of_lt_of_le hjm hmm) (hcs _ _ hy).2
                              refine ⟨y', ?_, hv.mono (set_le hnone)⟩
                              rw [Array.getElem?_append_left (by simp; omega), Array.getElem?_append_left (by simp; omega)]
                              simp only [List.getElem?_toArray]
                              rw [o3 _ (by omega), ← hy']
                              exact congrArg (fun q : Nat => c[q]?) (by omega)
                          · obtain ⟨rfl, rfl, rfl⟩ := hpv pn hp
                            have : v = ver := by omega
                            subst this
                            simp [Ren.set] at hl2
                            rw [hlc] at hl2; cases hl2
                            refine ⟨by omega, c, fz, by rw [push_old hlt]; exact e1, e2, e3, e4, fun j y q1 q2 hy => ?_⟩
                            rw [hget, if_neg (by omega)] at hy
                            obtain ⟨y', hy', hv⟩ := e5 j y q1 q2 hy
                            exact ⟨y', hy', hv.mono (set_le hnone)⟩
                        · exact .fr (.slice (l := ⟨w.heap.size, off, cap2 * i.size⟩) (by simp [Ren.set]) (Nat.le_refl _) (.inl (by simp)) (by simp only [Ren.set, b1]; omega) g1 (.inl rfl))
                        · rintro b' hb' ⟨v, l, hh⟩
                          simp only [Ren.set] at hh
                          split at hh
                          · rename_i q; rw [q.1]; exact ⟨ver, lc, hlc⟩
                          · exact ⟨v, l, hh⟩
                        · intro b' hb' hn'
                          exact Tr.get_put_ne _ _ fun q => hn' (q ▸ ⟨ver, lc, hlc⟩)
                    have hb2 : ∀ j y, cs.get j = some y → j < m := fun j y hy => by
                      obtain ⟨lc, o', cap', hlc, _⟩ := hs.newSlice_inv
                      exact (hr.blkOf hlc hk).2.1 _ _ hy
                    cases hcnd : (Nat.beq ver v0 && Nat.beq esz i.size && Nat.beq ty0 elem && Nat.beq (off + len * i.size) m) with
                    | true =>
                      simp only [hcnd, cond_true] at h
                      cases h
                      simp only [Bool.and_eq_true] at hcnd
                      have k4 := Nat.eq_of_beq_eq_true hcnd.2
                      exact grow cs m (some m) (by simp only [Bool.and_eq_true]; exact hcnd.1) k4 (Nat.le_refl _) (fun j y hy => ⟨hb2 j y hy, hy⟩) (fun pn hp => by cases hp; exact ⟨rfl, rfl, rfl⟩)
                    | false =>
                      simp only [hcnd, cond_false] at h
                      cases hcn2 : (Nat.beq ver v0 && Nat.beq esz i.size && Nat.beq ty0 elem && Nat.ble (off + len * i.size) m) with
                      | false => simp [hcn2] at h
                      | true =>
                        simp only [hcn2, cond_true] at h
                        cases h
                        simp only [Bool.and_eq_true] at hcn2
                        refine grow (Tr.cutTo cs (off + len * i.size)) (off + len * i.size) none (by simp only [Bool.and_eq_true]; exact hcn2.1) rfl (Nat.le_of_ble_eq_true hcn2.2) (fun j y hy => ?_) (fun pn hp => by cases hp)
                        rw [Tr.get_cutTo] at hy
                        split at hy
                        · rename_i q; exact ⟨q, hy⟩
                        · cases hy
                  · cases h
                | false =>
                  simp only [hun, cond_false] at h
                  cases hfit : Nat.ble (len + n) cap with
                  | true => simp [hfit] at h
                  | false =>
                    simp only [hfit, cond_false] at h
                    have hfit : ¬ len + n ≤ cap := by
                      intro hh
                      rw [Nat.ble_eq_true_of_le hh] at hfit
                      cases hfit
                    split at h
                    · rename_i old hold
                      cases h
                      have fin : ∀ (a : Addr) (c' : Nat), ¬ len + n ≤ c' → (∃ old', All2 (V ρ) old old' ∧ old'.length = len * i.size ∧ ∀ dr, (Builtin.firstCells i.size len (.slice (some a) len c')).run P { w with drawn := dr } = .ok old'.toArray { w with drawn := dr }) →
                          ∃ v' w', (Builtin.append_ ts ty #[.slice (some a) len c', x']).run P w = .ok v' w' ∧ Out w0 ρ H (.slice (some ⟨H.next, 0, some 0⟩) (len + n) unk) (H.newCells (old ++ new) i.size elem) v' w' := by
                        rintro a c' hfit' ⟨old', o1, o2, o3⟩
                        obtain ⟨cap', dr, rest, g1, g2, g3⟩ := grow_run ok (w := w) hi hz hzs c3 hu hd hnd (base := some a) (len := len) (cap := c') (n := n) (x' := x') (old := old') (new := new') hfit' hbig hlenx o3 hfull o2 hnl ts hts ty
                        refine ⟨_, _, g3, ?_⟩
                        have e : old'.toArray ++ new'.toArray = (old' ++ new').toArray := by simp
                        rw [e] at g2 ⊢
                        exact hr.new (newOk_grown (T := T) (P := P) (ρ := ρ) (H := H) (w := w) (dr := dr) (elem := elem) (len := len + n) (o1.append hnew) g2 g1)
                      cases spot with
                      | none =>
                        obtain rfl := hs.oldSlice_inv
                        refine fin _ cap hfit ?_
                        obtain ⟨l', q1, q2, q3, q4⟩ := rdN_run hr (P := P) hold .old
                        refine ⟨l', q1, q2, fun dr => ?_⟩
                        show (loadCells ⟨b, off, none⟩ (len * i.size)).run P { w with drawn := dr } = _
                        rw [← q2]
                        refine run_loadCells_list _ _ _ fun j v hj => ?_
                        have := q4 j v hj
                        by_cases e0 : j = 0
                        · subst e0; simpa [Addr.add, World.cell?] using this
                        · simpa [Addr.add, e0, World.cell?] using this
                      | some ver =>
                        obtain ⟨lc, o', cap', hlc, hdd, ho, hss, hlen, hcc, rfl⟩ := hs.newSlice_inv
                        have hcc : cap = cap' := hcc.resolve_left (by rintro rfl; simp at hun)
                        subst hcc
                        refine fin _ cap hfit ?_
                        by_cases hl0 : len = 0
                        · subst hl0
                          have : old = [] := by simpa [rdN] using hold.symm
                          subst this
                          exact ⟨[], .nil, by simp, fun dr => by simp [Builtin.firstCells, loadCells, loadCellsFrom]⟩
                        · have : o' = off - lc.d := ho.resolve_right (by omega)
                          subst this
                          obtain ⟨l', q1, q2, q3, q4⟩ := rdN_run hr (P := P) hold (.new hlc hdd)
                          refine ⟨l', q1, q2, fun dr => ?_⟩
                          show (loadCells ⟨lc.r, off - lc.d, none⟩ (len * i.size)).run P { w with drawn := dr } = _
                          rw [← q2]
                          refine run_loadCells_list _ _ _ fun j v hj => ?_
                          have := q4 j v hj
                          by_cases e0 : j = 0
                          · subst e0; simpa [Addr.add, World.cell?] using this
                          · simpa [Addr.add, e0, World.cell?] using this
                    · cases h
          · cases h
  · cases h
end
end Go.Ev
namespace Go.Ev
section
variable {w0 : World} {ρ : Ren} {H : Heap} {w : World} (hr : HR w0 ρ H w) {T : Tab} {P : Program} (ok : T.Ok P)
include hr ok
theorem sim_copy {t : Nat} {a s a' s' v : Value} {H' : Heap} {l0 : List TypeId} (h : copyV T w0.cell? H t a s = some (v, H')) (ha : V ρ a a') (hs : V ρ s s') (ts : Array TypeId) (hts : ts.toList = t :: l0) (ty : TypeId) :
    ∃ v' w', (Builtin.copy_ ts ty #[a', s']).run P w = .ok v' w' ∧ Out w0 ρ H v H' v' w' := by
  have h0 : ts[0]? = some t := by have := congrArg (·[0]?) hts; simpa using this
  have q0 : #[a', s'][0]? = some a' := rfl
  have q1 : #[a', s'][1]? = some s' := rfl
  unfold copyV at h
  split at h
  · rename_i elem hu
    split at h
    · rename_i z hz
      split at h
      · rename_i n l hsrc
        cases hc : Nat.beq l.length (n * z) with
        | false => simp [hc] at h
        | true =>
          simp only [hc, cond_true] at h
          cases h
          obtain ⟨hl, l', hl', hf⟩ := sim_src hr (P := P) hsrc hs (Nat.eq_of_beq_eq_true hc)
          obtain rfl := ha.nilSlice_inv
          have hf0 : (Builtin.firstCells z 0 s').run P w = .ok (l'.take (0 * z)).toArray w := hf w.drawn 0 (Nat.zero_le _)
          refine ⟨.int .i64 0, w, ?_, Out.same hr (.flat rfl)⟩
          simp only [Builtin.copy_, h0, q0, q1, Sem.run_bind, ok.runUnd hu, Result.andThen_ok, hl, ok.runSize hz, show Nat.min n 0 = 0 from Nat.min_zero n, hf0, Sem.run_pure]
          rfl
      · cases h
    · rename_i z b off ver len cap hz
      split at h
      · rename_i n l hsrc
        split at h
        · rename_i cs m v0 prev esz ty0 hk
          cases hc : (Nat.beq ver v0 && Nat.beq l.length (n * z)) with
          | false => simp [hc] at h
          | true =>
            simp only [hc, cond_true] at h
            simp only [Bool.and_eq_true] at hc
            obtain rfl := Nat.eq_of_beq_eq_true hc.1
            split at h
            · rename_i cs' hwr
              cases h
              obtain ⟨hl, l', hl', hf⟩ := sim_src hr (P := P) hsrc hs (Nat.eq_of_beq_eq_true hc.2)
              obtain ⟨lc, o', cap', hlc, hdd, ho, hss, hlen, hcc, rfl⟩ := ha.newSlice_inv
              have hf0 : (Builtin.firstCells z (min n len) s').run P w = .ok (l'.take (min n len * z)).toArray w := hf w.drawn _ (Nat.min_le_left _ _)
              obtain ⟨w', h1, h2⟩ := sim_write hr (P := P) hlc hk hdd hwr (hl'.take _)
              have hst : (storeCells ⟨lc.r, o', none⟩ (l'.take (min n len * z))).run P w = .ok () w' := by
                rcases ho with rfl | ⟨rfl, _⟩
                · exact h1
                · simp only [Nat.min_zero, Nat.zero_mul, List.take_zero] at h1 ⊢
                  exact h1
              refine ⟨.int .i64 (min n len : Nat), w', ?_, Out.put ⟨ver, lc, hlc⟩ h2 (.flat rfl)⟩
              simp only [Builtin.copy_, h0, q0, q1, Sem.run_bind, ok.runUnd hu, Result.andThen_ok, hl, ok.runSize hz, show Nat.min n len = min n len from rfl, hf0, hst, Sem.run_pure]
              rfl
            · cases h
        · cases h
      · cases h
    · cases h
  · cases h
theorem sim_clear {t : Nat} {x x' : Value} {H' : Heap} {l0 : List TypeId} (h : clearV T H t x = some H') (hx : V ρ x x') (ts : Array TypeId) (hts : ts.toList = t :: l0) (ty : TypeId) :
    ∃ w', (Builtin.clear_ ts ty #[x']).run P w = .ok skipped w' ∧ Out w0 ρ H skipped H' skipped w' := by
  have h0 : ts[0]? = some t := by have := congrArg (·[0]?) hts; simpa using this
  have q0 : #[x'][0]? = some x' := rfl
  unfold clearV at h
  split at h
  · rename_i elem hu
    split at h
    · cases h
      obtain rfl := hx.nilSlice_inv
      refine ⟨w, ?_, Out.same hr (.tuple .nil)⟩
      simp only [Builtin.clear_, h0, q0, Sem.run_bind, ok.runUnd hu, Result.andThen_ok, Sem.run_pure]
      rfl
    · rename_i z zv b off ver len cap hz hzv
      split at h
      · rename_i cs m v0 prev esz ty0 hk
        cases hc : (Nat.beq ver v0 && closedC zv && Nat.beq zv.cells.size z && Nat.ble 1 z) with
        | false => simp [hc] at h
        | true =>
          simp only [hc, cond_true] at h
          simp only [Bool.and_eq_true] at hc
          obtain ⟨⟨⟨c1, c2⟩, c3⟩, c4⟩ := hc
          obtain rfl := Nat.eq_of_beq_eq_true c1
          have c3 := Nat.eq_of_beq_eq_true c3
          have c4 := Nat.le_of_ble_eq_true c4
          split at h
          · rename_i cs' hwr
            cases h
            obtain ⟨lc, o', cap', hlc, hdd, ho, hss, hlen, hcc, rfl⟩ := hx.newSlice_inv
            have hrefl : All2 (V ρ) (reps zv.cells.toList len) (reps zv.cells.toList len) := by
              have : ∀ n, All2 (V ρ) (reps zv.cells.toList n) (reps zv.cells.toList n) := by
                intro n
                induction n with
                | zero => exact .nil
                | succ n ih => exact (V.closed c2 : V ρ zv zv).cells.append ih
              exact this len
            obtain ⟨w', h1, h2⟩ := sim_write hr (P := P) hlc hk hdd hwr hrefl
            have hzc : (Builtin.zeroCells zv.cells len).toList = reps zv.cells.toList len := range_reps zv.cells len (by omega)
            by_cases hl0 : len = 0
            · subst hl0
              have hw : w' = w := by
                simp only [reps, storeCells, Sem.run_pure] at h1
                injection h1 with _ h1
                exact h1.symm
              subst hw
              refine ⟨w', ?_, Out.put ⟨ver, lc, hlc⟩ h2 (.tuple .nil)⟩
              simp only [Builtin.clear_, h0, q0, Sem.run_bind, ok.runUnd hu, Result.andThen_ok, Sem.run_pure]
              rfl
            · have ho : o' = off - lc.d := ho.resolve_right (by omega)
              subst ho
              refine ⟨w', ?_, Out.put ⟨ver, lc, hlc⟩ h2 (.tuple .nil)⟩
              obtain ⟨len, rfl⟩ : ∃ k, len = k + 1 := ⟨len - 1, by omega⟩
              simp only [Builtin.clear_, h0, q0, Sem.run_bind, ok.runUnd hu, Result.andThen_ok, Sem.run_pure, ok.runZero hzv, hzc, h1]
              rfl
          · cases h
      · cases h
    · cases h
  · cases h
omit hr ok in
theorem run_loadBytes {r : Nat} : ∀ (ns : List Int) (off : Nat) (acc : ByteArray), (∀ (j : Nat) (v : Value), (ns.map (Value.int .u8))[j]? = some v → w.cell? ⟨r, off + j, none⟩ = some v) →
    (loadBytes ⟨r, off, none⟩ acc ns.length).run P w = .ok (ns.foldl (fun r n => r.push (n.toNat.toUInt8)) acc) w
  | [], off, acc, h => by simp [loadBytes]
  | n :: ns, off, acc, h => by
    have h0 := h 0 (.int .u8 n) (by simp)
    simp only [Nat.add_zero] at h0
    simp only [List.length_cons, loadBytes, Sem.run_bind, run_load, h0, Result.andThen_ok]
    have : (⟨r, off, none⟩ : Addr).add 1 = ⟨r, off + 1, none⟩ := by simp [Addr.add]
    rw [this, run_loadBytes ns (off + 1) _ (fun j v hj => by
      have := h (j + 1) v (by simpa using hj)
      rwa [show off + 1 + j = off + (j + 1) by omega])]
    rfl
theorem sim_textOf {pt : Nat} {p n p' n' v : Value} {H' : Heap} {l0 : List TypeId} (h : textOf T w0.cell? H pt p n = some (v, H')) (hp : V ρ p p') (hn : V ρ n n') (ts : Array TypeId) (hts : ts.toList = pt :: l0) (ty : TypeId) :
    ∃ w', (Builtin.unsafeString_ ts ty #[p', n']).run P w = .ok v w' ∧ Out w0 ρ H v H' v w' := by
  have h0 : ts[0]? = some pt := by have := congrArg (·[0]?) hts; simpa using this
  have shape : ∀ (po : Option Addr) (nv : Value), Builtin.unsafeString_ ts ty #[.pointer po, nv] = (do
      let n ← asInt nv
      let some pt := ts[0]? | stuck "unsafe.String: no argument types"
      if n < 0 then runtimePanic (.error "unsafe.String: len out of range")
      if n > IntKind.i64.max then unsupported (.unsafePointer "String: a length above the largest int")
      match po with
      | none => if n = 0 then pure (.string .empty) else runtimePanic (.error "unsafe.String: ptr is nil and len is not zero")
      | some a =>
        if n = 0 then pure (.string .empty)
        else if ← variablesAt a (← elemOf pt) n.toNat then do
          let s ← loadBytes a .empty n.toNat
          freeze a n.toNat
          pure (.string s)
        else unsupported (.unsafePointer "String: not so many bytes at ptr") : Sem Value) := fun _ _ => rfl
  unfold textOf at h
  split at h
  · rename_i e k hu
    cases h
    obtain rfl := hp.nilPtr_inv
    obtain rfl := hn.int_inv
    refine ⟨w, ?_, Out.same hr (.flat rfl)⟩
    rw [shape]
    simp only [h0, Sem.run_bind, asInt, asIntOf, Sem.run_pure, Result.andThen_ok]
    rfl
  · rename_i e b ver k hu
    obtain rfl := hn.int_inv
    split at h
    · rename_i cs m v0 prev esz ty0 he hes hk
      split at h
      · rename_i hc
        obtain ⟨c1, c2, c3, rfl, rfl⟩ := hc
        split at h
        · rename_i l hl
          split at h
          · rename_i r hb
            cases h
            obtain ⟨lc, hlc, hdd, rfl⟩ := hp.newPtr_inv
            obtain ⟨b1, b2, b3, b4, b5⟩ := hr.blkOf hlc hk
            obtain ⟨c, fz, e1, e2, e3, e4, e5⟩ := b4 lc hlc
            have hd0 : lc.d = 0 := by omega
            obtain ⟨l', q1, q2, q3⟩ := rdN_sim hr hl (.new hlc hdd)
            obtain ⟨ns, rfl, rfl⟩ := bytesOf_inv hb
            have hl'e := ints_same q1
            subst hl'e
            have hlen : ns.length = k.toNat := by simpa using q2
            have hlt : lc.r < w.heap.size := (hr.dom _ _ _ hlc).2.2
            have hloads := run_loadBytes (P := P) (w := w) (r := lc.r) ns (0 - lc.d) .empty q3
            rw [hlen] at hloads
            have hfold : ns.foldl (fun r (n : Int) => r.push (n.toNat.toUInt8)) ByteArray.empty = ⟨⟨ns.map fun n => UInt8.ofNat n.toNat⟩⟩ := by
              have := foldl_push ns ByteArray.empty
              simpa using this
            rw [hfold] at hloads
            have hce := ok.cellsOf hes
            have hva : (variablesAt ⟨lc.r, 0 - lc.d, none⟩ ty0 k.toNat).run P w = .ok true w := by
              have hlies := lies_self (P := P) (t := ty0) (count := c.size / 1) (off := 0 - lc.d) (n := k.toNat) (by omega) (by rw [hce]; exact Nat.mod_one _) (by rw [hce]; simp; omega)
              simp only [variablesAt, Sem.run_bind, run_program, run_shape, Result.andThen_ok, World.shape?, e1, Sem.run_pure, hce, hlies]
            refine ⟨w.freeze ⟨lc.r, 0 - lc.d, none⟩ k.toNat, ?_, Out.put ⟨ver, lc, hlc⟩ ?_ (.flat rfl)⟩
            · have hel : (elemOf pt).run P w = .ok ty0 w := by simp only [elemOf, Sem.run_bind, ok.runUnd hu, Result.andThen_ok, Sem.run_pure]
              have g1 : ¬ k < 0 := by omega
              have g2 : ¬ k > IntKind.i64.max := by
                simp only [IntKind.max, IntKind.signed, IntKind.bits, if_true]
                omega
              have g3 : ¬ k = 0 := by omega
              rw [shape]
              simp only [h0, Sem.run_bind, asInt, asIntOf, Sem.run_pure, Result.andThen_ok, g1, g2, g3, if_false, hel, hva, if_true, hloads, run_freeze]
            · have hsz : (w.freeze ⟨lc.r, 0 - lc.d, none⟩ k.toNat).heap.size = w.heap.size := by
                unfold World.freeze
                split
                · rfl
                · simp
              refine hr.upd (Ren.le_refl _) (fun _ _ _ => rfl) (fun _ _ => rfl) (fun v l hh => .inl ⟨v, l, hh, rfl⟩) ⟨ver, lc, hlc⟩ ?_ (by omega) trivial (by unfold World.freeze; split <;> exact ⟨rfl, rfl⟩)
              intro r' _ hne
              have := hne _ _ hlc
              unfold World.freeze
              split
              · rfl
              · simp only
                rw [Array.getElem?_modify]
                simp [this]
          · cases h
        · cases h
      · cases h
    · cases h
  · cases h
def CallSim (P : Program) (f : FuncId) (args : Array Value) (w : World) (R : Value → World → Prop) : Prop :=
  ((callFunc f args).run P w = .ok (.enter f args) w ∧ Calls P f args w fun e w' => ∃ v', e = .returned v' ∧ R v' w') ∨ (∃ v' w', (callFunc f args).run P w = .ok (.value v') w' ∧ R v' w')
def CallOk (T : Tab) (P : Program) (w0 : World) (call : Ev.Call) : Prop :=
  ∀ f l H v H', call f l H = some (v, H') → ∀ (ρ : Ren) (w : World) (l' : List Value), ρ.sym = T.sym → HR w0 ρ H w → All2 (V ρ) l l' → CallSim P f l'.toArray w fun v' w' => Out w0 ρ H v H' v' w'
theorem simOp (hS : ρ.sym = T.sym) {call : Ev.Call} (hcall : CallOk T P w0 call) {e : Operand → Option Value} {a : Act} (he : OR ρ e a.eval) {o : Oper} {v : Value} {H' : Heap} (h : evalOp T w0.cell? call e o H = some (v, H'))
    {next : Act → World → Prop} {Q : Exit → Act → World → Prop} (hnext : ∀ v' w', Out w0 ρ H v H' v' w' → next (a.put o.dst v') w') : o.wp P a w next Q := by
  unfold Oper.wp
  have value : ∀ {v' w'}, (execOp a.eval o).run P w = .ok (.value v') w' → Out w0 ρ H v H' v' w' → o.upon P a next Q ((execOp a.eval o).run P w) := by
    intro v' w' h1 h2; rw [h1]; exact hnext _ _ h2
  have skip : ∀ {w'}, (execOp a.eval o).run P w = .ok .skip w' → Out w0 ρ H v H' skipped w' → o.upon P a next Q ((execOp a.eval o).run P w) := by
    intro w' h1 h2; rw [h1]; exact hnext _ _ h2
  unfold evalOp at h
  split at h
  · split at h
    · rename_i u hu
      cases h
      obtain ⟨v', h1, h2⟩ := simP ok hS he hu w
      exact value h1 (Out.same hr h2)
    · cases h
  · split at h
    · rename_i u hu
      cases h
      obtain ⟨v', w', h1, hr', h2⟩ := simL hr ok hS he hu
      exact value h1 (Out.same hr' h2)
    · cases h
  · obtain ⟨k, v', w', s, esz, rfl, h1, h2⟩ := simA ok he h w
    exact value h1 (hr.new h2)
  · unfold opW at h
    split at h
    · rename_i t x y hop
      split at h
      · rename_i p u hp hu
        split at h
        · rename_i H2 hst
          cases h
          obtain ⟨w', b, k, h1, h2, rfl, hb⟩ := sim_store hr ok hst (he _ _ hp) (he _ _ hu)
          refine skip (w' := w') ?_ (Out.put hb h2 (.tuple .nil))
          unfold execOp; simp only [hop, Sem.run_bind, h1, Result.andThen_ok, Sem.run_pure]
        · cases h
      · cases h
    · rename_i t m k x hop
      split at h
      · rename_i p q u hp hq hu
        split at h
        · rename_i H2 hst
          cases h
          obtain ⟨w', h1, h2⟩ := sim_mapUpdate hr ok hst (he _ _ hp) (he _ _ hq) (he _ _ hu)
          refine skip (w' := w') ?_ h2
          unfold execOp; simp only [hop, Sem.run_bind, h1, Result.andThen_ok, Sem.run_pure]
        · cases h
      · cases h
    · rename_i t m k x hop
      split at h
      · rename_i p q u hp hq hu
        split at h
        · rename_i H2 hst
          cases h
          obtain ⟨w', h1, h2⟩ := sim_mapUpdate hr ok hst (he _ _ hp) (he _ _ hq) (he _ _ hu)
          refine skip (w' := w') ?_ h2
          unfold execOp; simp only [hop, Sem.run_bind, h1, Result.andThen_ok, Sem.run_pure]
        · cases h
      · cases h
    · rename_i xa ts hop
      split at h
      · rename_i s x t u hxa hts
        split at h
        · cases h
        · rename_i d p q hnd hd hp hq
          obtain ⟨v', w', h1, h2⟩ := sim_append hr ok hd hnd h (he _ _ hp) (he _ _ hq) ts hts o.type
          refine value ?_ h2
          have e1 : xa.map a.eval = #[a.eval s, a.eval x] := by apply Array.ext'; simp [hxa]
          unfold execOp
          simp only [hop, resolve, Sem.run_bind, Sem.run_pure, Result.andThen_ok, invoke, builtin, e1, h1]
        · cases h
      · cases h
    · rename_i xa ts hop
      split at h
      · rename_i s x t l0 hxa hts
        split at h
        · rename_i p q hp hq
          obtain ⟨v', w', h1, h2⟩ := sim_copy hr ok h (he _ _ hp) (he _ _ hq) ts hts o.type
          refine value ?_ h2
          have e1 : xa.map a.eval = #[a.eval s, a.eval x] := by apply Array.ext'; simp [hxa]
          unfold execOp
          simp only [hop, resolve, Sem.run_bind, Sem.run_pure, Result.andThen_ok, invoke, builtin, e1, h1]
        · cases h
      · cases h
    · rename_i xa ts hop
      split at h
      · rename_i x t l0 hargs hts
        split at h
        · rename_i H2 hcl
          cases h
          have har := args_rel he hargs
          cases hxa : xa.toList.map a.eval with
          | nil => rw [hxa] at har; cases har
          | cons y r =>
            rw [hxa] at har
            cases har with
            | cons hy ht =>
              cases ht
              obtain ⟨w', h1, h2⟩ := sim_clear hr ok hcl hy ts hts o.type
              refine value ?_ h2
              have e1 : xa.map a.eval = #[y] := by apply Array.ext'; simp [hxa]
              unfold execOp
              simp only [hop, resolve, Sem.run_bind, Sem.run_pure, Result.andThen_ok, invoke, builtin, e1, h1]
        · cases h
      · cases h
    · rename_i xa ts hop
      split at h
      · rename_i p n t l0 hargs hts
        have har := args_rel he hargs
        cases hxa : xa.toList.map a.eval with
        | nil => rw [hxa] at har; cases har
        | cons y r =>
          rw [hxa] at har
          cases har with
          | cons hy ht =>
            cases ht with
            | cons hy2 ht2 =>
              cases ht2
              rename_i y2
              obtain ⟨w', h1, h2⟩ := sim_textOf hr ok h hy hy2 ts hts o.type
              refine value ?_ h2
              have e1 : xa.map a.eval = #[y, y2] := by apply Array.ext'; simp [hxa]
              unfold execOp
              simp only [hop, resolve, Sem.run_bind, Sem.run_pure, Result.andThen_ok, invoke, builtin, e1, h1]
      · cases h
    · rename_i f xa ts hop
      split at h
      · rename_i g first captured l hf hargs
        obtain ⟨first', captured', e1, hfi, hca⟩ := (he _ _ hf).func_inv
        have har := args_rel he hargs
        have hall := (hfi.append har).append hca
        have hrun : (execOp a.eval o).run P w = (callFunc g (first'.toList ++ xa.toList.map a.eval ++ captured'.toList).toArray).run P w := by
          unfold execOp
          simp only [hop, resolve, e1, Deferred.ofValue, Sem.run_bind, Sem.run_pure, Result.andThen_ok, invoke]
          congr 2
          apply Array.ext'
          simp
        rcases hcall g _ H v H' h ρ w _ hS hr hall with ⟨h1, h2⟩ | ⟨v', w', h1, h2⟩
        · rw [hrun, h1, Oper.upon_enter]
          refine h2.mono ?_
          rintro en w'' ⟨v', rfl, hout⟩
          exact hnext _ _ hout
        · exact value (hrun.trans h1) h2
      · cases h
    · cases h
end
end Go.Ev
