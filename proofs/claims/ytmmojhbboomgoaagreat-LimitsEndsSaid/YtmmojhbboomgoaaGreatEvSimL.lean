/-
  'simL': the operations that look at memory.
-/
import Derived.Test.YtmmojhbboomgoaaGreatEvSimP
import Derived.Laws.Cells
import Derived.Laws.BytesString
import Derived.MapKept
namespace Go.Ev
set_option linter.unusedSimpArgs false
set_option linter.unusedVariables false

/-- an address as the evaluator has it, and as the machine has it -/
inductive AR (ρ : Ren) (b off : Nat) : Option Nat → Nat → Nat → Prop
  | old : AR ρ b off none b off
  | new {ver : Nat} {l : Loc} (h : ρ.loc b ver = some l) (hd : l.d ≤ off) : AR ρ b off (some ver) l.r (off - l.d)

theorem AR.add {ρ : Ren} {b off b' off' : Nat} {spot : Option Nat} (h : AR ρ b off spot b' off') (k : Nat) : AR ρ b (off + k) spot b' (off' + k) := by
  cases h with
  | old => exact .old
  | new h hd =>
    rename_i ver l
    rw [show off - l.d + k = off + k - l.d by omega]
    exact .new h (by omega)

theorem V.ptrA {ρ : Ren} {b off : Nat} {spot : Option Nat} {v' : Value} (h : V ρ (.pointer (some ⟨b, off, spot⟩)) v') : ∃ b' off', v' = .pointer (some ⟨b', off', none⟩) ∧ AR ρ b off spot b' off' := by
  cases spot with
  | none => exact ⟨_, _, h.oldPtr_inv, .old⟩
  | some ver => obtain ⟨l, hl, hd, e⟩ := h.newPtr_inv; exact ⟨_, _, e, .new hl hd⟩

theorem cell_of {w : World} {r i ty : Nat} {c : Array Value} {fz : Nat × Nat} {y : Value} (h : w.heap[r]? = some (.cells c ty fz)) (hy : c[i]? = some y) : w.cell? ⟨r, i, none⟩ = some y := by
  simp [World.cell?, h, hy]

section rd
variable {w0 : World} {ρ : Ren} {H : Heap} {w : World} (hr : HR w0 ρ H w)
include hr

theorem HR.blkOf {b v : Nat} {l : Loc} {k : Blk} (hl : ρ.loc b v = some l) (hk : H.blks.get b = some k) : BR ρ b k w := by
  obtain ⟨k', h1, h2⟩ := hr.blk _ _ _ hl
  rw [hk] at h1; cases h1; exact h2

theorem rd_sim {b off b' off' : Nat} {spot : Option Nat} {v : Value} (h : rd w0.cell? H b off spot = some v) (ha : AR ρ b off spot b' off') :
    ∃ y, w.cell? ⟨b', off', none⟩ = some y ∧ V ρ v y := by
  cases ha with
  | old =>
    simp only [rd, keepFlat] at h
    cases hc : w0.cell? ⟨b, off, none⟩ with
    | none => simp [hc] at h
    | some x =>
      simp only [hc] at h
      cases hf : flat x with
      | false => simp [hf] at h
      | true =>
        simp [hf] at h
        subst h
        refine ⟨x, ?_, .flat hf⟩
        rw [← hc]
        simp only [World.cell?]
        have : b < w0.heap.size := by
          simp only [World.cell?] at hc
          cases hh : w0.heap[b]? with
          | none => simp [hh] at hc
          | some o => exact (Array.getElem?_eq_some_iff.1 hh).1
        rw [hr.old b this]
  | new hl hd =>
    rename_i ver l
    simp only [rd] at h
    cases hk : H.blks.get b with
    | none => simp [hk] at h
    | some k =>
      simp only [hk] at h
      have hb := hr.blkOf hl hk
      cases k with
      | cells cs n v0 prev esz ty =>
        simp only [Blk.at] at h
        obtain ⟨_, hlt, hno, hcur, hprev⟩ := hb
        cases hv : Nat.beq ver v0 with
        | true =>
          simp only [hv, cond_true] at h
          obtain rfl := Nat.eq_of_beq_eq_true hv
          obtain ⟨c, fz, h1, h2, h3, h4, h5⟩ := hcur l hl
          obtain ⟨y, hy, hvy⟩ := h5 off v hd (hlt _ _ h) h
          exact ⟨y, cell_of h1 hy, hvy⟩
        | false =>
          simp only [hv, cond_false] at h
          cases hv1 : Nat.beq (ver + 1) v0 with
          | false => simp [hv1] at h
          | true =>
            simp only [hv1, cond_true] at h
            obtain rfl := Nat.eq_of_beq_eq_true hv1
            cases prev with
            | none => simp at h
            | some pn =>
              simp only at h
              cases hp : Nat.blt off pn with
              | false => simp [hp] at h
              | true =>
                simp only [hp, cond_true] at h
                have hoff : off < pn := by simpa [Nat.blt_eq] using hp
                obtain ⟨hpn, c, fz, h1, h2, h3, h4, h5⟩ := hprev pn rfl ver l rfl hl
                obtain ⟨y, hy, hvy⟩ := h5 off v hd hoff h
                exact ⟨y, cell_of h1 hy, hvy⟩
      | map es => simp [Blk.at] at h
      | dead => simp [Blk.at] at h

theorem rdN_sim {b b' : Nat} {spot : Option Nat} : ∀ {n off off' : Nat} {l : List Value}, rdN w0.cell? H b spot n off = some l → AR ρ b off spot b' off' →
    ∃ l', All2 (V ρ) l l' ∧ l'.length = n ∧ ∀ j v, l'[j]? = some v → w.cell? ⟨b', off' + j, none⟩ = some v
  | 0, off, off', l, h, ha => by
    simp [rdN] at h
    subst h
    exact ⟨[], .nil, rfl, fun j v h => by simp at h⟩
  | n + 1, off, off', l, h, ha => by
    simp only [rdN] at h
    split at h
    · cases h
    · rename_i v hv
      split at h
      · cases h
      · rename_i r hr'
        cases h
        obtain ⟨y, hy, hvy⟩ := rd_sim hr hv ha
        obtain ⟨l', h1, h2, h3⟩ := rdN_sim hr' (ha.add 1)
        refine ⟨y :: l', .cons hvy h1, by simp [h2], fun j v hj => ?_⟩
        cases j with
        | zero => simp at hj; subst hj; exact hy
        | succ j =>
          simp at hj
          have := h3 j v hj
          rwa [show off' + 1 + j = off' + (j + 1) by omega] at this

theorem rdN_run {P : Program} {b b' off off' n : Nat} {spot : Option Nat} {l : List Value} (h : rdN w0.cell? H b spot n off = some l) (ha : AR ρ b off spot b' off') :
    ∃ l', All2 (V ρ) l l' ∧ l'.length = n ∧ (loadCells ⟨b', off', none⟩ n).run P w = .ok l'.toArray w ∧ ∀ j v, l'[j]? = some v → w.cell? ⟨b', off' + j, none⟩ = some v := by
  obtain ⟨l', h1, h2, h3⟩ := rdN_sim hr h ha
  refine ⟨l', h1, h2, ?_, h3⟩
  rw [← h2]
  refine run_loadCells_list w _ l' fun j v hj => ?_
  have := h3 j v hj
  by_cases h0 : j = 0
  · subst h0; simpa [Addr.add] using this
  · simpa [Addr.add, h0] using this

theorem sim_load {T : Tab} {P : Program} (ok : T.Ok P) {t : Nat} {a a' v : Value} (h : load T w0.cell? H t a = some v) (ha : V ρ a a') : ∃ v', (Instr.loadAt t a').run P w = .ok v' w ∧ V ρ v v' := by
  unfold load at h
  split at h
  · rename_i b off spot
    obtain ⟨b', off', rfl, har⟩ := ha.ptrA
    split at h
    · cases h
    · rename_i d hd
      cases hg : isAggD d with
      | true =>
        simp only [hg, cond_true] at h
        split at h
        · cases h
        · rename_i n hn
          split at h
          · cases h
          · rename_i l hl
            cases h
            obtain ⟨l', h1, h2, h3, _⟩ := rdN_run hr (P := P) hl har
            refine ⟨.agg l'.toArray, ?_, .agg (by simpa using h1)⟩
            simp [Instr.loadAt, Instr.sureAddr, loadVar, ok.runAgg hd, hg, ok.runSize hn, h3]
      | false =>
        simp only [hg, cond_false] at h
        obtain ⟨y, hy, hv⟩ := rd_sim hr h har
        refine ⟨y, ?_, hv⟩
        simp [Instr.loadAt, Instr.sureAddr, loadVar, ok.runAgg hd, hg, hy]
  · cases h

/-! ## maps -/

end rd

theorem bounds_m {len cap : Nat} {lo hi : Option Value} {l h m : Nat} (hb : bounds len cap lo hi none = some (l, h, m)) : m = cap := by
  unfold bounds at hb
  simp only at hb
  split at hb
  · cases hb
  · cases lo with
    | none => simp at hb; omega
    | some v =>
      simp only at hb
      cases hn : asN v with
      | none => simp [hn] at hb
      | some i =>
        simp only [hn] at hb
        split at hb
        · simp at hb; omega
        · cases hb

theorem isKey_IsKey {d : TypeDesc} {k : Value} (h : isKey d k = true) : MapKept.IsKey d k := by
  cases d <;> cases k <;> first | (simp [isKey] at h; done) | trivial | (simp [isKey] at h; exact h)

theorem beq_bytes (a b : ByteArray) : (a == b) = (a.data.toList == b.data.toList) := by
  rw [beq_toListBytes, toList_eq, toList_eq]

theorem sameNow_of {d : TypeDesc} {k k' : Value} {r : Bool} (hd : isKey d k = true) (h : sameKey k k' = some r) : Instr.sameNow d k k' = some r := by
  unfold sameKey at h
  split at h
  · split at h
    · cases h
      rename_i e
      cases d <;> first | (simp [isKey] at hd; done) | (simp [Instr.sameNow, e])
    · cases h
  · cases h
    cases d <;> first | (simp [isKey] at hd; done) | (simp [Instr.sameNow, beq_bytes])
  · cases h
    cases d <;> first | (simp [isKey] at hd; done) | (simp [Instr.sameNow])
  · cases h

/-- a map's entries as the evaluator has them, and as the machine has them -/
def ER (ρ : Ren) (x : Value × Value) (e : MapEntry) : Prop := e.key = x.1 ∧ V ρ x.2 e.val

theorem find_sim {ρ : Ren} {d : TypeDesc} {k : Value} (hd : isKey d k = true) : ∀ {es : List (Value × Value)} {en : List MapEntry} {r : Option Value} (i : Nat), find k es = some r → All2 (ER ρ) es en →
    ∃ r', Instr.findNow d k en i = some r' ∧ (match r with | none => r' = none | some v => ∃ j v', r' = some (j, v') ∧ V ρ v v')
  | [], _, r, i, h, hs => by
    cases hs
    simp [find] at h
    subst h
    exact ⟨none, rfl, rfl⟩
  | (k', v) :: es, _, r, i, h, hs => by
    cases hs with
    | cons hx ht =>
      rename_i e en
      obtain ⟨hk, hv⟩ := hx
      simp only at hk hv
      simp only [find] at h
      split at h
      · rename_i hs
        cases h
        refine ⟨some (i, e.val), ?_, i, e.val, rfl, hv⟩
        have := sameNow_of hd hs
        rw [← hk] at this
        simp [Instr.findNow, this]
      · rename_i hs
        obtain ⟨r', h1, h2⟩ := find_sim hd (i + 1) h ht
        refine ⟨r', ?_, h2⟩
        have := sameNow_of hd hs
        rw [← hk] at this
        simp [Instr.findNow, this, h1]
      · cases h

section mem
variable {w0 : World} {ρ : Ren} {H : Heap} {w : World} (hr : HR w0 ρ H w) {T : Tab} {P : Program} (ok : T.Ok P)
include hr ok

omit ok in
theorem entries_sim {x x' : Value} {es : List (Value × Value)} (h : entries H x = some es) (hx : V ρ x x') :
    ∃ en : Array MapEntry, All2 (ER ρ) es en.toList ∧ ((x' = .map none ∧ en = #[]) ∨ ∃ r clock, x' = .map (some r) ∧ w.heap[r]? = some (.map en clock)) := by
  unfold entries at h
  split at h
  · cases h
    exact ⟨#[], .nil, .inl ⟨hx.nilMap_inv, rfl⟩⟩
  · rename_i m
    obtain ⟨l, hl, rfl⟩ := hx.newMap_inv
    split at h
    · rename_i es' hm
      cases h
      obtain ⟨en, clock, h1, h2⟩ := hr.blkOf hl hm l hl
      exact ⟨en, h2, .inr ⟨l.r, clock, rfl, h1⟩⟩
    · cases h
  · cases h

theorem sim_lookup0 {t : Nat} {x k x' k' v : Value} {c : Bool} (h : lookup0 T H t x k c = some v) (hx : V ρ x x') (hk : V ρ k k') : ∃ v', (Instr.lookup t x' k' c).run P w = .ok v' w ∧ V ρ v v' := by
  unfold lookup0 at h
  split at h
  · rename_i kt et hu
    split at h
    · rename_i d z es hd hz hes
      cases hc : (isKey d k && closedC z) with
      | false => simp [hc] at h
      | true =>
        simp only [hc, cond_true] at h
        simp only [Bool.and_eq_true] at hc
        obtain ⟨hkey, hcz⟩ := hc
        have hke : k' = k := by
          cases d <;> cases k <;> first | (simp [isKey] at hkey; done) | exact hk.int_inv | exact hk.string_inv | exact hk.bool_inv
        subst hke
        obtain ⟨en, he, hcase⟩ := entries_sim hr hes hx
        have hck : ∀ e, (Instr.checkKey e 10000 kt k').run P w = .ok () w := fun e => MapKept.run_checkKey (P := P) (w := w) (ok.und hd) (isKey_IsKey hkey) e 9999
        split at h
        · rename_i u hf
          cases h
          obtain ⟨r', h1, j, v', rfl, hv⟩ := find_sim hkey 0 hf he
          have hfk := MapKept.run_findKey (P := P) (w := w) (ok.und hd) h1
          refine ⟨if c then .tuple #[v', .bool true] else v', ?_, ?_⟩
          · rcases hcase with ⟨rfl, rfl⟩ | ⟨r, clock, rfl, hw⟩
            · simp only [Instr.lookup, Sem.run_bind, ok.runUnd hu, Result.andThen_ok, hck, hfk, Sem.run_pure]
            · have hg : (getObj r).run P w = .ok (.map en clock) w := by simp [getObj, Sem.run, hw]
              simp only [Instr.lookup, Sem.run_bind, ok.runUnd hu, Result.andThen_ok, hg, hck, hfk, Sem.run_pure]
          · cases c
            · exact hv
            · exact .tuple (.cons hv (.cons (.flat rfl) .nil))
        · rename_i hf
          cases h
          obtain ⟨r', h1, rfl⟩ := find_sim hkey 0 hf he
          have hfk := MapKept.run_findKey (P := P) (w := w) (ok.und hd) h1
          refine ⟨if c then .tuple #[z, .bool false] else z, ?_, ?_⟩
          · rcases hcase with ⟨rfl, rfl⟩ | ⟨r, clock, rfl, hw⟩
            · simp only [Instr.lookup, Sem.run_bind, ok.runUnd hu, Result.andThen_ok, hck, hfk, Sem.run_pure, ok.runZero hz]
            · have hg : (getObj r).run P w = .ok (.map en clock) w := by simp [getObj, Sem.run, hw]
              simp only [Instr.lookup, Sem.run_bind, ok.runUnd hu, Result.andThen_ok, hg, hck, hfk, Sem.run_pure, ok.runZero hz]
          · cases c
            · exact .closed hcz
            · exact .tuple (.cons (.closed hcz) (.cons (.flat rfl) .nil))
        · cases h
    · cases h
  · cases h

omit hr ok in
theorem noKey_find {i : Nat} {s : ByteArray} (hbin : ∀ b v, T.bin .eql (.chan (some i)) (.string b) = some (.bool v) → v = (s.data.toList == b.data.toList)) : ∀ {es : List (Value × Value)}, noKey T i es = true → find (.string s) es = some none
  | [], _ => rfl
  | (k, u) :: es, h => by
    unfold noKey at h
    split at h
    · rename_i heq; cases heq
    · rename_i b w es2 heq
      cases heq
      split at h
      · rename_i hb
        have := hbin b false hb
        simp only [find, sameKey, ← this]
        exact noKey_find hbin h
      · cases h
    · cases h

theorem sim_lookup (hS : ρ.sym = T.sym) {t : Nat} {x k x' k' v : Value} {c : Bool} (h : lookup T H t x k c = some v) (hx : V ρ x x') (hk : V ρ k k') : ∃ v', (Instr.lookup t x' k' c).run P w = .ok v' w ∧ V ρ v v' := by
  unfold lookup at h
  split at h
  · rename_i i
    split at h
    · rename_i kt et hu
      split at h
      · rename_i z es l hkt hz hes hl
        cases hc : closedC z && noKey T i es with
        | false => simp [hc] at h
        | true =>
          simp only [hc, cond_true] at h
          simp only [Bool.and_eq_true] at hc
          obtain ⟨s, h1, _⟩ := ok.slen _ _ hl
          obtain ⟨h3, h4⟩ := hk.sym_inv hS
          rw [h1] at h3; cases h3
          have hsv : SV T.sym (.chan (some i)) (.string s) := .inl ⟨i, rfl, h1, rfl⟩
          have hf := noKey_find (T := T) (i := i) (s := s) (fun b v hb => by
            obtain ⟨v', g1, g2⟩ := ok.bin _ _ _ _ hb _ _ hsv (.inr ⟨.inr rfl, rfl⟩)
            rcases g2 with ⟨_, _, _, e, _⟩ | ⟨a, b', e1, e2, g3⟩
            · cases e
            · cases e1; cases e2
              simp only [strOp, Option.some.injEq] at g3
              subst g3
              rcases g1 with ⟨j, e, _⟩ | ⟨_, e⟩
              · cases e
              · cases e; rfl) hc.2
          refine sim_lookup0 hr ok (k := .string s) ?_ hx (.flat rfl)
          unfold lookup0
          simp only [hu, hkt, hz, hes, isKey, hc.1, Bool.and_self, cond_true, hf]
          exact h
      · cases h
    · cases h
  · exact sim_lookup0 hr ok h hx hk

theorem sim_slice {t : Nat} {x x' v : Value} {lo hi mx lo' hi' mx' : Option Value} (h : sliceV T H t x lo hi mx = some v) (hx : V ρ x x') (hlo : OV ρ lo lo') (hhi : OV ρ hi hi') (hmx : OV ρ mx mx') :
    ∃ v', (Instr.sliceAt t x' lo' hi' mx').run P w = .ok v' w ∧ V ρ v v' := by
  unfold sliceV at h
  split at h
  · rename_i s hu
    obtain rfl := hx.string_inv
    cases hm : mx.isSome with
    | true => simp [hm] at h
    | false =>
      simp only [hm, cond_false] at h
      obtain rfl : mx = none := by cases mx <;> simp_all
      obtain rfl : mx' = none := by cases mx' <;> simp_all [OV]
      split at h
      · rename_i l h' m hb
        cases h
        refine ⟨.string (s.extract l h'), ?_, ?_⟩
        · simp [Instr.sliceAt, ok.runUnd hu, Instr.slice, run_bounds hb (Nat.le_refl _) hlo hhi hmx]
        · have : (⟨⟨(s.data.toList.take h').drop l⟩⟩ : ByteArray) = s.extract l h' := by
            apply ByteArray.ext
            apply Array.ext'
            simp [ByteArray.data_extract, Array.toList_extract, List.extract, List.take_drop]
            obtain ⟨h1, h2, h3, h4⟩ := bounds_le hb (Nat.le_refl _)
            have : l + (h' - l) = h' := by omega
            simp [this]
          rw [this]
          exact .flat rfl
      · cases h
  · rename_i elem hu
    obtain rfl := hx.nilSlice_inv
    split at h
    · rename_i n p hn hb
      cases h
      obtain ⟨l, h', m⟩ := p
      obtain ⟨h1, h2, h3, h4⟩ := bounds_le hb (Nat.le_refl _)
      obtain ⟨h5, h6, h7⟩ : l = 0 ∧ h' = 0 ∧ m = 0 := by omega
      subst h5; subst h6; subst h7
      refine ⟨.slice none 0 0, ?_, .flat rfl⟩
      have hrb := run_bounds (P := P) hb (Nat.le_refl _) hlo hhi hmx true w
      simp only [ite_self] at hrb
      simp [Instr.sliceAt, ok.runUnd hu, Instr.slice, hrb, ok.runSize hn]
    · cases h
  · rename_i elem b off ver len cap hu
    split at h
    · rename_i z cs n v0 prev esz ty hz hk
      split at h
      · cases h
      · rename_i l h' m hb
        split at h
        · cases h
        · rename_i hesz
          cases h
          simp only [ne_eq, Decidable.not_not] at hesz
          subst hesz
          obtain ⟨lc, o', cap', hl, hd, ho, hs, hlen, hc, rfl⟩ := hx.newSlice_inv
          have he : ρ.esz b = esz := (hr.blkOf hl hk).1
          rw [he] at hs
          obtain ⟨h1, h2, h3, h4⟩ := bounds_le hb (Nat.le_refl _)
          have hrb := run_bounds (P := P) hb hlen hlo hhi hmx true w
          -- the machine's capacity of what was cut
          generalize hM : (if mx.isSome = true then m else cap') = M at hrb
          have hMle : M ≤ cap' := by subst hM; split <;> omega
          have hhM : h' ≤ M := by subst hM; split <;> omega
          have hlM : l ≤ M := by omega
          have hmul : (M - l) * esz + l * esz ≤ cap' * esz := by
            rw [← Nat.add_mul, Nat.sub_add_cancel hlM]
            exact Nat.mul_le_mul_right _ hMle
          refine ⟨.slice (some (if M = l then ⟨lc.r, o', none⟩ else ⟨lc.r, o' + l * esz, none⟩)) (h' - l) (M - l), ?_, ?_⟩
          · simp only [Instr.sliceAt, ok.runUnd hu, Sem.run_bind, Result.andThen_ok, Instr.slice, hrb, ok.runSize hz, Sem.run_pure]
            congr 2
            by_cases hml : M = l
            · simp [hml]
            · by_cases h0 : l * esz = 0
              · simp [hml, Addr.add, h0]
              · simp [hml, Addr.add, h0]
          · refine .fr ?_
            have hcap : cutCap mx m l cap = unk ∨ cutCap mx m l cap = M - l := by
              subst hM
              cases mx with
              | some x => right; simp [cutCap]
              | none =>
                simp only [cutCap]
                rcases hc with rfl | rfl
                · left; simp [unk]
                · cases hq : Nat.beq cap unk with
                  | true => left; rfl
                  | false => right; simp
            by_cases hml : M = l
            · rw [if_pos hml]
              exact .slice hl (by omega) (.inr (by omega)) (by rw [he]; omega) (by omega) hcap
            · rw [if_neg hml]
              refine .slice hl (by omega) (.inl ?_) (by rw [he]; omega) (by omega) hcap
              rcases ho with rfl | ⟨e1, e2⟩
              · omega
              · exfalso; omega
    · cases h
  · rename_i elem b off len cap hu
    split at h
    · cases h
    · rename_i z hz
      split at h
      · cases h
      · rename_i l h' m hb
        cases h
        obtain rfl := hx.oldSlice_inv
        have hrb := run_bounds (P := P) hb (Nat.le_refl _) hlo hhi hmx true w
        refine ⟨.slice (some (if m = l then ⟨b, off, none⟩ else ⟨b, off + l * z, none⟩)) (h' - l) (m - l), ?_, .flat (by split <;> rfl)⟩
        have hm : (if mx.isSome = true then m else cap) = m := by
          cases mx with
          | some x => simp
          | none => simp [bounds_m hb]
        rw [hm] at hrb
        simp only [Instr.sliceAt, ok.runUnd hu, Sem.run_bind, Result.andThen_ok, Instr.slice, hrb, ok.runSize hz, Sem.run_pure]
        congr 2
        by_cases hml : m = l
        · simp [hml]
        · by_cases h0 : l * z = 0
          · simp [hml, Addr.add, h0]
          · simp [hml, Addr.add, h0]
  · cases h

omit hr ok in
theorem bytesOf_inv : ∀ {l : List Value} {r : List UInt8}, bytesOf l = some r → ∃ ns : List Int, l = ns.map (Value.int .u8) ∧ r = ns.map fun n => UInt8.ofNat n.toNat
  | [], r, h => by simp [bytesOf] at h; subst h; exact ⟨[], rfl, rfl⟩
  | v :: l, r, h => by
    cases v with
    | int k n =>
      cases k <;> simp only [bytesOf] at h <;> try (cases h; done)
      split at h
      · rename_i q hq
        cases h
        obtain ⟨ns, e1, e2⟩ := bytesOf_inv hq
        exact ⟨n :: ns, by simp [e1], by simp [e2]⟩
      · cases h
    | _ => simp [bytesOf] at h

omit hr ok in
theorem ints_same {ns : List Int} : ∀ {l' : List Value}, All2 (V ρ) (ns.map (Value.int .u8)) l' → l' = ns.map (Value.int .u8) := by
  induction ns with
  | nil => intro l' h; cases h; rfl
  | cons n ns ih =>
    intro l' h
    cases h with
    | cons h1 h2 =>
      rw [h1.int_inv, ih h2]
      rfl

omit hr ok in
theorem foldl_push (ns : List Int) : ∀ (s : ByteArray), ns.foldl (fun r n => r.push (UInt8.ofNat n.toNat)) s = ⟨⟨s.data.toList ++ ns.map fun n => UInt8.ofNat n.toNat⟩⟩ := by
  induction ns with
  | nil => intro s; simp
  | cons n ns ih =>
    intro s
    simp only [List.foldl_cons, ih]
    apply ByteArray.ext
    apply Array.ext'
    simp

omit ok in
theorem blockOf {b ver : Nat} {lc : Loc} {cs : Tr Value} {n : Nat} {prev : Option Nat} {esz ty : Nat} (hl : ρ.loc b ver = some lc) (hk : H.blks.get b = some (.cells cs n ver prev esz ty)) :
    CR ρ cs n ty lc w ∧ (∀ i x, cs.get i = some x → i < n) := by
  obtain ⟨h1, h2, h3, h4, h5⟩ := hr.blkOf hl hk
  exact ⟨h4 _ hl, h2⟩

omit hr ok in
theorem depth_succ (P : Program) : ∃ d, P.depth = d + 1 := ⟨2 * (P.types.size + Made.depth) + 1, rfl⟩

omit hr ok in
theorem sameLayout_refl (t : TypeId) : sameLayout P P.depth t t = true := by
  obtain ⟨d, hd⟩ := depth_succ P
  rw [hd]
  simp [sameLayout]

omit hr ok in
theorem lies_self {t : TypeId} {count off n : Nat} (h0 : P.cellsOf t ≠ 0) (h1 : off % P.cellsOf t = 0) (h2 : off / P.cellsOf t + n ≤ count) : liesAt P P.depth t count off t n = true := by
  obtain ⟨d, hd⟩ := depth_succ P
  have : rowAt P (sameLayout P P.depth · t) P.depth t count off n = true := by
    conv => lhs; arg 3; rw [hd]
    simp [rowAt, h0, h1, h2, sameLayout_refl]
  rw [show liesAt P P.depth t count off t n = liesAt P (d + 1) t count off t n by rw [hd]]
  simp [liesAt, this]

omit hr in
theorem Tab.Ok.cellsOf {t n : Nat} (h : T.size t = some n) : P.cellsOf t = n := by
  obtain ⟨i, hi, rfl⟩ := ok.size h
  simp [Program.cellsOf, hi]

omit hr ok in
theorem run_seenAt {a : Addr} {c : Array Value} {ty : TypeId} {fz : Nat × Nat} (h : w.heap[a.block]? = some (.cells c ty fz)) : (Conv.seenAt a).run P w = .ok a w := by
  simp [Conv.seenAt, viewAt, World.shape?, h]

theorem sim_conv (hS : ρ.sym = T.sym) {s d : Nat} {x x' v : Value} (h : convV T w0.cell? H s d x = some v) (hx : V ρ x x') : ∃ v', (convert s d x').run P w = .ok v' w ∧ V ρ v v' := by
  unfold convV at h
  split at h
  · rename_i ds k kk n hs hd
    cases h
    obtain rfl := hx.int_inv
    refine ⟨_, ?_, .flat rfl⟩
    simp only [convert, Sem.run_bind, ok.runUnd hs, ok.runUnd hd, Result.andThen_ok, Conv.intToInt, Sem.run_pure]
  · rename_i ds m r hs hd
    cases h
    obtain ⟨n, rfl, hn, hm⟩ := hx.res_inv
    refine ⟨.int .i64 n, ?_, .fr (.res (fk := .f64) hn hm)⟩
    have e := wrap_res (fk := .f64) hn
    simp only [resK] at e
    simp only [convert, resK, Sem.run_bind, ok.runUnd hs, ok.runUnd hd, Result.andThen_ok, Conv.intToInt, Sem.run_pure, e]
  · rename_i ds k i hs hd
    obtain ⟨k0, n, h1, h2⟩ := ok.sconv _ _ _ h
    obtain ⟨h3, _⟩ := hx.sym_inv hS
    rw [h1] at h3; cases h3
    refine ⟨_, ?_, h2.toV hS⟩
    simp only [convert, Sem.run_bind, ok.runUnd hs, ok.runUnd hd, Result.andThen_ok, Conv.intToInt, Sem.run_pure]
  · rename_i ds st hs hd
    cases h
    obtain rfl := hx.string_inv
    refine ⟨_, ?_, .flat rfl⟩
    simp only [convert, Sem.run_bind, ok.runUnd hs, ok.runUnd hd, Result.andThen_ok, Sem.run_pure]
  · rename_i e hs hd
    obtain rfl := hx.nilSlice_inv
    split at h
    · rename_i he
      cases h
      refine ⟨.string .empty, ?_, .flat rfl⟩
      simp only [convert, Sem.run_bind, ok.runUnd hs, ok.runUnd hd, ok.runUnd he, Result.andThen_ok, Conv.bytesToString, Sem.run_pure]
    · cases h
  · rename_i e b off spot n cap hs hd
    split at h
    · rename_i he
      split at h
      · rename_i l hl
        split at h
        · rename_i r hb
          cases h
          obtain ⟨ns, rfl, rfl⟩ := bytesOf_inv hb
          have fin : ∀ b' off' c', AR ρ b off spot b' off' → (Conv.bytesToString (.slice (some ⟨b', off', none⟩) n c')).run P w = .ok (.string ⟨⟨ns.map fun n => UInt8.ofNat n.toNat⟩⟩) w := by
            intro b' off' c' ha
            obtain ⟨l', h1, h2, h3, _⟩ := rdN_run hr (P := P) hl ha
            rw [ints_same h1] at h3
            rw [run_bytesToString w _ _ _ ns h3, foldl_push]
            rfl
          cases spot with
          | none =>
            obtain rfl := hx.oldSlice_inv
            refine ⟨.string ⟨⟨ns.map fun n => UInt8.ofNat n.toNat⟩⟩, ?_, .flat rfl⟩
            simp only [convert, Sem.run_bind, ok.runUnd hs, ok.runUnd hd, ok.runUnd he, Result.andThen_ok, fin _ _ _ .old]
          | some ver =>
            obtain ⟨lc, o', cap', hlc, hdd, ho, hss, hlen, hc, rfl⟩ := hx.newSlice_inv
            refine ⟨.string ⟨⟨ns.map fun n => UInt8.ofNat n.toNat⟩⟩, ?_, .flat rfl⟩
            by_cases h0 : n = 0
            · subst h0
              have hn : ns = [] := by simpa [rdN] using hl
              subst hn
              simp [convert, Sem.run_bind, ok.runUnd hs, ok.runUnd hd, ok.runUnd he, Result.andThen_ok, Conv.bytesToString, loadCells, loadCellsFrom]
              rfl
            · have : o' = off - lc.d := ho.resolve_right (by omega)
              subst this
              simp only [convert, Sem.run_bind, ok.runUnd hs, ok.runUnd hd, ok.runUnd he, Result.andThen_ok, fin _ _ _ (.new hlc hdd)]
        · cases h
      · cases h
    · cases h
  · rename_i t hs hd
    cases h
    obtain rfl := hx.nilPtr_inv
    refine ⟨_, ?_, .flat rfl⟩
    simp only [convert, Sem.run_bind, ok.runUnd hs, ok.runUnd hd, Result.andThen_ok, Conv.unsafePointer, Sem.run_pure]
  · rename_i t b off ver hs hd
    split at h
    · rename_i n cs nn v0 prev esz ty hn hk
      cases hc : (Nat.beq ver v0 && (cs.get off).isSome) with
      | false => simp [hc] at h
      | true =>
        simp only [hc, cond_true] at h
        cases h
        simp only [Bool.and_eq_true] at hc
        obtain rfl := Nat.eq_of_beq_eq_true hc.1
        obtain ⟨y, hy⟩ := Option.isSome_iff_exists.1 hc.2
        obtain ⟨lc, hl, hdd, rfl⟩ := hx.newPtr_inv
        obtain ⟨⟨c, fz, h1, h2, h3, h4, h5⟩, hlt⟩ := blockOf hr hl hk
        obtain ⟨z, hz, _⟩ := h5 off y hdd (hlt _ _ hy) hy
        have hin : off - lc.d < c.size := by
          have := Array.getElem?_eq_some_iff.1 hz
          exact this.1
        refine ⟨_, ?_, .fr (.ptr hl hdd)⟩
        have hs1 : (Conv.seenAt ⟨lc.r, off - lc.d, none⟩).run P w = .ok ⟨lc.r, off - lc.d, none⟩ w := run_seenAt h1
        have hc1 : (cellsIn lc.r).run P w = .ok (some c.size) w := by simp [cellsIn, World.shape?, h1]
        simp only [convert, Sem.run_bind, ok.runUnd hs, ok.runUnd hd, Result.andThen_ok, Conv.unsafePointer, hs1, hc1, ok.runSize hn]
        have : ¬ (c.size ≤ off - lc.d) := by omega
        simp [this]
    · cases h
  · rename_i t hs hd
    cases h
    obtain rfl := hx.nilPtr_inv
    refine ⟨_, ?_, .flat rfl⟩
    simp only [convert, Sem.run_bind, ok.runUnd hs, ok.runUnd hd, Result.andThen_ok, Conv.unsafePointer, Sem.run_pure]
  · rename_i u b ver hs hd
    split at h
    · rename_i n cs m v0 prev esz ty hn hk
      cases hc : (Nat.beq ver v0 && Nat.beq ty u && Nat.ble 1 n && Nat.ble n m) with
      | false => simp [hc] at h
      | true =>
        simp only [hc, cond_true] at h
        cases h
        simp only [Bool.and_eq_true] at hc
        obtain ⟨⟨⟨c1, c2⟩, c3⟩, c4⟩ := hc
        obtain rfl := Nat.eq_of_beq_eq_true c1
        obtain rfl := Nat.eq_of_beq_eq_true c2
        have c3 := Nat.le_of_ble_eq_true c3
        have c4 := Nat.le_of_ble_eq_true c4
        obtain ⟨lc, hl, hdd, rfl⟩ := hx.newPtr_inv
        obtain ⟨⟨c, fz, h1, h2, h3, h4, h5⟩, hlt⟩ := blockOf hr hl hk
        refine ⟨_, ?_, .fr (.ptr hl hdd)⟩
        have hd0 : lc.d = 0 := by omega
        have hs1 : (Conv.seenAt ⟨lc.r, 0 - lc.d, none⟩).run P w = .ok ⟨lc.r, 0 - lc.d, none⟩ w := run_seenAt h1
        have hce := ok.cellsOf hn
        have hv1 : (variablesAt ⟨lc.r, 0 - lc.d, none⟩ ty 1).run P w = .ok true w := by
          have : c.size / n ≥ 1 := by
            rw [ge_iff_le, Nat.le_div_iff_mul_le (by omega)]
            omega
          have hlies := lies_self (P := P) (t := ty) (count := c.size / n) (off := 0 - lc.d) (n := 1) (by omega) (by simp) (by rw [hce]; simpa using this)
          simp only [variablesAt, Sem.run_bind, run_program, run_shape, Result.andThen_ok, World.shape?, h1, Sem.run_pure, hce, hlies]
        simp only [convert, Sem.run_bind, ok.runUnd hs, ok.runUnd hd, Result.andThen_ok, Conv.unsafePointer, hs1, ok.runSize hn, hv1]
        simp
    · cases h
  · cases h

theorem sim_len (hS : ρ.sym = T.sym) {t : Nat} {x x' v : Value} {ts : Array TypeId} {l : List TypeId} (hts : ts.toList = t :: l) (h : lenV T H t x = some v) (hx : V ρ x x') (ty : TypeId) : ∃ v', (Builtin.len_ ts ty #[x']).run P w = .ok v' w ∧ V ρ v v' := by
  have h0 : ts[0]? = some t := by
    have := congrArg (·[0]?) hts
    simpa using this
  unfold lenV at h
  split at h
  · rename_i s hu
    cases h
    obtain rfl := hx.string_inv
    exact ⟨_, by simp [Builtin.len_, h0, ok.runUnd hu, goInt], .flat rfl⟩
  · rename_i i hu
    obtain ⟨s, h1, h2⟩ := ok.slen _ _ h
    obtain ⟨h3, _⟩ := hx.sym_inv hS
    rw [h1] at h3; cases h3
    exact ⟨_, by simp [Builtin.len_, h0, ok.runUnd hu, goInt], h2.toV hS⟩
  · rename_i e a n c hu
    cases h
    have := hx.slice_inv
    cases this <;> exact ⟨_, by simp [Builtin.len_, h0, ok.runUnd hu, goInt], .flat rfl⟩
  · rename_i n e hu
    cases h
    exact ⟨_, by simp [Builtin.len_, h0, ok.runUnd hu, goInt], .flat rfl⟩
  · rename_i k e hu
    cases h
    obtain rfl := hx.nilMap_inv
    exact ⟨_, by simp [Builtin.len_, h0, ok.runUnd hu, goInt], .flat rfl⟩
  · rename_i k e m hu
    obtain ⟨lc, hl, rfl⟩ := hx.newMap_inv
    split at h
    · rename_i es hm
      cases h
      obtain ⟨en, clock, h1, h2⟩ := hr.blkOf hl hm lc hl
      have := h2.length
      simp at this
      exact ⟨_, by simp [Builtin.len_, h0, ok.runUnd hu, goInt, getObj, Sem.run, h1, this], .flat rfl⟩
    · cases h
  · cases h

omit hr ok in
theorem sim_mm : ∀ {mx : Bool} {x : Value} {l : List Value} {x' : Value} {l' : List Value} {v : Value}, mm mx x l = some v → V ρ x x' → All2 (V ρ) l l' →
    ∃ v', (l'.foldlM (if mx then Builtin.max2 else Builtin.min2) x').run P w = .ok v' w ∧ V ρ v v'
  | mx, x, [], x', l', v, h, hx, hl => by
    cases hl
    simp [mm] at h
    subst h
    exact ⟨x', rfl, hx⟩
  | mx, x, y :: l, x', l', v, h, hx, hl => by
    cases hl with
    | cons hy ht =>
      unfold mm at h
      split at h
      · rename_i heq; cases heq
      · rename_i k a kk b ll heq
        cases heq
        obtain rfl := hx.int_inv
        obtain rfl := hy.int_inv
        obtain ⟨v', h1, h2⟩ := sim_mm h (.flat rfl) ht
        refine ⟨v', ?_, h2⟩
        rw [← h1]
        cases mx
        · simp [List.foldlM_cons, Builtin.min2]
        · simp [List.foldlM_cons, Builtin.max2]
      · cases h

omit hr ok in
theorem sliceData_nil (ts : Array TypeId) (ty : TypeId) (l c : Nat) : Builtin.unsafeSliceData_ ts ty #[.slice none l c] = pure (.pointer none) := rfl
omit hr ok in
theorem sliceData_some (ts : Array TypeId) (ty : TypeId) (a : Addr) (l c : Nat) : Builtin.unsafeSliceData_ ts ty #[.slice (some a) l c] =
    (if c ≠ 0 then pure (.pointer (some a)) else (do if (← viewAt a.block).isSome then pure (.pointer (some a)) else pure (.pointer (some ⟨← newObj (.view a (← elemOf ty)), 0, none⟩)) : Sem Value)) := rfl

theorem simL (hS : ρ.sym = T.sym) {e : Operand → Option Value} {g : Operand → Value} (he : OR ρ e g) {o : Oper} {v : Value} (h : opL T w0.cell? H e o.op = some v) :
    ∃ v', (execOp g o).run P w = .ok (.value v') w ∧ V ρ v v' := by
  unfold execOp
  unfold opL at h
  split at h
  · rename_i t a hop
    simp only [hop]
    split at h
    · rename_i u hu
      obtain ⟨v', h1, h2⟩ := sim_load hr ok h (he _ _ hu)
      exact ⟨v', by simp [h1], h2⟩
    · cases h
  · rename_i t x lo hi mx hop
    simp only [hop]
    split at h
    · rename_i a l hh m ha hl hhi hm
      obtain ⟨v', h1, h2⟩ := sim_slice hr ok h (he _ _ ha) (optV_rel he hl) (optV_rel he hhi) (optV_rel he hm)
      exact ⟨v', by simp [h1], h2⟩
    · cases h
  · rename_i t m k c hop
    simp only [hop]
    split at h
    · rename_i a b ha hb
      obtain ⟨v', h1, h2⟩ := sim_lookup hr ok hS h (he _ _ ha) (he _ _ hb)
      exact ⟨v', by simp [h1], h2⟩
    · cases h
  · rename_i s d x hop
    simp only [hop]
    split at h
    · rename_i a ha
      obtain ⟨v', h1, h2⟩ := sim_conv hr ok hS h (he _ _ ha)
      exact ⟨v', by simp [h1], h2⟩
    · cases h
  · rename_i xa ts hop
    simp only [hop]
    split at h
    · rename_i x t l hxa hts
      split at h
      · rename_i a ha
        obtain ⟨v', h1, h2⟩ := sim_len hr ok hS hts h (he _ _ ha) o.type
        have e1 : xa.map g = #[g x] := by apply Array.ext'; simp [hxa]
        exact ⟨v', by simp [resolve, invoke, builtin, e1, h1], h2⟩
      · cases h
    · cases h
  · rename_i xa ts hop
    simp only [hop]
    split at h
    · rename_i hargs
      cases h
      have := args_rel he hargs
      cases hxa : xa.toList.map g with
      | nil => rw [hxa] at this; cases this
      | cons y l =>
        rw [hxa] at this
        cases this with
        | cons hy ht =>
          cases ht
          obtain rfl := hy.nilSlice_inv
          have e1 : xa.map g = #[.slice none 0 0] := by apply Array.ext'; simp [hxa]
          exact ⟨.pointer none, by simp [resolve, invoke, builtin, e1, sliceData_nil], .flat rfl⟩
    · rename_i b off ver n cap hargs
      cases h
      have := args_rel he hargs
      cases hxa : xa.toList.map g with
      | nil => rw [hxa] at this; cases this
      | cons y l =>
        rw [hxa] at this
        cases this with
        | cons hy ht =>
          cases ht
          obtain ⟨lc, o', cap', hlc, hdd, ho, hss, hlen, hc, rfl⟩ := hy.newSlice_inv
          have : o' = off - lc.d := ho.resolve_right (by omega)
          subst this
          have e1 : xa.map g = #[.slice (some ⟨lc.r, off - lc.d, none⟩) (n + 1) cap'] := by apply Array.ext'; simp [hxa]
          have hc0 : cap' ≠ 0 := by omega
          exact ⟨_, by simp [resolve, invoke, builtin, e1, sliceData_some, hc0], .fr (.ptr hlc hdd)⟩
    · cases h
  · rename_i xa ts hop
    simp only [hop]
    split at h
    · rename_i x l hargs
      have := args_rel he hargs
      cases hxa : xa.toList.map g with
      | nil => rw [hxa] at this; cases this
      | cons y r =>
        rw [hxa] at this
        cases this with
        | cons hy ht =>
          obtain ⟨v', h1, h2⟩ := sim_mm (P := P) (w := w) h hy ht
          refine ⟨v', ?_, h2⟩
          have e1 : (xa.map g).toList = y :: r := by simp [hxa]
          simp only [if_true] at h1
          simp [resolve, invoke, builtin, Builtin.max_, hxa, h1]
    · cases h
  · rename_i xa ts hop
    simp only [hop]
    split at h
    · rename_i x l hargs
      have := args_rel he hargs
      cases hxa : xa.toList.map g with
      | nil => rw [hxa] at this; cases this
      | cons y r =>
        rw [hxa] at this
        cases this with
        | cons hy ht =>
          obtain ⟨v', h1, h2⟩ := sim_mm (P := P) (w := w) h hy ht
          refine ⟨v', ?_, h2⟩
          have e1 : (xa.map g).toList = y :: r := by simp [hxa]
          simp only [Bool.false_eq_true, if_false] at h1
          simp [resolve, invoke, builtin, Builtin.min_, hxa, h1]
    · cases h
  · cases h
end mem
end Go.Ev
