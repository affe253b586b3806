/-
  The operations that write: maps, append, copy, clear, a text out of bytes.
-/
import Derived.Test.YtmmojhbboomgoaaGreatEvSimW
namespace Go.Ev
set_option linter.unusedSimpArgs false
set_option linter.unusedVariables false

/-- What comes of what writes or calls. -/
def Out (w0 : World) (ρ : Ren) (H : Heap) (v : Value) (H' : Heap) (v' : Value) (w' : World) : Prop :=
  ∃ ρ', ρ.le ρ' ∧ HR w0 ρ' H' w' ∧ V ρ' v v' ∧ (∀ b, b < H.next → ρ'.has b → ρ.has b) ∧ (∀ b, b < H.next → ¬ ρ.has b → H'.blks.get b = H.blks.get b) ∧ H.next ≤ H'.next

theorem Out.same {w0 : World} {ρ : Ren} {H : Heap} {v v' : Value} {w : World} (h : HR w0 ρ H w) (hv : V ρ v v') : Out w0 ρ H v H v' w :=
  ⟨ρ, Ren.le_refl _, h, hv, fun _ _ h => h, fun _ _ _ => rfl, Nat.le_refl _⟩

theorem Out.put {w0 : World} {ρ : Ren} {H : Heap} {v v' : Value} {w' : World} {b : Nat} {k : Blk} (hb : ρ.has b) (h : HR w0 ρ ⟨H.blks.put b k, H.next⟩ w') (hv : V ρ v v') : Out w0 ρ H v ⟨H.blks.put b k, H.next⟩ v' w' :=
  ⟨ρ, Ren.le_refl _, h, hv, fun _ _ h => h, fun b' _ hn => Tr.get_put_ne _ _ fun e => hn (e ▸ hb), Nat.le_refl _⟩

theorem HR.new {w0 : World} {ρ : Ren} {H : Heap} {w w' : World} {v v' : Value} {k : Blk} {T : Tab} {P : Program} {s esz : Nat} (h : HR w0 ρ H w) (hn : NewOk T P ρ H w v k v' w' s esz) : Out w0 ρ H v (H.new k) v' w' := by
  have hid : ¬ ρ.has H.next := fun ⟨a, l, hl⟩ => by have := (h.dom _ _ _ hl).1; omega
  have hw : HR w0 ρ (H.new k) w := h.weak (fun b ⟨a, l, hl⟩ => by
    have := (h.dom _ _ _ hl).1
    exact Tr.get_put_ne _ _ (by omega)) (by simp [Heap.new])
  refine ⟨ρ.ext H.next w.heap.size s esz, Ren.ext_le hid, hw.ext hid (by simp [Heap.new]) (Tr.get_put_self _ _ _) hn.same hn.size (hn.blk _ rfl hid) hn.io, hn.val _ rfl hid, ?_, ?_, by simp [Heap.new]⟩
  · rintro b hb ⟨a, l, hl⟩
    have e : b ≠ H.next := by omega
    simp [Ren.ext, e] at hl
    exact ⟨a, l, hl⟩
  · intro b hb _
    exact Tr.get_put_ne _ _ (by omega)

section
variable {w0 : World} {ρ : Ren} {H : Heap} {w : World} (hr : HR w0 ρ H w) {T : Tab} {P : Program} (ok : T.Ok P)
include hr ok

omit hr ok in
theorem sameKey_eq {k k' : Value} (h : sameKey k k' = some true) : k' = k := by
  unfold sameKey at h
  split at h
  · split at h
    · rename_i e; subst e
      simp at h; rw [h]
    · cases h
  · rename_i a b
    simp at h
    congr 1
    apply ByteArray.ext
    exact h.symm
  · simp at h; rw [h]
  · cases h

omit hr ok in
theorem upd_sim {d : TypeDesc} {k v v' : Value} (hd : isKey d k = true) (hv : V ρ v v') : ∀ {es es' : List (Value × Value)} {en : List MapEntry} (i : Nat), upd k v es = some es' → All2 (ER ρ) es en →
    (∃ j e, Instr.findNow d k en i = some (some (i + j, e.val)) ∧ en[j]? = some e ∧ e.key = k ∧ All2 (ER ρ) es' (en.set j { e with val := v' })) ∨ (Instr.findNow d k en i = some none ∧ es' = es ++ [(k, v)])
  | [], es', en, i, h, hs => by
    cases hs
    simp [upd] at h
    subst h
    exact .inr ⟨rfl, rfl⟩
  | (k0, v0) :: es, es', _, i, h, hs => by
    cases hs with
    | cons hx ht =>
      rename_i e en
      obtain ⟨hk, hv0⟩ := hx
      simp only at hk hv0
      simp only [upd] at h
      split at h
      · rename_i hs
        cases h
        have h1 := sameNow_of hd hs
        rw [← hk] at h1
        refine .inl ⟨0, e, by simp [Instr.findNow, h1], by simp, hk.trans (sameKey_eq hs), ?_⟩
        exact .cons ⟨hk, hv⟩ ht
      · rename_i hs
        have h1 := sameNow_of hd hs
        rw [← hk] at h1
        split at h
        · rename_i r hu
          cases h
          rcases upd_sim hd hv (i + 1) hu ht with ⟨j, e', h2, h3, h4, h5⟩ | ⟨h2, rfl⟩
          · refine .inl ⟨j + 1, e', ?_, by simpa using h3, h4, .cons ⟨hk, hv0⟩ (by simpa using h5)⟩
            simp only [Instr.findNow, h1, h2]
            congr 3
            omega
          · exact .inr ⟨by simp [Instr.findNow, h1, h2], rfl⟩
        · cases h
      · cases h

theorem sim_mapUpdate {t : Nat} {m k v m' k' v' : Value} {H' : Heap} (h : mapUpdate T H t m k v = some H') (hm : V ρ m m') (hk : V ρ k k') (hv : V ρ v v') :
    ∃ w', (Instr.mapUpdate t m' k' v').run P w = .ok () w' ∧ Out w0 ρ H skipped H' skipped w' := by
  unfold mapUpdate at h
  split at h
  · rename_i kt et r hu
    split at h
    · rename_i d es hd hes
      cases hc : isKey d k with
      | false => simp [hc] at h
      | true =>
        simp only [hc, cond_true] at h
        have hke : k' = k := by
          cases d <;> cases k <;> first | (simp [isKey] at hc; done) | exact hk.int_inv | exact hk.string_inv | exact hk.bool_inv
        subst hke
        split at h
        · rename_i es' hu'
          cases h
          obtain ⟨lc, hl, rfl⟩ := hm.newMap_inv
          obtain ⟨en, clock, h1, h2⟩ := hr.blkOf hl hes lc hl
          have hlt : lc.r < w.heap.size := (hr.dom _ _ _ hl).2.2
          have hck : (Instr.checkKey false 10000 kt k').run P w = .ok () w := MapKept.run_checkKey (P := P) (w := w) (ok.und hd) (isKey_IsKey hc) false 9999
          have hg : (getObj lc.r).run P w = .ok (.map en clock) w := by simp [getObj, Sem.run, h1]
          have hs : ∀ o, (setObj lc.r o).run P w = .ok () { w with heap := w.heap.setIfInBounds lc.r o } := by intro o; simp [setObj, Sem.run, h1]
          have hup : ∀ (en2 : Array MapEntry) (clock2 : Nat), All2 (ER ρ) es' en2.toList → Out w0 ρ H skipped ⟨H.blks.put r (.map es'), H.next⟩ skipped { w with heap := w.heap.setIfInBounds lc.r (.map en2 clock2) } := by
            intro en2 clock2 he
            refine Out.put ⟨0, lc, hl⟩ (hr.upd (Ren.le_refl _) (fun _ _ _ => rfl) (fun _ _ => rfl) (fun v l hh => .inl ⟨v, l, hh, rfl⟩) ⟨0, lc, hl⟩ ?_ (by simp) ?_) (.tuple .nil)
            · intro r' hr1 hr2
              simp only
              rw [Array.getElem?_setIfInBounds]
              have := hr2 _ _ hl
              simp [this]
            · intro l2 hl2
              rw [hl] at hl2; cases hl2
              exact ⟨en2, clock2, by simp [hlt], he⟩
          rcases upd_sim hc hv 0 hu' h2 with ⟨j, e, f1, f2, f3, f4⟩ | ⟨f1, rfl⟩
          · have hf := MapKept.run_findKey (P := P) (w := w) (ok.und hd) f1
            refine ⟨_, ?_, hup (en.modify j fun e => { e with key := k', val := v' }) clock ?_⟩
            · have f2' : en[j]? = some e := by simpa using f2
              have hkeep : (Instr.keyThatStays k' k').run P w = .ok k' w := MapKept.run_keyThatStays (P := P) (w := w) (isKey_IsKey hc)
              simp only [Instr.mapUpdate, Sem.run_bind, ok.runUnd hu, Result.andThen_ok, hg, hck, hf, Nat.zero_add, f2', Option.map_some, Option.getD_some, f3, hkeep, hs]
            · have : (en.modify j fun e => { e with key := k', val := v' }).toList = en.toList.set j { e with val := v' } := by
                have f2' : en[j]? = some e := by simpa using f2
                apply List.ext_getElem?
                intro i
                rw [Array.getElem?_toList, Array.getElem?_modify, List.getElem?_set]
                have hj := (Array.getElem?_eq_some_iff.1 f2').1
                by_cases e1 : j = i
                · subst e1
                  simp [f2', hj, ← f3]
                  rw [(Array.getElem?_eq_some_iff.1 f2').2]
                · simp [e1]
              rw [this]
              exact f4
          · have hf := MapKept.run_findKey (P := P) (w := w) (ok.und hd) f1
            refine ⟨_, ?_, hup (en.push { key := k', val := v', born := clock }) (clock + 1) ?_⟩
            · simp only [Instr.mapUpdate, Sem.run_bind, ok.runUnd hu, Result.andThen_ok, hg, hck, hf, hs]
            · rw [Array.toList_push]
              exact h2.append (.cons ⟨rfl, hv⟩ .nil)
        · cases h
    · cases h
  · cases h

/-! ## append -/

omit hr ok in
theorem growBy_le (need : Nat) : ∀ (r c : Nat), c ≤ 2 * need + 512 → Builtin.growBy need r c ≤ 2 * need + 512
  | 0, c, h => h
  | r + 1, c, h => by
    simp only [Builtin.growBy]
    split
    · exact h
    · exact growBy_le need r _ (by omega)

omit hr ok in
theorem nextcap_le {need cap : Nat} (h : cap < need) : Builtin.nextslicecap need cap ≤ 2 * need + 512 := by
  unfold Builtin.nextslicecap
  split
  · omega
  · split
    · omega
    · exact growBy_le need 4 cap (by omega)

omit ok in
/-- what is appended, read -/
theorem sim_src {z : Nat} {x x' : Value} {n : Nat} {l : List Value} (h : src w0.cell? H z x = some (n, l)) (hx : V ρ x x') (hz : l.length = n * z) :
    (Builtin.lenOf x').run P w = .ok n w ∧ ∃ l', All2 (V ρ) l l' ∧ ∀ dr m, m ≤ n → (Builtin.firstCells z m x').run P { w with drawn := dr } = .ok (l'.take (m * z)).toArray { w with drawn := dr } := by
  unfold src at h
  split at h
  · cases h
    obtain rfl := hx.nilSlice_inv
    refine ⟨rfl, [], .nil, fun dr m hm => ?_⟩
    simp [Builtin.firstCells]
  · rename_i b off spot k cap
    split at h
    · rename_i l1 hl
      cases h
      have fin : ∀ b' off' c', AR ρ b off spot b' off' → ∃ l', All2 (V ρ) l l' ∧
          ∀ dr m, m ≤ n → (Builtin.firstCells z m (.slice (some ⟨b', off', none⟩) n c')).run P { w with drawn := dr } = .ok (l'.take (m * z)).toArray { w with drawn := dr } := by
        intro b' off' c' ha
        obtain ⟨l', h1, h2, h3, h4⟩ := rdN_run hr (P := P) hl ha
        refine ⟨l', h1, fun dr m hm => ?_⟩
        have hle : m * z ≤ n * z := Nat.mul_le_mul_right _ hm
        have e : (l'.take (m * z)).length = m * z := by simp; omega
        show (loadCells ⟨b', off', none⟩ (m * z)).run P { w with drawn := dr } = _
        conv => lhs; rw [← e]
        refine run_loadCells_list _ _ _ fun j v hj => ?_
        rw [List.getElem?_take] at hj
        split at hj
        · have := h4 j v hj
          by_cases h0 : j = 0
          · subst h0; simpa [Addr.add, World.cell?] using this
          · simpa [Addr.add, h0, World.cell?] using this
        · cases hj
      cases spot with
      | none =>
        obtain rfl := hx.oldSlice_inv
        obtain ⟨l', h1, h3⟩ := fin _ _ cap .old
        exact ⟨rfl, l', h1, h3⟩
      | some ver =>
        obtain ⟨lc, o', cap', hlc, hdd, ho, hss, hlen, hc, rfl⟩ := hx.newSlice_inv
        refine ⟨rfl, ?_⟩
        by_cases h0 : n = 0
        · subst h0
          have : l = [] := by
            simp at hz; exact hz
          subst this
          refine ⟨[], .nil, fun dr m hm => ?_⟩
          obtain rfl : m = 0 := by omega
          simp [Builtin.firstCells, loadCells, loadCellsFrom]
        · have : o' = off - lc.d := ho.resolve_right (by omega)
          subst this
          exact fin _ _ cap' (.new hlc hdd)
    · cases h
  · rename_i s
    cases h
    obtain rfl := hx.string_inv
    refine ⟨rfl, s.data.toList.map fun c => .int .u8 c.toNat, All2.refl _ (fun x hx => by obtain ⟨_, _, rfl⟩ := List.mem_map.1 hx; exact .flat rfl), fun dr m hm => ?_⟩
    simp only [Builtin.firstCells, Sem.run_pure]
    congr 1
    apply Array.ext'
    have hz1 : s.data.toList.length = 0 ∨ z = 1 := by
      simp only [List.length_map] at hz
      rcases Nat.eq_zero_or_pos s.data.toList.length with h | h
      · exact .inl h
      · right
        exact Nat.eq_of_mul_eq_mul_left h (by omega)
    rcases hz1 with h | rfl
    · have : s.data.toList = [] := List.length_eq_zero_iff.1 h
      simp [ByteArray.data_extract, this]
    · simp [ByteArray.data_extract, Array.toList_extract, List.extract, List.map_take]
  · cases h

omit hr ok in
theorem nonempty_take {α : Type} {l : List α} : l.take l.length = l := by simp

omit hr in
/-- the room behind a slice that grows, in the machine's new block -/
theorem grow_run {elem : Nat} {i : TypeInfo} {z : Value} (hi : T.info elem = some i) (hz : i.zero = some z) (hzs : z.cells.size = i.size) (hb : i.bytes ≤ 65536) {t u : Nat} {d : TypeDesc} (hu : T.und t = some (.slice elem)) (hd : T.und u = some d)
    (hnd : ∀ k, d ≠ .int k) {base : Option Addr} {len cap n : Nat} {x' : Value} {old new : List Value} (hfit : ¬ len + n ≤ cap) (hsmall : len + n ≤ 1073741824)
    (hlen : (Builtin.lenOf x').run P w = .ok n w)
    (hold : ∀ dr, (Builtin.firstCells i.size len (.slice base len cap)).run P { w with drawn := dr } = .ok old.toArray { w with drawn := dr }) (hnew : ∀ dr, (Builtin.firstCells i.size n x').run P { w with drawn := dr } = .ok new.toArray { w with drawn := dr })
    (hol : old.length = len * i.size) (hnl : new.length = n * i.size) (ts : Array TypeId) (hts : ts.toList = [t, u]) (ty : TypeId) :
    ∃ (cap' dr : Nat) (rest : Array Value), len + n ≤ cap' ∧ (old.toArray ++ new.toArray ++ rest).size = cap' * i.size ∧
      (Builtin.append_ ts ty #[.slice base len cap, x']).run P w = .ok (.slice (some ⟨w.heap.size, 0, none⟩) (len + n) cap') { w with drawn := dr, heap := w.heap.push (.cells (old.toArray ++ new.toArray ++ rest) elem) } := by
  have h0 : ts[0]? = some t := by have := congrArg (·[0]?) hts; simpa using this
  have h1 : ts[1]? = some u := by have := congrArg (·[1]?) hts; simpa using this
  have hn : T.size elem = some i.size := by simp [Tab.size, hi]
  have hzz : T.zero elem = some z := by simp [Tab.zero, hi, hz]
  have hq : (Question.appendCap (len + n) cap elem).forced = false := rfl
  generalize hcap : (Question.appendCap (len + n) cap elem).cut (w.tape w.drawn (.appendCap (len + n) cap elem)) = cap'
  have hcs : len + n ≤ cap' := by rw [← hcap]; simp [Question.cut]
  have hnz : (d matches .int _) = false := by
    cases d <;> first | rfl | exact absurd rfl (hnd _)
  have g1 : ¬ (((len + n : Nat) : Int) > IntKind.i64.max ∧ (False ∨ i.bytes = 0)) := by
    intro h
    have := h.1
    simp [IntKind.max, IntKind.signed, IntKind.bits] at this
    omega
  have g2 : ¬ (Builtin.nextslicecap (len + n) cap * i.bytes > 2 ^ 48) := by
    have a := nextcap_le (need := len + n) (cap := cap) (by omega)
    have b : Builtin.nextslicecap (len + n) cap * i.bytes ≤ (2 * 1073741824 + 512) * 65536 := Nat.mul_le_mul (by omega) hb
    generalize Builtin.nextslicecap (len + n) cap * i.bytes = q at b
    omega
  refine ⟨cap', w.drawn + 1, Builtin.zeroCells z.cells (cap' - (len + n)), hcs, ?_, ?_⟩
  · simp only [Array.size_append, List.size_toArray, Builtin.zeroCells, Array.size_map, Array.size_range, hzs, hol, hnl]
    rw [← Nat.add_mul, ← Nat.add_mul]
    congr 1
    omega
  · have hz0 : ∀ dr, (zeroValue elem).run P { w with drawn := dr } = .ok z { w with drawn := dr } := fun dr => ok.runZero hzz _
    simp only [Builtin.append_, h0, h1, Sem.run_bind, ok.runUnd hu, Result.andThen_ok, ok.runSize hn, ok.runUnd hd]
    have e0 : #[Value.slice base len cap, x'][0]? = some (Value.slice base len cap) := rfl
    have e1 : #[Value.slice base len cap, x'][1]? = some x' := rfl
    simp only [e0, e1, Sem.run_bind, ok.runUnd hu, Result.andThen_ok, ok.runSize hn, ok.runUnd hd, hnz, Sem.run_pure, Bool.false_eq_true, if_false, hlen, hfit, ok.runInfo hi, g1, g2, run_choose, hq, hcap, run_askRoom, hold, Bool.not_false, if_true, hnew, hz0, newRow, run_newObj]


omit hr ok in
theorem blt_false {a b : Nat} (h : Nat.blt a b = false) : b ≤ a := by
  rcases Nat.lt_or_ge a b with hh | hh
  · rw [Nat.blt_eq.mpr hh] at h; cases h
  · exact hh

omit hr ok in
theorem all_isCell {l : List Value} {l' : List Value} (h : l.all isCell = true) (hl : All2 (V ρ) l l') : ∀ v ∈ l', isCell v = true := by
  intro v hv
  obtain ⟨j, hj⟩ := List.getElem?_of_mem hv
  have hj1 : j < l'.length := (List.getElem?_eq_some_iff.1 hj).1
  have e := hl.length
  have : l[j]? = some (l[j]'(by omega)) := by simp
  obtain ⟨y, hy, hvy⟩ := hl.get this
  rw [hj] at hy; cases hy
  rw [hvy.isCell]
  exact List.all_eq_true.1 h _ (by simp)

omit hr ok in
theorem drew_eq (w : World) : ({ w with drawn := w.drawn } : World) = w := rfl

omit ok in
theorem HR.drew (dr : Nat) : HR w0 ρ H { w with drawn := dr } where
  old := hr.old
  big := hr.big
  io := hr.io
  dom := hr.dom
  inj := hr.inj
  blk := fun b v l hl => by
    obtain ⟨k, h1, h2⟩ := hr.blk b v l hl
    exact ⟨k, h1, h2.mono (Ren.le_refl _) (fun _ => rfl) rfl fun _ _ _ => rfl⟩

omit hr ok in
/-- fresh cells in the machine's new block, for a fresh block of the evaluator's -/
theorem newOk_grown {l l' : List Value} {rest : Array Value} {cap' esz dr elem len : Nat} (hl : All2 (V ρ) l l') (hs : (l'.toArray ++ rest).size = cap' * esz) (hlen : len ≤ cap') :
    NewOk T P ρ H w (.slice (some ⟨H.next, 0, some 0⟩) len unk) (.cells (Tr.fill l 0 .lf) l.length 0 none esz elem) (.slice (some ⟨w.heap.size, 0, none⟩) len cap')
      { w with drawn := dr, heap := w.heap.push (.cells (l'.toArray ++ rest) elem) } (cap' * esz) esz where
  same := fun r hr => push_old hr
  size := by simp
  val := fun id e _ => by subst e; exact ext_slice (Nat.le_refl _) hlen (.inl rfl)
  blk := fun id e hid => by
    refine br_cells hid hl (c := l'.toArray ++ rest) (fz := (0, 0)) (by simp) hs (by intro i _; simp) ?_
    intro i y hy
    have hi := (List.getElem?_eq_some_iff.1 hy).1
    rw [Array.getElem?_append_left (by simpa using hi)]
    simpa using hy

omit hr ok in
/-- a block that has grown, at its new version -/
def _root_.Go.Ev.Ren.set (ρ : Ren) (b v : Nat) (l : Loc) : Ren where
  loc := fun b' v' => if b' = b ∧ v' = v then some l else ρ.loc b' v'
  esz := ρ.esz
  sym := ρ.sym

omit hr ok in
theorem set_le {b v : Nat} {l : Loc} (h : ρ.loc b v = none) : ρ.le (ρ.set b v l) := by
  refine ⟨fun b' v' l' hl => ?_, rfl⟩
  have : ¬ (b' = b ∧ v' = v) := by rintro ⟨rfl, rfl⟩; rw [h] at hl; cases hl
  simp [Ren.set, this, hl]

theorem sim_append {t u : Nat} {d : TypeDesc} {s x s' x' v : Value} {H' : Heap} (hd : T.und u = some d) (hnd : ∀ k, d ≠ .int k) (h : append T w0.cell? H t s x = some (v, H')) (hs : V ρ s s') (hx : V ρ x x')
    (ts : Array TypeId) (hts : ts.toList = [t, u]) (ty : TypeId) : ∃ v' w', (Builtin.append_ ts ty #[s', x']).run P w = .ok v' w' ∧ Out w0 ρ H v H' v' w' := by
  have h0 : ts[0]? = some t := by have := congrArg (·[0]?) hts; simpa using this
  have h1 : ts[1]? = some u := by have := congrArg (·[1]?) hts; simpa using this
  have hnz : (d matches .int _) = false := by
    cases d <;> first | rfl | exact absurd rfl (hnd _)
  unfold append at h
  split at h
  · rename_i elem hu
    split at h
    · cases h
    · rename_i i hi
      have hn : T.size elem = some i.size := by simp [Tab.size, hi]
      split at h
      · cases h
      · rename_i n new hsrc
        cases hc : (!(new.all isCell) || !(Nat.ble 1 i.size) || Nat.blt 65536 i.bytes || !(zeroOk i) || !(Nat.beq new.length (n * i.size))) with
        | true => simp only [hc, cond_true] at h; cases h
        | false =>
          simp only [hc, cond_false] at h
          simp only [Bool.or_eq_false_iff, Bool.not_eq_false'] at hc
          obtain ⟨⟨⟨⟨c1, c2⟩, c3⟩, c4⟩, c5⟩ := hc
          have c2 := Nat.le_of_ble_eq_true c2
          have c3 : i.bytes ≤ 65536 := blt_false c3
          have c5 := Nat.eq_of_beq_eq_true c5
          obtain ⟨z, hz, hzs⟩ : ∃ z, i.zero = some z ∧ z.cells.size = i.size := by
            unfold zeroOk at c4
            cases hzz : i.zero with
            | none => simp [hzz] at c4
            | some z => simp only [hzz] at c4; exact ⟨z, rfl, Nat.eq_of_beq_eq_true c4⟩
          obtain ⟨hlenx, new', hnew, hfirst⟩ := sim_src hr (P := P) hsrc hx c5
          have hnl : new'.length = n * i.size := by rw [← hnew.length]; exact c5
          have hfull : ∀ dr, (Builtin.firstCells i.size n x').run P { w with drawn := dr } = .ok new'.toArray { w with drawn := dr } := by
            intro dr
            rw [hfirst dr n (Nat.le_refl _), ← hnl, nonempty_take]
          have hfull0 : (Builtin.firstCells i.size n x').run P w = .ok new'.toArray w := hfull w.drawn
          -- nothing is appended
          have none_run : ∀ (base : Option Addr) (len cap' : Nat), len ≤ cap' → n = 0 → (Builtin.append_ ts ty #[.slice base len cap', x']).run P w = .ok (.slice base len cap') w := by
            intro base len cap' hle hn0
            subst hn0
            have : new' = [] := List.length_eq_zero_iff.1 (by simpa using hnl)
            subst this
            have e0 : #[Value.slice base len cap', x'][0]? = some (Value.slice base len cap') := rfl
            have e1 : #[Value.slice base len cap', x'][1]? = some x' := rfl
            simp only [Builtin.append_, h0, h1, e0, e1, Sem.run_bind, ok.runUnd hu, Result.andThen_ok, ok.runSize hn, ok.runUnd hd, hnz, Sem.run_pure, Bool.false_eq_true, if_false, hlenx, Nat.add_zero, hle, if_true, Bool.not_false, hfull0]
            cases base <;> simp [storeCells]
          split at h
          · -- a nil slice
            obtain rfl := hs.nilSlice_inv
            cases hn0 : Nat.beq n 0 with
            | true =>
              simp only [hn0, cond_true] at h
              cases h
              exact ⟨_, _, none_run none 0 0 (Nat.le_refl _) (Nat.eq_of_beq_eq_true hn0), Out.same hr (.flat rfl)⟩
            | false =>
              simp only [hn0, cond_false] at h
              have hn1 : n ≠ 0 := Nat.ne_of_beq_eq_false hn0
              cases hle : Nat.ble n 1073741824 with
              | false => simp [hle] at h
              | true =>
                simp only [hle, cond_true] at h
                cases h
                have hle := Nat.le_of_ble_eq_true hle
                obtain ⟨cap', dr, rest, g1, g2, g3⟩ := grow_run ok (w := w) hi hz hzs c3 hu hd hnd (base := none) (len := 0) (cap := 0) (n := n) (x' := x') (old := []) (new := new') (by omega) (by omega) hlenx (fun dr => by simp [Builtin.firstCells]) hfull (by simp) hnl ts hts ty
                simp only [Nat.zero_add] at g1 g3
                refine ⟨_, _, g3, ?_⟩
                have g2' : (new'.toArray ++ rest).size = cap' * i.size := by simpa using g2
                have := hr.new (newOk_grown (T := T) (P := P) (ρ := ρ) (H := H) (w := w) (dr := dr) (elem := elem) (len := n) hnew g2' g1)
                simpa [Heap.newCells] using this
          · rename_i b off spot len cap
            cases hn0 : Nat.beq n 0 with
            | true =>
              simp only [hn0, cond_true] at h
              have hn1 := Nat.eq_of_beq_eq_true hn0
              cases hg : (spot.isSome || Nat.ble len cap) with
              | false => simp [hg] at h
              | true =>
                simp only [hg, cond_true] at h
                cases h
                cases spot with
                | none =>
                  obtain rfl := hs.oldSlice_inv
                  simp only [Option.isSome_none, Bool.false_or] at hg
                  exact ⟨_, _, none_run _ len cap (Nat.le_of_ble_eq_true hg) hn1, Out.same hr hs⟩
                | some ver =>
                  obtain ⟨lc, o', cap', hlc, hdd, ho, hss, hlen, hcc, rfl⟩ := hs.newSlice_inv
                  exact ⟨_, _, none_run _ len cap' hlen hn1, Out.same hr hs⟩
            | false =>
              simp only [hn0, cond_false] at h
              have hn1 : n ≠ 0 := Nat.ne_of_beq_eq_false hn0
              cases hbig : Nat.blt 1073741824 (len + n) with
              | true => simp [hbig] at h
              | false =>
                simp only [hbig, cond_false] at h
                have hbig : len + n ≤ 1073741824 := blt_false hbig
                cases hun : Nat.beq cap unk with
                | true =>
                  obtain rfl := Nat.eq_of_beq_eq_true hun
                  simp only [hun, cond_true] at h
                  split at h
                  · rename_i ver cs m v0 prev esz ty0 hk
                    cases hcnd : (Nat.beq ver v0 && Nat.beq esz i.size && Nat.beq ty0 elem && Nat.beq (off + len * i.size) m) with
                    | false => simp [hcnd] at h
                    | true =>
                      simp only [hcnd, cond_true] at h
                      cases h
                      simp only [Bool.and_eq_true] at hcnd
                      obtain ⟨⟨⟨k1, k2⟩, k3⟩, k4⟩ := hcnd
                      obtain rfl := Nat.eq_of_beq_eq_true k1
                      obtain rfl := Nat.eq_of_beq_eq_true k2
                      obtain rfl := Nat.eq_of_beq_eq_true k3
                      have k4 := Nat.eq_of_beq_eq_true k4
                      obtain ⟨lc, o', cap', hlc, hdd, ho, hss, hlen, hcc, rfl⟩ := hs.newSlice_inv
                      obtain ⟨b1, b2, b3, b4, b5⟩ := hr.blkOf hlc hk
                      obtain ⟨c, fz, e1, e2, e3, e4, e5⟩ := b4 lc hlc
                      rw [b1] at hss
                      have hlt : lc.r < w.heap.size := (hr.dom _ _ _ hlc).2.2
                      have hnone : ρ.loc b (ver + 1) = none := b3 _ (by omega)
                      have hlenn := hnew.length
                      have hget : ∀ j, (Tr.fill new m cs).get j = if m ≤ j ∧ j < m + new.length then new[j - m]? else cs.get j := fun j => Tr.get_fill new m cs j
                      have hltm : ∀ j y, (Tr.fill new m cs).get j = some y → j < m + new.length := by
                        intro j y hy
                        rw [hget] at hy
                        split at hy
                        · rename_i q; exact q.2
                        · have := b2 _ _ hy; omega
                      by_cases hfit : len + n ≤ cap'
                      · -- in its place
                        have ho : o' = off - lc.d := ho.resolve_right (by omega)
                        subst ho
                        have hmul : len * i.size + n * i.size ≤ cap' * i.size := by rw [← Nat.add_mul]; exact Nat.mul_le_mul_right _ hfit
                        have hb : ∀ j, j < new'.length → m - lc.d + 0 + j < c.size := by intro j hj; omega
                        have hrun := run_storeCells (P := P) (off := m - lc.d) new' 0 c w e1 e3 hb (all_isCell c1 hnew)
                        have hadd : (⟨lc.r, off - lc.d, none⟩ : Addr).add (len * i.size) = ⟨lc.r, m - lc.d, none⟩ := by
                          by_cases q : len * i.size = 0
                          · simp [Addr.add, q]; omega
                          · simp [Addr.add, q]; omega
                        have e0' : ∀ A, #[Value.slice A len cap', x'][0]? = some (Value.slice A len cap') := fun _ => rfl
                        have e1' : ∀ A, #[Value.slice A len cap', x'][1]? = some x' := fun _ => rfl
                        refine ⟨.slice (some ⟨lc.r, off - lc.d, none⟩) (len + n) cap', { w with heap := w.heap.setIfInBounds lc.r (.cells (wrA c (m - lc.d + 0) new') ty0 fz) }, ?_, ?_⟩
                        rotate_left
                        · refine ⟨ρ.set b (ver + 1) lc, set_le hnone, hr.upd (w' := { w with heap := w.heap.setIfInBounds lc.r (.cells (wrA c (m - lc.d + 0) new') ty0 fz) }) (set_le hnone) (fun b' hb' v => by simp [Ren.set, hb']) (fun _ _ => rfl) ?_ ⟨ver, lc, hlc⟩ ?_ (by simp) ?_, ?_, ?_, ?_, Nat.le_refl _⟩
                          · intro v l hh
                            simp only [Ren.set] at hh
                            split at hh
                            · cases hh; exact .inl ⟨ver, _, hlc, rfl⟩
                            · exact .inl ⟨v, l, hh, rfl⟩
                          · intro r q1 q2
                            simp only
                            rw [Array.getElem?_setIfInBounds]
                            have := q2 _ _ hlc
                            simp [this]
                          · refine ⟨b1, hltm, fun v hv => ?_, fun l2 hl2 => ?_, fun pn hp v l2 hv hl2 => ?_⟩
                            · have q1 : ¬ v = ver + 1 := by omega
                              simp [Ren.set, q1]
                              exact b3 _ (by omega)
                            · simp [Ren.set] at hl2
                              subst hl2
                              refine ⟨wrA c (m - lc.d + 0) new', fz, by simp [hlt], by rw [size_wrA]; exact e2, by rw [size_wrA]; exact e3, by omega, fun j y q1 q2 hy => ?_⟩
                              rw [hget] at hy
                              rw [get_wrA _ _ _ _ hb]
                              split at hy
                              · obtain ⟨y', hy', hv⟩ := hnew.get hy
                                refine ⟨y', ?_, hv.mono (set_le hnone)⟩
                                rw [if_pos (by omega), ← hy']
                                exact congrArg (fun q : Nat => new'[q]?) (by omega)
                              · obtain ⟨y', hy', hv⟩ := e5 j y q1 (b2 _ _ hy) hy
                                refine ⟨y', ?_, hv.mono (set_le hnone)⟩
                                have := b2 _ _ hy
                                rw [if_neg (by omega)]
                                exact hy'
                            · cases hp
                              have : v = ver := by omega
                              subst this
                              simp [Ren.set] at hl2
                              rw [hlc] at hl2; cases hl2
                              refine ⟨by omega, wrA c (m - lc.d + 0) new', fz, by simp [hlt], by rw [size_wrA]; exact e2, by rw [size_wrA]; exact e3, e4, fun j y q1 q2 hy => ?_⟩
                              rw [hget, if_neg (by omega)] at hy
                              obtain ⟨y', hy', hv⟩ := e5 j y q1 q2 hy
                              refine ⟨y', ?_, hv.mono (set_le hnone)⟩
                              rw [get_wrA _ _ _ _ hb, if_neg (by omega)]
                              exact hy'
                          · exact .fr (.slice (l := lc) (by simp [Ren.set]) hdd (.inl rfl) (by simp only [Ren.set, b1]; omega) hfit (.inl rfl))
                          · rintro b' hb' ⟨v, l, hh⟩
                            simp only [Ren.set] at hh
                            split at hh
                            · rename_i q; rw [q.1]; exact ⟨ver, lc, hlc⟩
                            · exact ⟨v, l, hh⟩
                          · intro b' hb' hn'
                            exact Tr.get_put_ne _ _ fun q => hn' (q ▸ ⟨ver, lc, hlc⟩)
                        · simp only [Builtin.append_, h0, h1, e0', e1', Sem.run_bind, ok.runUnd hu, Result.andThen_ok, ok.runSize hn, ok.runUnd hd, hnz, Sem.run_pure, Bool.false_eq_true, if_false, hlenx, hfit, if_true, Bool.not_false, hfull0, hadd, hrun]
                      · -- in a new block of the machine's
                        have hold : ∃ old' : List Value, old'.length = len * i.size ∧ (∀ j y, old'[j]? = some y → c[off - lc.d + j]? = some y) ∧ (∀ j, j < len * i.size → old'[j]? = c[off - lc.d + j]?) ∧
                            ∀ dr, (Builtin.firstCells i.size len (.slice (some ⟨lc.r, o', none⟩) len cap')).run P { w with drawn := dr } = .ok old'.toArray { w with drawn := dr } := by
                          let old' : List Value := (c.toList.drop (off - lc.d)).take (len * i.size)
                          have hol : old'.length = len * i.size := by
                            simp only [old', List.length_take, List.length_drop, Array.length_toList]
                            omega
                          have hg : ∀ j, j < len * i.size → old'[j]? = c[off - lc.d + j]? := by
                            intro j hj
                            simp only [old', List.getElem?_take, hj, if_true, List.getElem?_drop, Array.getElem?_toList]
                          refine ⟨old', hol, fun j y hy => ?_, hg, fun dr => ?_⟩
                          · have hj := (List.getElem?_eq_some_iff.1 hy).1
                            rw [← hg j (by omega)]
                            exact hy
                          · by_cases hl0 : len = 0
                            · subst hl0
                              have : old' = [] := List.length_eq_zero_iff.1 (by omega)
                              simp [Builtin.firstCells, loadCells, loadCellsFrom, this]
                            · have ho : o' = off - lc.d := ho.resolve_right (by omega)
                              subst ho
                              show (loadCells ⟨lc.r, off - lc.d, none⟩ (len * i.size)).run P { w with drawn := dr } = _
                              rw [← hol]
                              refine run_loadCells_list _ _ _ fun j v hj => ?_
                              have hj1 := (List.getElem?_eq_some_iff.1 hj).1
                              rw [hg j (by omega)] at hj
                              have := cell_of e1 hj
                              by_cases q : j = 0
                              · subst q; simpa [Addr.add, World.cell?] using this
                              · simpa [Addr.add, q, World.cell?] using this
                        obtain ⟨old', o1, o2, o3, o4⟩ := hold
                        obtain ⟨cap2, dr, rest, g1, g2, g3⟩ := grow_run ok (w := w) hi hz hzs c3 hu hd hnd (base := some ⟨lc.r, o', none⟩) (len := len) (cap := cap') (n := n) (x' := x') (old := old') (new := new') hfit hbig hlenx o4 hfull o1 hnl ts hts ty
                        have hmul : len * i.size + n * i.size ≤ cap2 * i.size := by rw [← Nat.add_mul]; exact Nat.mul_le_mul_right _ g1
                        refine ⟨_, _, g3, ?_⟩
                        refine ⟨ρ.set b (ver + 1) ⟨w.heap.size, off, cap2 * i.size⟩, set_le hnone, hr.upd (set_le hnone) (fun b' hb' v => by simp [Ren.set, hb']) (fun _ _ => rfl) ?_ ⟨ver, lc, hlc⟩ ?_ (by simp) ?_, ?_, ?_, ?_, Nat.le_refl _⟩
                        · intro v l hh
                          simp only [Ren.set] at hh
                          split at hh
                          · cases hh; exact .inr ⟨rfl, by simp⟩
                          · exact .inl ⟨v, l, hh, rfl⟩
                        · intro r q1 q2
                          exact push_old q1
                        · refine ⟨b1, hltm, fun v hv => ?_, fun l2 hl2 => ?_, fun pn hp v l2 hv hl2 => ?_⟩
                          · have q1 : ¬ v = ver + 1 := by omega
                            simp [Ren.set, q1]
                            exact b3 _ (by omega)
                          · simp [Ren.set] at hl2
                            subst hl2
                            refine ⟨old'.toArray ++ new'.toArray ++ rest, (0, 0), by simp, g2, by intro j _; simp, by simp only; omega, fun j y q1 q2 hy => ?_⟩
                            simp only at q1
                            rw [hget] at hy
                            split at hy
                            · obtain ⟨y', hy', hv⟩ := hnew.get hy
                              have hjm := (List.getElem?_eq_some_iff.1 hy').1
                              refine ⟨y', ?_, hv.mono (set_le hnone)⟩
                              rw [Array.getElem?_append_left (by simp; omega), Array.getElem?_append_right (by simp; omega)]
                              simp only [List.size_toArray, List.getElem?_toArray]
                              rw [← hy']
                              exact congrArg (fun q : Nat => new'[q]?) (by omega)
                            · have hjm := b2 _ _ hy
                              obtain ⟨y', hy', hv⟩ := e5 j y (by omega) hjm hy
                              refine ⟨y', ?_, hv.mono (set_le hnone)⟩
                              rw [Array.getElem?_append_left (by simp; omega), Array.getElem?_append_left (by simp; omega)]
                              simp only [List.getElem?_toArray]
                              rw [o3 _ (by omega), ← hy']
                              exact congrArg (fun q : Nat => c[q]?) (by omega)
                          · cases hp
                            have : v = ver := by omega
                            subst this
                            simp [Ren.set] at hl2
                            rw [hlc] at hl2; cases hl2
                            refine ⟨by omega, c, fz, by rw [push_old hlt]; exact e1, e2, e3, e4, fun j y q1 q2 hy => ?_⟩
                            rw [hget, if_neg (by omega)] at hy
                            obtain ⟨y', hy', hv⟩ := e5 j y q1 q2 hy
                            exact ⟨y', hy', hv.mono (set_le hnone)⟩
                        · exact .fr (.slice (l := ⟨w.heap.size, off, cap2 * i.size⟩) (by simp [Ren.set]) (Nat.le_refl _) (.inl (by simp)) (by simp only [Ren.set, b1]; omega) g1 (.inl rfl))
                        · rintro b' hb' ⟨v, l, hh⟩
                          simp only [Ren.set] at hh
                          split at hh
                          · rename_i q; rw [q.1]; exact ⟨ver, lc, hlc⟩
                          · exact ⟨v, l, hh⟩
                        · intro b' hb' hn'
                          exact Tr.get_put_ne _ _ fun q => hn' (q ▸ ⟨ver, lc, hlc⟩)
                  · cases h
                | false =>
                  simp only [hun, cond_false] at h
                  cases hfit : Nat.ble (len + n) cap with
                  | true => simp [hfit] at h
                  | false =>
                    simp only [hfit, cond_false] at h
                    have hfit : ¬ len + n ≤ cap := by
                      intro hh
                      rw [Nat.ble_eq_true_of_le hh] at hfit
                      cases hfit
                    split at h
                    · rename_i old hold
                      cases h
                      have fin : ∀ (a : Addr) (c' : Nat), ¬ len + n ≤ c' → (∃ old', All2 (V ρ) old old' ∧ old'.length = len * i.size ∧ ∀ dr, (Builtin.firstCells i.size len (.slice (some a) len c')).run P { w with drawn := dr } = .ok old'.toArray { w with drawn := dr }) →
                          ∃ v' w', (Builtin.append_ ts ty #[.slice (some a) len c', x']).run P w = .ok v' w' ∧ Out w0 ρ H (.slice (some ⟨H.next, 0, some 0⟩) (len + n) unk) (H.newCells (old ++ new) i.size elem) v' w' := by
                        rintro a c' hfit' ⟨old', o1, o2, o3⟩
                        obtain ⟨cap', dr, rest, g1, g2, g3⟩ := grow_run ok (w := w) hi hz hzs c3 hu hd hnd (base := some a) (len := len) (cap := c') (n := n) (x' := x') (old := old') (new := new') hfit' hbig hlenx o3 hfull o2 hnl ts hts ty
                        refine ⟨_, _, g3, ?_⟩
                        have e : old'.toArray ++ new'.toArray = (old' ++ new').toArray := by simp
                        rw [e] at g2 ⊢
                        exact hr.new (newOk_grown (T := T) (P := P) (ρ := ρ) (H := H) (w := w) (dr := dr) (elem := elem) (len := len + n) (o1.append hnew) g2 g1)
                      cases spot with
                      | none =>
                        obtain rfl := hs.oldSlice_inv
                        refine fin _ cap hfit ?_
                        obtain ⟨l', q1, q2, q3, q4⟩ := rdN_run hr (P := P) hold .old
                        refine ⟨l', q1, q2, fun dr => ?_⟩
                        show (loadCells ⟨b, off, none⟩ (len * i.size)).run P { w with drawn := dr } = _
                        rw [← q2]
                        refine run_loadCells_list _ _ _ fun j v hj => ?_
                        have := q4 j v hj
                        by_cases e0 : j = 0
                        · subst e0; simpa [Addr.add, World.cell?] using this
                        · simpa [Addr.add, e0, World.cell?] using this
                      | some ver =>
                        obtain ⟨lc, o', cap', hlc, hdd, ho, hss, hlen, hcc, rfl⟩ := hs.newSlice_inv
                        have hcc : cap = cap' := hcc.resolve_left (by rintro rfl; simp at hun)
                        subst hcc
                        refine fin _ cap hfit ?_
                        by_cases hl0 : len = 0
                        · subst hl0
                          have : old = [] := by simpa [rdN] using hold.symm
                          subst this
                          exact ⟨[], .nil, by simp, fun dr => by simp [Builtin.firstCells, loadCells, loadCellsFrom]⟩
                        · have : o' = off - lc.d := ho.resolve_right (by omega)
                          subst this
                          obtain ⟨l', q1, q2, q3, q4⟩ := rdN_run hr (P := P) hold (.new hlc hdd)
                          refine ⟨l', q1, q2, fun dr => ?_⟩
                          show (loadCells ⟨lc.r, off - lc.d, none⟩ (len * i.size)).run P { w with drawn := dr } = _
                          rw [← q2]
                          refine run_loadCells_list _ _ _ fun j v hj => ?_
                          have := q4 j v hj
                          by_cases e0 : j = 0
                          · subst e0; simpa [Addr.add, World.cell?] using this
                          · simpa [Addr.add, e0, World.cell?] using this
                    · cases h
          · cases h
  · cases h
end
end Go.Ev
