/-
  The operations that write: copy, clear, a text out of bytes; 'simW': all of them but calls.
-/
import Derived.Test.YtmmojhbboomgoaaGreatEvSimX
namespace Go.Ev
set_option linter.unusedSimpArgs false
set_option linter.unusedVariables false

section
variable {w0 : World} {ρ : Ren} {H : Heap} {w : World} (hr : HR w0 ρ H w) {T : Tab} {P : Program} (ok : T.Ok P)
include hr ok

theorem sim_copy {t : Nat} {a s a' s' v : Value} {H' : Heap} {l0 : List TypeId} (h : copyV T w0.cell? H t a s = some (v, H')) (ha : V ρ a a') (hs : V ρ s s') (ts : Array TypeId) (hts : ts.toList = t :: l0) (ty : TypeId) :
    ∃ v' w', (Builtin.copy_ ts ty #[a', s']).run P w = .ok v' w' ∧ Out w0 ρ H v H' v' w' := by
  have h0 : ts[0]? = some t := by have := congrArg (·[0]?) hts; simpa using this
  have q0 : #[a', s'][0]? = some a' := rfl
  have q1 : #[a', s'][1]? = some s' := rfl
  unfold copyV at h
  split at h
  · rename_i elem hu
    split at h
    · rename_i z hz
      split at h
      · rename_i n l hsrc
        cases hc : Nat.beq l.length (n * z) with
        | false => simp [hc] at h
        | true =>
          simp only [hc, cond_true] at h
          cases h
          obtain ⟨hl, l', hl', hf⟩ := sim_src hr (P := P) hsrc hs (Nat.eq_of_beq_eq_true hc)
          obtain rfl := ha.nilSlice_inv
          have hf0 : (Builtin.firstCells z 0 s').run P w = .ok (l'.take (0 * z)).toArray w := hf w.drawn 0 (Nat.zero_le _)
          refine ⟨.int .i64 0, w, ?_, Out.same hr (.flat rfl)⟩
          simp only [Builtin.copy_, h0, q0, q1, Sem.run_bind, ok.runUnd hu, Result.andThen_ok, hl, ok.runSize hz, show Nat.min n 0 = 0 from Nat.min_zero n, hf0, Sem.run_pure]
          rfl
      · cases h
    · rename_i z b off ver len cap hz
      split at h
      · rename_i n l hsrc
        split at h
        · rename_i cs m v0 prev esz ty0 hk
          cases hc : (Nat.beq ver v0 && Nat.beq l.length (n * z)) with
          | false => simp [hc] at h
          | true =>
            simp only [hc, cond_true] at h
            simp only [Bool.and_eq_true] at hc
            obtain rfl := Nat.eq_of_beq_eq_true hc.1
            split at h
            · rename_i cs' hwr
              cases h
              obtain ⟨hl, l', hl', hf⟩ := sim_src hr (P := P) hsrc hs (Nat.eq_of_beq_eq_true hc.2)
              obtain ⟨lc, o', cap', hlc, hdd, ho, hss, hlen, hcc, rfl⟩ := ha.newSlice_inv
              have hf0 : (Builtin.firstCells z (min n len) s').run P w = .ok (l'.take (min n len * z)).toArray w := hf w.drawn _ (Nat.min_le_left _ _)
              obtain ⟨w', h1, h2⟩ := sim_write hr (P := P) hlc hk hdd hwr (hl'.take _)
              have hst : (storeCells ⟨lc.r, o', none⟩ (l'.take (min n len * z))).run P w = .ok () w' := by
                rcases ho with rfl | ⟨rfl, _⟩
                · exact h1
                · simp only [Nat.min_zero, Nat.zero_mul, List.take_zero] at h1 ⊢
                  exact h1
              refine ⟨.int .i64 (min n len : Nat), w', ?_, Out.put ⟨ver, lc, hlc⟩ h2 (.flat rfl)⟩
              simp only [Builtin.copy_, h0, q0, q1, Sem.run_bind, ok.runUnd hu, Result.andThen_ok, hl, ok.runSize hz, show Nat.min n len = min n len from rfl, hf0, hst, Sem.run_pure]
              rfl
            · cases h
        · cases h
      · cases h
    · cases h
  · cases h

theorem sim_clear {t : Nat} {x x' : Value} {H' : Heap} {l0 : List TypeId} (h : clearV T H t x = some H') (hx : V ρ x x') (ts : Array TypeId) (hts : ts.toList = t :: l0) (ty : TypeId) :
    ∃ w', (Builtin.clear_ ts ty #[x']).run P w = .ok skipped w' ∧ Out w0 ρ H skipped H' skipped w' := by
  have h0 : ts[0]? = some t := by have := congrArg (·[0]?) hts; simpa using this
  have q0 : #[x'][0]? = some x' := rfl
  unfold clearV at h
  split at h
  · rename_i elem hu
    split at h
    · cases h
      obtain rfl := hx.nilSlice_inv
      refine ⟨w, ?_, Out.same hr (.tuple .nil)⟩
      simp only [Builtin.clear_, h0, q0, Sem.run_bind, ok.runUnd hu, Result.andThen_ok, Sem.run_pure]
      rfl
    · rename_i z zv b off ver len cap hz hzv
      split at h
      · rename_i cs m v0 prev esz ty0 hk
        cases hc : (Nat.beq ver v0 && closedC zv && Nat.beq zv.cells.size z && Nat.ble 1 z) with
        | false => simp [hc] at h
        | true =>
          simp only [hc, cond_true] at h
          simp only [Bool.and_eq_true] at hc
          obtain ⟨⟨⟨c1, c2⟩, c3⟩, c4⟩ := hc
          obtain rfl := Nat.eq_of_beq_eq_true c1
          have c3 := Nat.eq_of_beq_eq_true c3
          have c4 := Nat.le_of_ble_eq_true c4
          split at h
          · rename_i cs' hwr
            cases h
            obtain ⟨lc, o', cap', hlc, hdd, ho, hss, hlen, hcc, rfl⟩ := hx.newSlice_inv
            have hrefl : All2 (V ρ) (reps zv.cells.toList len) (reps zv.cells.toList len) := by
              have : ∀ n, All2 (V ρ) (reps zv.cells.toList n) (reps zv.cells.toList n) := by
                intro n
                induction n with
                | zero => exact .nil
                | succ n ih => exact (V.closed c2 : V ρ zv zv).cells.append ih
              exact this len
            obtain ⟨w', h1, h2⟩ := sim_write hr (P := P) hlc hk hdd hwr hrefl
            have hzc : (Builtin.zeroCells zv.cells len).toList = reps zv.cells.toList len := range_reps zv.cells len (by omega)
            by_cases hl0 : len = 0
            · subst hl0
              have hw : w' = w := by
                simp only [reps, storeCells, Sem.run_pure] at h1
                injection h1 with _ h1
                exact h1.symm
              subst hw
              refine ⟨w', ?_, Out.put ⟨ver, lc, hlc⟩ h2 (.tuple .nil)⟩
              simp only [Builtin.clear_, h0, q0, Sem.run_bind, ok.runUnd hu, Result.andThen_ok, Sem.run_pure]
              rfl
            · have ho : o' = off - lc.d := ho.resolve_right (by omega)
              subst ho
              refine ⟨w', ?_, Out.put ⟨ver, lc, hlc⟩ h2 (.tuple .nil)⟩
              obtain ⟨len, rfl⟩ : ∃ k, len = k + 1 := ⟨len - 1, by omega⟩
              simp only [Builtin.clear_, h0, q0, Sem.run_bind, ok.runUnd hu, Result.andThen_ok, Sem.run_pure, ok.runZero hzv, hzc, h1]
              rfl
          · cases h
      · cases h
    · cases h
  · cases h

omit hr ok in
theorem run_loadBytes {r : Nat} : ∀ (ns : List Int) (off : Nat) (acc : ByteArray), (∀ (j : Nat) (v : Value), (ns.map (Value.int .u8))[j]? = some v → w.cell? ⟨r, off + j, none⟩ = some v) →
    (loadBytes ⟨r, off, none⟩ acc ns.length).run P w = .ok (ns.foldl (fun r n => r.push (n.toNat.toUInt8)) acc) w
  | [], off, acc, h => by simp [loadBytes]
  | n :: ns, off, acc, h => by
    have h0 := h 0 (.int .u8 n) (by simp)
    simp only [Nat.add_zero] at h0
    simp only [List.length_cons, loadBytes, Sem.run_bind, run_load, h0, Result.andThen_ok]
    have : (⟨r, off, none⟩ : Addr).add 1 = ⟨r, off + 1, none⟩ := by simp [Addr.add]
    rw [this, run_loadBytes ns (off + 1) _ (fun j v hj => by
      have := h (j + 1) v (by simpa using hj)
      rwa [show off + 1 + j = off + (j + 1) by omega])]
    rfl

theorem sim_textOf {pt : Nat} {p n p' n' v : Value} {H' : Heap} {l0 : List TypeId} (h : textOf T w0.cell? H pt p n = some (v, H')) (hp : V ρ p p') (hn : V ρ n n') (ts : Array TypeId) (hts : ts.toList = pt :: l0) (ty : TypeId) :
    ∃ w', (Builtin.unsafeString_ ts ty #[p', n']).run P w = .ok v w' ∧ Out w0 ρ H v H' v w' := by
  have h0 : ts[0]? = some pt := by have := congrArg (·[0]?) hts; simpa using this
  have shape : ∀ (po : Option Addr) (nv : Value), Builtin.unsafeString_ ts ty #[.pointer po, nv] = (do
      let n ← asInt nv
      let some pt := ts[0]? | stuck "unsafe.String: no argument types"
      if n < 0 then runtimePanic (.error "unsafe.String: len out of range")
      if n > IntKind.i64.max then unsupported (.unsafePointer "String: a length above the largest int")
      match po with
      | none => if n = 0 then pure (.string .empty) else runtimePanic (.error "unsafe.String: ptr is nil and len is not zero")
      | some a =>
        if n = 0 then pure (.string .empty)
        else if ← variablesAt a (← elemOf pt) n.toNat then do
          let s ← loadBytes a .empty n.toNat
          freeze a n.toNat
          pure (.string s)
        else unsupported (.unsafePointer "String: not so many bytes at ptr") : Sem Value) := fun _ _ => rfl
  unfold textOf at h
  split at h
  · rename_i e k hu
    cases h
    obtain rfl := hp.nilPtr_inv
    obtain rfl := hn.int_inv
    refine ⟨w, ?_, Out.same hr (.flat rfl)⟩
    rw [shape]
    simp only [h0, Sem.run_bind, asInt, asIntOf, Sem.run_pure, Result.andThen_ok]
    rfl
  · rename_i e b ver k hu
    obtain rfl := hn.int_inv
    split at h
    · rename_i cs m v0 prev esz ty0 he hes hk
      split at h
      · rename_i hc
        obtain ⟨c1, c2, c3, rfl, rfl⟩ := hc
        split at h
        · rename_i l hl
          split at h
          · rename_i r hb
            cases h
            obtain ⟨lc, hlc, hdd, rfl⟩ := hp.newPtr_inv
            obtain ⟨b1, b2, b3, b4, b5⟩ := hr.blkOf hlc hk
            obtain ⟨c, fz, e1, e2, e3, e4, e5⟩ := b4 lc hlc
            have hd0 : lc.d = 0 := by omega
            obtain ⟨l', q1, q2, q3⟩ := rdN_sim hr hl (.new hlc hdd)
            obtain ⟨ns, rfl, rfl⟩ := bytesOf_inv hb
            have hl'e := ints_same q1
            subst hl'e
            have hlen : ns.length = k.toNat := by simpa using q2
            have hlt : lc.r < w.heap.size := (hr.dom _ _ _ hlc).2.2
            have hloads := run_loadBytes (P := P) (w := w) (r := lc.r) ns (0 - lc.d) .empty q3
            rw [hlen] at hloads
            have hfold : ns.foldl (fun r (n : Int) => r.push (n.toNat.toUInt8)) ByteArray.empty = ⟨⟨ns.map fun n => UInt8.ofNat n.toNat⟩⟩ := by
              have := foldl_push ns ByteArray.empty
              simpa using this
            rw [hfold] at hloads
            have hce := ok.cellsOf hes
            have hva : (variablesAt ⟨lc.r, 0 - lc.d, none⟩ ty0 k.toNat).run P w = .ok true w := by
              have hlies := lies_self (P := P) (t := ty0) (count := c.size / 1) (off := 0 - lc.d) (n := k.toNat) (by omega) (by rw [hce]; exact Nat.mod_one _) (by rw [hce]; simp; omega)
              simp only [variablesAt, Sem.run_bind, run_program, run_shape, Result.andThen_ok, World.shape?, e1, Sem.run_pure, hce, hlies]
            refine ⟨w.freeze ⟨lc.r, 0 - lc.d, none⟩ k.toNat, ?_, Out.put ⟨ver, lc, hlc⟩ ?_ (.flat rfl)⟩
            · have hel : (elemOf pt).run P w = .ok ty0 w := by simp only [elemOf, Sem.run_bind, ok.runUnd hu, Result.andThen_ok, Sem.run_pure]
              have g1 : ¬ k < 0 := by omega
              have g2 : ¬ k > IntKind.i64.max := by
                simp only [IntKind.max, IntKind.signed, IntKind.bits, if_true]
                omega
              have g3 : ¬ k = 0 := by omega
              rw [shape]
              simp only [h0, Sem.run_bind, asInt, asIntOf, Sem.run_pure, Result.andThen_ok, g1, g2, g3, if_false, hel, hva, if_true, hloads, run_freeze]
            · have hsz : (w.freeze ⟨lc.r, 0 - lc.d, none⟩ k.toNat).heap.size = w.heap.size := by
                unfold World.freeze
                split
                · rfl
                · simp
              refine hr.upd (Ren.le_refl _) (fun _ _ _ => rfl) (fun _ _ => rfl) (fun v l hh => .inl ⟨v, l, hh, rfl⟩) ⟨ver, lc, hlc⟩ ?_ (by omega) trivial (by unfold World.freeze; split <;> exact ⟨rfl, rfl⟩)
              intro r' _ hne
              have := hne _ _ hlc
              unfold World.freeze
              split
              · rfl
              · simp only
                rw [Array.getElem?_modify]
                simp [this]
          · cases h
        · cases h
      · cases h
    · cases h
  · cases h

/-- a call, as an operation meets it -/
def CallSim (P : Program) (f : FuncId) (args : Array Value) (w : World) (R : Value → World → Prop) : Prop :=
  ((callFunc f args).run P w = .ok (.enter f args) w ∧ Calls P f args w fun e w' => ∃ v', e = .returned v' ∧ R v' w') ∨ (∃ v' w', (callFunc f args).run P w = .ok (.value v') w' ∧ R v' w')

/-- every call that the evaluator can make, the machine makes -/
def CallOk (T : Tab) (P : Program) (w0 : World) (call : Ev.Call) : Prop :=
  ∀ f l H v H', call f l H = some (v, H') → ∀ (ρ : Ren) (w : World) (l' : List Value), ρ.sym = T.sym → HR w0 ρ H w → All2 (V ρ) l l' → CallSim P f l'.toArray w fun v' w' => Out w0 ρ H v H' v' w'

/-- One operation of the evaluator's is the machine's. -/
theorem simOp (hS : ρ.sym = T.sym) {call : Ev.Call} (hcall : CallOk T P w0 call) {e : Operand → Option Value} {a : Act} (he : OR ρ e a.eval) {o : Oper} {v : Value} {H' : Heap} (h : evalOp T w0.cell? call e o H = some (v, H'))
    {next : Act → World → Prop} {Q : Exit → Act → World → Prop} (hnext : ∀ v' w', Out w0 ρ H v H' v' w' → next (a.put o.dst v') w') : o.wp P a w next Q := by
  unfold Oper.wp
  have value : ∀ {v' w'}, (execOp a.eval o).run P w = .ok (.value v') w' → Out w0 ρ H v H' v' w' → o.upon P a next Q ((execOp a.eval o).run P w) := by
    intro v' w' h1 h2; rw [h1]; exact hnext _ _ h2
  have skip : ∀ {w'}, (execOp a.eval o).run P w = .ok .skip w' → Out w0 ρ H v H' skipped w' → o.upon P a next Q ((execOp a.eval o).run P w) := by
    intro w' h1 h2; rw [h1]; exact hnext _ _ h2
  unfold evalOp at h
  split at h
  · split at h
    · rename_i u hu
      cases h
      obtain ⟨v', h1, h2⟩ := simP ok hS he hu w
      exact value h1 (Out.same hr h2)
    · cases h
  · split at h
    · rename_i u hu
      cases h
      obtain ⟨v', h1, h2⟩ := simL hr ok hS he hu
      exact value h1 (Out.same hr h2)
    · cases h
  · obtain ⟨k, v', w', s, esz, rfl, h1, h2⟩ := simA ok he h w
    exact value h1 (hr.new h2)
  · unfold opW at h
    split at h
    · rename_i t x y hop
      split at h
      · rename_i p u hp hu
        split at h
        · rename_i H2 hst
          cases h
          obtain ⟨w', b, k, h1, h2, rfl, hb⟩ := sim_store hr ok hst (he _ _ hp) (he _ _ hu)
          refine skip (w' := w') ?_ (Out.put hb h2 (.tuple .nil))
          unfold execOp; simp only [hop, Sem.run_bind, h1, Result.andThen_ok, Sem.run_pure]
        · cases h
      · cases h
    · rename_i t m k x hop
      split at h
      · rename_i p q u hp hq hu
        split at h
        · rename_i H2 hst
          cases h
          obtain ⟨w', h1, h2⟩ := sim_mapUpdate hr ok hst (he _ _ hp) (he _ _ hq) (he _ _ hu)
          refine skip (w' := w') ?_ h2
          unfold execOp; simp only [hop, Sem.run_bind, h1, Result.andThen_ok, Sem.run_pure]
        · cases h
      · cases h
    · rename_i t m k x hop
      split at h
      · rename_i p q u hp hq hu
        split at h
        · rename_i H2 hst
          cases h
          obtain ⟨w', h1, h2⟩ := sim_mapUpdate hr ok hst (he _ _ hp) (he _ _ hq) (he _ _ hu)
          refine skip (w' := w') ?_ h2
          unfold execOp; simp only [hop, Sem.run_bind, h1, Result.andThen_ok, Sem.run_pure]
        · cases h
      · cases h
    · rename_i xa ts hop
      split at h
      · rename_i s x t u hxa hts
        split at h
        · cases h
        · rename_i d p q hnd hd hp hq
          obtain ⟨v', w', h1, h2⟩ := sim_append hr ok hd hnd h (he _ _ hp) (he _ _ hq) ts hts o.type
          refine value ?_ h2
          have e1 : xa.map a.eval = #[a.eval s, a.eval x] := by apply Array.ext'; simp [hxa]
          unfold execOp
          simp only [hop, resolve, Sem.run_bind, Sem.run_pure, Result.andThen_ok, invoke, builtin, e1, h1]
        · cases h
      · cases h
    · rename_i xa ts hop
      split at h
      · rename_i s x t l0 hxa hts
        split at h
        · rename_i p q hp hq
          obtain ⟨v', w', h1, h2⟩ := sim_copy hr ok h (he _ _ hp) (he _ _ hq) ts hts o.type
          refine value ?_ h2
          have e1 : xa.map a.eval = #[a.eval s, a.eval x] := by apply Array.ext'; simp [hxa]
          unfold execOp
          simp only [hop, resolve, Sem.run_bind, Sem.run_pure, Result.andThen_ok, invoke, builtin, e1, h1]
        · cases h
      · cases h
    · rename_i xa ts hop
      split at h
      · rename_i x t l0 hargs hts
        split at h
        · rename_i H2 hcl
          cases h
          have har := args_rel he hargs
          cases hxa : xa.toList.map a.eval with
          | nil => rw [hxa] at har; cases har
          | cons y r =>
            rw [hxa] at har
            cases har with
            | cons hy ht =>
              cases ht
              obtain ⟨w', h1, h2⟩ := sim_clear hr ok hcl hy ts hts o.type
              refine value ?_ h2
              have e1 : xa.map a.eval = #[y] := by apply Array.ext'; simp [hxa]
              unfold execOp
              simp only [hop, resolve, Sem.run_bind, Sem.run_pure, Result.andThen_ok, invoke, builtin, e1, h1]
        · cases h
      · cases h
    · rename_i xa ts hop
      split at h
      · rename_i p n t l0 hargs hts
        have har := args_rel he hargs
        cases hxa : xa.toList.map a.eval with
        | nil => rw [hxa] at har; cases har
        | cons y r =>
          rw [hxa] at har
          cases har with
          | cons hy ht =>
            cases ht with
            | cons hy2 ht2 =>
              cases ht2
              rename_i y2
              obtain ⟨w', h1, h2⟩ := sim_textOf hr ok h hy hy2 ts hts o.type
              refine value ?_ h2
              have e1 : xa.map a.eval = #[y, y2] := by apply Array.ext'; simp [hxa]
              unfold execOp
              simp only [hop, resolve, Sem.run_bind, Sem.run_pure, Result.andThen_ok, invoke, builtin, e1, h1]
      · cases h
    · rename_i f xa ts hop
      split at h
      · rename_i g first captured l hf hargs
        obtain ⟨first', captured', e1, hfi, hca⟩ := (he _ _ hf).func_inv
        have har := args_rel he hargs
        have hall := (hfi.append har).append hca
        have hrun : (execOp a.eval o).run P w = (callFunc g (first'.toList ++ xa.toList.map a.eval ++ captured'.toList).toArray).run P w := by
          unfold execOp
          simp only [hop, resolve, e1, Deferred.ofValue, Sem.run_bind, Sem.run_pure, Result.andThen_ok, invoke]
          congr 2
          apply Array.ext'
          simp
        rcases hcall g _ H v H' h ρ w _ hS hr hall with ⟨h1, h2⟩ | ⟨v', w', h1, h2⟩
        · rw [hrun, h1, Oper.upon_enter]
          refine h2.mono ?_
          rintro en w'' ⟨v', rfl, hout⟩
          exact hnext _ _ hout
        · exact value (hrun.trans h1) h2
      · cases h
    · cases h
end
end Go.Ev
