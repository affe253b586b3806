/-
  Operations one behind the other; code; calls (the regions whose order is open are taken as given here: 'DrawOk').
-/
import Derived.Test.YtmmojhbboomgoaaGreatEvSimY
import Derived.Orders
namespace Go.Ev
set_option linter.unusedSimpArgs false
set_option linter.unusedVariables false

/-- The evaluator's state and the machine's, and what has become of the memory since a beginning. -/
def St (w0 : World) (ρ0 : Ren) (H0 : Heap) (N : Nat) (ds : List Deferred) (τ : Tr Value) (H : Heap) (a : Act) (w : World) : Prop :=
  ∃ ρ, ρ0.le ρ ∧ HR w0 ρ H w ∧ TR ρ τ a.tmps ∧ a.tmps.size = N ∧ a.defers = ds ∧ (∀ b, b < H0.next → ρ.has b → ρ0.has b) ∧ (∀ b, b < H0.next → ¬ ρ0.has b → H.blks.get b = H0.blks.get b) ∧ H0.next ≤ H.next

theorem put_size (a : Act) (dst : Option Tmp) (v : Value) : (a.put dst v).tmps.size = a.tmps.size := by
  cases dst <;> simp [Act.put]
theorem put_defers (a : Act) (dst : Option Tmp) (v : Value) : (a.put dst v).defers = a.defers := by
  cases dst <;> rfl

theorem putT_rel {ρ : Ren} {τ τ' : Tr Value} {a : Act} {N : Nat} {dst : Option Nat} {v v' : Value} (ht : TR ρ τ a.tmps) (hs : a.tmps.size = N) (h : putT N τ dst v = some τ') (hv : V ρ v v') : TR ρ τ' (a.put dst v').tmps := by
  cases dst with
  | none => simp [putT] at h; subst h; exact ht
  | some d =>
    simp only [putT] at h
    cases hb : Nat.blt d N with
    | false => simp [hb] at h
    | true =>
      simp [hb] at h
      subst h
      have hd : d < N := by simpa [Nat.blt_eq] using hb
      intro t u hu
      rw [Tr.get_put] at hu
      simp only [Act.put]
      by_cases e : t = d
      · subst e
        simp at hu
        subst hu
        exact ⟨v', by simp [hs, hd], hv⟩
      · rw [if_neg e] at hu
        obtain ⟨u', h1, h2⟩ := ht t u hu
        refine ⟨u', ?_, h2⟩
        rw [Array.getElem?_setIfInBounds]
        simp [Ne.symm e, h1]

theorem St.step {w0 : World} {ρ0 : Ren} {H0 : Heap} {N : Nat} {ds : List Deferred} {τ τ' : Tr Value} {H H' : Heap} {a : Act} {w' : World} {ρ : Ren} {v v' : Value} {dst : Option Nat}
    (hle : ρ0.le ρ) (ht : TR ρ τ a.tmps) (hs : a.tmps.size = N) (hd : a.defers = ds) (hh : ∀ b, b < H0.next → ρ.has b → ρ0.has b) (hf : ∀ b, b < H0.next → ¬ ρ0.has b → H.blks.get b = H0.blks.get b) (hn : H0.next ≤ H.next)
    (hout : Out w0 ρ H v H' v' w') (hp : putT N τ dst v = some τ') : St w0 ρ0 H0 N ds τ' H' (a.put dst v') w' := by
  obtain ⟨ρ', h1, h2, h3, h4, h5, h6⟩ := hout
  refine ⟨ρ', Ren.le_trans hle h1, h2, putT_rel (ht.mono h1) hs hp h3, (put_size _ _ _).trans hs, (put_defers _ _ _).trans hd, fun b hb hx => hh b hb (h4 b (by omega) hx), fun b hb hx => ?_, by omega⟩
  rw [h5 b (by omega) fun hy => hx (hh b hb hy)]
  exact hf b hb hx

theorem wanted_sim {ρ : Ren} {ops : Array Oper} {τ : Tr Value} {ts : Array Value} {o : Oper} {c : Bool} (ht : TR ρ τ ts) (h : wanted ops.toList τ o = some c) : Region.wanted o (yielded ops ts) = c := by
  unfold wanted at h
  unfold Region.wanted
  cases hg : o.guard with
  | none => simp only [hg] at h ⊢; cases h; rfl
  | some p =>
    obtain ⟨j, want⟩ := p
    simp only [hg] at h ⊢
    have hd : dstOf ops.toList j = (ops[j]?).bind (·.dst) := by simp [dstOf]
    rw [hd] at h
    unfold yielded
    cases hdst : (ops[j]?).bind (·.dst) with
    | none => simp only [hdst] at h ⊢; cases h; simp
    | some d =>
      simp only [hdst] at h
      simp only [Option.bind_some]
      cases hv : τ.get d with
      | none => simp [hv] at h
      | some v =>
        obtain ⟨v', h1, h2⟩ := ht d v hv
        rw [h1]
        rw [hv] at h
        cases v with
        | bool b => cases h; obtain rfl := h2.bool_inv; cases b <;> cases want <;> rfl
        | _ =>
          cases h
          rcases h2.inv with hh | ⟨_, _, e, rfl, _⟩ | ⟨_, _, e, rfl, _⟩ | ⟨_, _, _, _, _, e, rfl, _⟩ | ⟨_, _, _, e, rfl, _⟩
          · cases hh <;> first | rfl | (rename_i hv; cases v' <;> first | rfl | (simp [symOk] at hv))
          all_goals rfl

section
variable {T : Tab} {P : Program} (ok : T.Ok P) {w0 : World} {call : Ev.Call} (hcall : CallOk T P w0 call) {ρ0 : Ren} (h0 : ρ0.sym = T.sym) {H0 : Heap} {N : Nat} {ds : List Deferred}
include ok hcall h0

/-- one operation, wanted or not -/
theorem simOne {ops : Array Oper} {i : Nat} {o : Oper} (ho : ops[i]? = some o) {τ τ' : Tr Value} {H H' : Heap} {a : Act} {w : World} (h : evalOne T w0.cell? call N ops.toList o τ H = some (τ', H')) (hst : St w0 ρ0 H0 N ds τ H a w)
    {Q : Exit → Act → World → Prop} {K : Act → World → Prop} (hK : ∀ a' w', St w0 ρ0 H0 N ds τ' H' a' w' → K a' w') : wpOp P ops Q i K a w := by
  obtain ⟨ρ, h1, h2, h3, h4, h5, h6, h7, h8⟩ := hst
  unfold wpOp
  simp only [ho]
  unfold evalOne at h
  split at h
  · cases h
  · rename_i hw
    have := wanted_sim h3 hw
    simp only [this, Bool.false_eq_true, if_false]
    split at h
    · rename_i τ2 hp
      cases h
      exact hK _ _ (St.step h1 h3 h4 h5 h6 h7 h8 (Out.same h2 (.tuple .nil) : Out w0 ρ H skipped H undef w) hp)
    · cases h
  · rename_i hw
    have := wanted_sim h3 hw
    simp only [this, if_true]
    split at h
    · rename_i v H2 hev
      split at h
      · rename_i τ2 hp
        cases h
        refine .inl (simOp h2 ok (h1.2.trans h0) hcall (fun x u hu => h3.ev hu) hev ?_)
        intro v' w' hout
        exact hK _ _ (St.step h1 h3 h4 h5 h6 h7 h8 hout hp)
      · cases h
    · cases h

theorem simOps {ops : Array Oper} {Q : Exit → Act → World → Prop} : ∀ (l : List Oper) (i : Nat), ops.toList.drop i = l → ∀ {τ τ' : Tr Value} {H H' : Heap} {a : Act} {w : World}, evalOps T w0.cell? call N ops.toList l τ H = some (τ', H') →
    St w0 ρ0 H0 N ds τ H a w → (∀ a' w', St w0 ρ0 H0 N ds τ' H' a' w' → Q .normal a' w') → wpOps P ops Q (List.range' i l.length) a w
  | [], i, hl, τ, τ', H, H', a, w, h, hst, hQ => by
    simp [evalOps] at h
    obtain ⟨rfl, rfl⟩ := h
    exact hQ _ _ hst
  | o :: l, i, hl, τ, τ', H, H', a, w, h, hst, hQ => by
    have ho : ops[i]? = some o := by
      have := congrArg (·[0]?) hl
      simpa using this
    have hl2 : ops.toList.drop (i + 1) = l := by
      have := congrArg List.tail hl
      simpa using this
    simp only [evalOps] at h
    split at h
    · rename_i τ2 H2 h1
      simp only [List.length_cons, List.range'_succ, wpOps_cons]
      exact simOne ok hcall h0 ho h1 hst fun a' w' hst' => simOps l (i + 1) hl2 h hst' hQ
    · cases h

/-- What is asked of the regions whose order is open. -/
def DrawOk (T : Tab) (P : Program) (w0 : World) (call : Ev.Call) : Prop :=
  ∀ (N : Nat) (ds : List Deferred) (ρ0 : Ren) (H0 : Heap) (id : Nat) (ops : Array Oper) (τ τ' : Tr Value) (H H' : Heap) (a : Act) (w : World), drawRegion T w0.cell? call N ops.toList τ H = some (τ', H') → ρ0.sym = T.sym → St w0 ρ0 H0 N ds τ H a w →
    (Code.region id ops true).wp P (fun e a' w' => e = .normal ∧ St w0 ρ0 H0 N ds τ' H' a' w') a w

def exOf : Ex → Exit
  | .normal => .normal
  | .exit id => .exit id
  | .ret => .ret

omit ok hcall h0 in
theorem simLoop {c : Code} {f : Tr Value → Heap → Option (Ex × Tr Value × Heap)} (hbody : ∀ {τ H ex τ' H'} {a : Act} {w : World}, f τ H = some (ex, τ', H') → St w0 ρ0 H0 N ds τ H a w → c.wp P (fun e a' w' => e = exOf ex ∧ St w0 ρ0 H0 N ds τ' H' a' w') a w) :
    ∀ (n : Nat) {τ H ex τ' H'} {a : Act} {w : World}, iter n f τ H = some (ex, τ', H') → St w0 ρ0 H0 N ds τ H a w → ∀ (b : Frame) (k : List Item) (cs : List Frame),
      ∃ e a' w', (e = exOf ex ∧ St w0 ρ0 H0 N ds τ' H' a' w') ∧ Arrives P (lone (b.at a (.code c :: .inLoop c :: k)) cs w) b k cs e a' w'
  | 0, τ, H, ex, τ', H', a, w, h, _ => by simp [iter] at h
  | n + 1, τ, H, ex, τ', H', a, w, h, hst => by
    intro b k cs
    simp only [iter] at h
    split at h
    · rename_i τ2 H2 h1
      obtain ⟨e, a1, w1, ⟨rfl, hst1⟩, harr⟩ := hbody h1 hst b (.inLoop c :: k) cs
      obtain ⟨e2, a2, w2, hq, harr2⟩ := simLoop hbody n h hst1 b k cs
      exact ⟨e2, a2, w2, hq, .of_steps (Steps.trans harr (.one step_inLoop)) harr2⟩
    · rename_i hne
      obtain ⟨e, a1, w1, ⟨rfl, hst1⟩, harr⟩ := hbody h hst b (.inLoop c :: k) cs
      refine ⟨exOf ex, a1, w1, ⟨rfl, hst1⟩, .pass (x := .inLoop c) rfl (fun _ _ => .inl ?_) harr⟩
      cases ex with
      | normal => exact absurd h (hne _ _)
      | exit id => simp [exOf]
      | ret => simp [exOf]

theorem simC (hdraw : DrawOk T P w0 call) (lf : Nat) : ∀ (c : Code) {τ H ex τ' H'} {a : Act} {w : World}, evalC T w0.cell? call N lf c τ H = some (ex, τ', H') → St w0 ρ0 H0 N ds τ H a w →
    c.wp P (fun e a' w' => e = exOf ex ∧ St w0 ρ0 H0 N ds τ' H' a' w') a w
  | .skip, τ, H, ex, τ', H', a, w, h, hst => by simp [evalC] at h; obtain ⟨rfl, rfl, rfl⟩ := h; exact wp_skip ⟨rfl, hst⟩
  | .label l, τ, H, ex, τ', H', a, w, h, hst => by simp [evalC] at h; obtain ⟨rfl, rfl, rfl⟩ := h; exact wp_label ⟨rfl, hst⟩
  | .exit id, τ, H, ex, τ', H', a, w, h, hst => by simp [evalC] at h; obtain ⟨rfl, rfl, rfl⟩ := h; exact wp_exit ⟨rfl, hst⟩
  | .ret, τ, H, ex, τ', H', a, w, h, hst => by simp [evalC] at h; obtain ⟨rfl, rfl, rfl⟩ := h; exact wp_ret ⟨rfl, hst⟩
  | .region id ops draw, τ, H, ex, τ', H', a, w, h, hst => by
    simp only [evalC] at h
    split at h
    · rename_i τ2 H2 h1
      cases h
      cases draw with
      | true => exact wp_mono (hdraw _ _ _ _ id _ _ _ _ _ _ _ (by simpa using h1) h0 hst) fun e a w hq => hq
      | false =>
        refine wp_region ?_
        have := simOps ok hcall h0 (ops := ops) (Q := fun e a' w' => e = exOf .normal ∧ St w0 ρ0 H0 N ds τ' H' a' w') ops.toList 0 rfl (by simpa using h1) hst (fun a' w' h => ⟨rfl, h⟩)
        rw [List.range_eq_range']
        simpa using this
    · cases h
  | .seq x y, τ, H, ex, τ', H', a, w, h, hst => by
    simp only [evalC] at h
    refine wp_seq ?_
    split at h
    · rename_i τ2 H2 h1
      refine wp_mono (simC hdraw lf x h1 hst) ?_
      rintro e a1 w1 ⟨rfl, hst1⟩
      exact simC hdraw lf y h hst1
    · rename_i hne
      refine wp_mono (simC hdraw lf x h hst) ?_
      rintro e a1 w1 ⟨rfl, hst1⟩
      cases ex with
      | normal => exact absurd h (hne _ _)
      | exit id => exact ⟨rfl, hst1⟩
      | ret => exact ⟨rfl, hst1⟩
  | .cond c x y, τ, H, ex, τ', H', a, w, h, hst => by
    simp only [evalC] at h
    have hev : ∀ {b}, ev τ c = some (.bool b) → a.eval c = .bool b := by
      intro b hb
      obtain ⟨ρ, _, _, h3, _⟩ := hst
      exact (h3.ev hb).bool_inv
    split at h
    · rename_i hb; exact wp_cond_true (hev hb) (simC hdraw lf x h hst)
    · rename_i hb; exact wp_cond_false (hev hb) (simC hdraw lf y h hst)
    · cases h
  | .block id c, τ, H, ex, τ', H', a, w, h, hst => by
    simp only [evalC] at h
    refine wp_block ?_
    split at h
    · rename_i i τ2 H2 h1
      refine wp_mono (simC hdraw lf c h1 hst) ?_
      rintro e a1 w1 ⟨rfl, hst1⟩
      cases hi : Nat.beq i id with
      | true =>
        simp [hi] at h
        obtain ⟨rfl, rfl, rfl⟩ := h
        have := Nat.eq_of_beq_eq_true hi
        simp only [exOf, Exit.inBlock, this, if_true]
        exact ⟨trivial, hst1⟩
      | false =>
        simp [hi] at h
        obtain ⟨rfl, rfl, rfl⟩ := h
        have := Nat.ne_of_beq_eq_false hi
        simp only [exOf, Exit.inBlock, this, if_false]
        exact ⟨trivial, hst1⟩
    · rename_i hne
      refine wp_mono (simC hdraw lf c h hst) ?_
      rintro e a1 w1 ⟨rfl, hst1⟩
      cases ex with
      | normal => exact ⟨rfl, hst1⟩
      | exit i => exact absurd h (hne _ _ _)
      | ret => exact ⟨rfl, hst1⟩
  | .loop c, τ, H, ex, τ', H', a, w, h, hst => by
    simp only [evalC] at h
    intro b k cs
    obtain ⟨e, a1, w1, hq, harr⟩ := simLoop (P := P) (c := c) (f := evalC T w0.cell? call N lf c) (fun h hst => simC hdraw lf c h hst) lf h hst b k cs
    exact ⟨e, a1, w1, hq, .of_steps (.one step_loop) harr⟩
  | .rangeFunc _ _ _ _, τ, H, ex, τ', H', a, w, h, hst => by simp [evalC] at h
  | .scope _, τ, H, ex, τ', H', a, w, h, hst => by simp [evalC] at h
  | .goto _, τ, H, ex, τ', H', a, w, h, hst => by simp [evalC] at h
  | .refuse _, τ, H, ex, τ', H', a, w, h, hst => by simp [evalC] at h
end

def resOne (ts : Array Value) : ResultVar → Sem Value
  | .tmp t => pure (ts.getD t undef)
  | .cell a t => do loadVar t (← asAddr (ts.getD a undef))

theorem results_eq (fn : Func) (ts : Array Value) : results fn ts = (do let vs ← fn.results.mapM (resOne ts); pure (if h : vs.size = 1 then vs[0] else .tuple vs)) := by
  unfold results
  congr 1

/-- the results of a function that has come to its end -/
theorem res_sim {T : Tab} {P : Program} (ok : T.Ok P) {w0 : World} {ρ : Ren} {H : Heap} {w : World} (hr : HR w0 ρ H w) {τ : Tr Value} {ts : Array Value} (ht : TR ρ τ ts) : ∀ {rs : List ResultVar} {l : List Value}, resV T w0.cell? τ H rs = some l →
    ∃ l', All2 (V ρ) l l' ∧ (rs.mapM (resOne ts)).run P w = .ok l' w
  | [], l, h => by simp [resV] at h; subst h; exact ⟨[], .nil, by simp⟩
  | .tmp t :: rs, l, h => by
    simp only [resV] at h
    split at h
    · rename_i v r hv hrest
      cases h
      obtain ⟨l', h1, h2⟩ := res_sim ok hr ht hrest
      obtain ⟨v', h3, h4⟩ := ht t v hv
      refine ⟨v' :: l', .cons h4 h1, ?_⟩
      have : ts.getD t undef = v' := by rw [Array.getD_eq_getD_getElem?, h3]; rfl
      simp only [List.mapM_cons, resOne, Sem.run_bind, Sem.run_pure, Result.andThen_ok, this, h2]
    · cases h
  | .cell a t :: rs, l, h => by
    simp only [resV] at h
    split at h
    · rename_i p hp
      split at h
      · rename_i v r hv hrest
        cases h
        obtain ⟨l', h1, h2⟩ := res_sim ok hr ht hrest
        obtain ⟨p', h3, h4⟩ := ht a p hp
        obtain ⟨v', h5, h6⟩ := sim_load hr ok hv h4
        refine ⟨v' :: l', .cons h6 h1, ?_⟩
        have e : ts.getD a undef = p' := by rw [Array.getD_eq_getD_getElem?, h3]; rfl
        have h7 : ((do loadVar t (← asAddr p')) : Sem Value).run P w = .ok v' w := by
          unfold load at hv
          split at hv
          · obtain ⟨b', off', rfl, _⟩ := h4.ptrA
            simpa [Instr.loadAt, Instr.sureAddr, asAddr] using h5
          · cases hv
        have h8 : (resOne ts (.cell a t)).run P w = .ok v' w := by simpa [resOne, e] using h7
        simp only [List.mapM_cons, Sem.run_bind, Sem.run_pure, h8, Result.andThen_ok, h2]
      · cases h
    · cases h

theorem results_sim {T : Tab} {P : Program} (ok : T.Ok P) {w0 : World} {ρ : Ren} {H : Heap} {w : World} (hr : HR w0 ρ H w) {τ : Tr Value} {ts : Array Value} (ht : TR ρ τ ts) {fn : Func} {l : List Value} (h : resV T w0.cell? τ H fn.results.toList = some l) :
    ∃ v', (results fn ts).run P w = .ok v' w ∧ V ρ (oneOf l) v' := by
  obtain ⟨l', h1, h2⟩ := res_sim ok hr ht h
  refine ⟨(if hh : l'.toArray.size = 1 then l'.toArray[0] else .tuple l'.toArray), ?_, ?_⟩
  · rw [results_eq]
    simp only [Sem.run_bind]
    rw [Array.mapM_eq_mapM_toList]
    simp only [Sem.run_map, h2, Result.andThen_ok, Sem.run_pure]
  · cases h1 with
    | nil => exact .tuple .nil
    | cons hx ht =>
      cases ht with
      | nil => exact hx
      | cons hy ht2 => exact .tuple (.cons hx (.cons hy ht2))

/-- the functions that are passed over -/
def PrimOk (T : Tab) (P : Program) (w0 : World) : Prop :=
  ∀ f p l H v H', T.prim f = some p → p w0.cell? l H = some (v, H') → ∀ (ρ : Ren) (w : World) (l' : List Value), ρ.sym = T.sym → HR w0 ρ H w → All2 (V ρ) l l' → CallSim P f l'.toArray w fun v' w' => Out w0 ρ H v H' v' w'

theorem simCall {T : Tab} {P : Program} (ok : T.Ok P) (hname : ∀ f x, T.fn f = some x → (x.name == "runtime.NumGoroutine") = false) {w0 : World} (hprim : PrimOk T P w0) (lf : Nat)
    (hdraw : ∀ call, CallOk T P w0 call → DrawOk T P w0 call) : ∀ k, CallOk T P w0 (evalCall T w0.cell? lf k)
  | 0 => by intro f l H v H' h; simp [evalCall] at h
  | k + 1 => by
    have ih := simCall ok hname hprim lf hdraw k
    intro f l H v H' h ρ w l' hS hr hl
    simp only [evalCall] at h
    split at h
    · rename_i p hp
      exact hprim f p l H v H' hp h ρ w l' hS hr hl
    · split at h
      · cases h
      · rename_i fn hfn
        split at h
        · cases h
        · rename_i c hc
          cases hle : Nat.ble l.length fn.ntmps with
          | false => simp [hle] at h
          | true =>
            simp only [hle, cond_true] at h
            have hle := Nat.le_of_ble_eq_true hle
            have hPf := ok.fn _ _ hfn
            have hlen := hl.length
            refine .inl ⟨?_, ?_⟩
            · simp only [callFunc, Sem.run_bind, run_program, Result.andThen_ok, hPf, hname _ _ hfn, hc, Option.isNone_some, Bool.false_eq_true, if_false, Sem.run_pure]
            · have hst : St w0 ρ H fn.ntmps [] (Tr.fill l 0 .lf) H { tmps := l'.toArray ++ Array.replicate (fn.ntmps - l'.toArray.size) undef, defers := [] } w := by
                refine ⟨ρ, Ren.le_refl _, hr, ?_, by simp; omega, rfl, fun _ _ h => h, fun _ _ _ => rfl, Nat.le_refl _⟩
                intro t u hu
                rw [get_fill0] at hu
                obtain ⟨y, hy, hv⟩ := hl.get hu
                refine ⟨y, ?_, hv⟩
                have := (List.getElem?_eq_some_iff.1 hy).1
                rw [Array.getElem?_append_left (by simpa using this)]
                simpa using hy
              have fin : ∀ {ex τ H2 vs}, evalC T w0.cell? (evalCall T w0.cell? lf k) fn.ntmps lf c (Tr.fill l 0 .lf) H = some (ex, τ, H2) → (ex = .normal ∨ ex = .ret) → resV T w0.cell? τ H2 fn.results.toList = some vs →
                  Calls P f l'.toArray w fun e w' => ∃ v', e = .returned v' ∧ Out w0 ρ H (oneOf vs) H2 v' w' := by
                intro ex τ H2 vs hev hex hres
                refine calls_of_wp hPf hc (wp_mono (simC ok ih hS (hdraw _ ih) lf c hev hst) ?_)
                rintro e a1 w1 ⟨rfl, ρ', g1, g2, g3, g4, g5, g6, g7, g8⟩
                obtain ⟨v', r1, r2⟩ := results_sim ok g2 g3 hres
                have hout : Out w0 ρ H (oneOf vs) H2 v' w1 := ⟨ρ', g1, g2, r2, g6, g7, g8⟩
                rcases hex with rfl | rfl
                · exact ⟨g5, v', r1, v', rfl, hout⟩
                · exact ⟨g5, v', r1, v', rfl, hout⟩
              split at h
              · rename_i τ H2 hev
                split at h
                · rename_i vs hres
                  cases h
                  exact fin hev (.inl rfl) hres
                · cases h
              · rename_i τ H2 hev
                split at h
                · rename_i vs hres
                  cases h
                  exact fin hev (.inr rfl) hres
                · cases h
              · cases h
end Go.Ev
