/-
  The regions whose order is open, the proof; and what it comes to: 'evalCall_calls'.
-/
import Derived.Test.YtmmojhbboomgoaaGreatEvDraw
namespace Go.Ev
set_option linter.unusedSimpArgs false
set_option linter.unusedVariables false

section
variable {T : Tab} {P : Program} (ok : T.Ok P) {w0 : World} {call : Ev.Call} (hcall : CallOk T P w0 call)

def Done (listed : Array Bool) (j : Nat) : Prop := listed.getD j false = true

/-- What holds while the machine goes through a region, 'listed' being what it has done. -/
structure Inv (T : Tab) (w0 : World) (ρ0 : Ren) (H0 : Heap) (N : Nat) (ds : List Deferred) (R : List Rec) (H' : Heap) (τ : Tr Value) (listed : Array Bool) (a : Act) (w : World) : Prop where
  all : ∃ (ρ : Ren) (p : Nat), ρ0.le ρ ∧ a.tmps.size = N ∧ a.defers = ds ∧
    (∀ b, b < H0.next → ρ.has b → ρ0.has b) ∧ (∀ b, b < H0.next → ¬ ρ0.has b → (heapAt R H' p).blks.get b = H0.blks.get b) ∧ H0.next ≤ (heapAt R H' p).next ∧
    p ≤ R.length ∧ (∀ (q : Nat) (r : Rec), R[q]? = some r → isW T r.o = true → (Done listed r.j ↔ q < p)) ∧ (p = R.length ∨ ∃ r, R[p]? = some r ∧ isW T r.o = true) ∧
    HR w0 ρ (heapAt R H' p) w ∧
    (∀ (q : Nat) (r : Rec), R[q]? = some r → q < p → ¬ Done listed r.j → r.wanted = true → cls T r.o.op = .a → ¬ ρ.has r.H.next ∧ r.H.next < (heapAt R H' p).next ∧ (heapAt R H' p).blks.get r.H.next = r.H2.blks.get r.H.next) ∧
    (∀ t, (∀ (q : Nat) (r : Rec), R[q]? = some r → r.o.dst = some t → Done listed r.j → ∃ v', a.tmps[t]? = some v' ∧ V ρ r.res v') ∧
      ((∀ (q : Nat) (r : Rec), R[q]? = some r → r.o.dst = some t → ¬ Done listed r.j) → ∀ v, τ.get t = some v → ∃ v', a.tmps[t]? = some v' ∧ V ρ v v'))

theorem tmpsOf_mem : ∀ {l : List Operand} {t : Nat}, Operand.tmp t ∈ l → t ∈ tmpsOf l
  | x :: l, t, h => by
    rcases List.mem_cons.1 h with rfl | h
    · simp [tmpsOf]
    · have := tmpsOf_mem h
      cases x <;> simp [tmpsOf, this]

/-- wanted or not, by the one temporary that it looks at -/
theorem wanted_sim' {ρ : Ren} {ops : Array Oper} {τ : Tr Value} {ts : Array Value} {o : Oper} {c : Bool}
    (ht : ∀ d ∈ looks ops.toList o, ∀ v, τ.get d = some v → ∃ v', ts[d]? = some v' ∧ V ρ v v') (h : wanted ops.toList τ o = some c) : Region.wanted o (yielded ops ts) = c := by
  cases hg : o.guard with
  | none =>
    unfold wanted at h
    unfold Region.wanted
    simp only [hg] at h ⊢; cases h; rfl
  | some p =>
    obtain ⟨j, want⟩ := p
    have hd : dstOf ops.toList j = (ops[j]?).bind (·.dst) := by simp [dstOf]
    cases hdst : (ops[j]?).bind (·.dst) with
    | none =>
      unfold wanted at h
      unfold Region.wanted yielded
      simp only [hg, hd, hdst] at h ⊢; cases h; simp
    | some d =>
      have hmem : d ∈ looks ops.toList o := by simp [looks, hg, hd, hdst]
      unfold wanted at h
      unfold Region.wanted yielded
      simp only [hg, hd, hdst] at h ⊢
      simp only [Option.bind_some]
      cases hv : τ.get d with
      | none => simp [hv] at h
      | some v =>
        obtain ⟨v', h1, h2⟩ := ht d hmem v hv
        rw [h1]
        rw [hv] at h
        cases v with
        | bool b => cases h; obtain rfl := h2.bool_inv; cases b <;> cases want <;> rfl
        | _ =>
          cases h
          rcases h2.inv with hh | ⟨_, _, e, rfl, _⟩ | ⟨_, _, e, rfl, _⟩ | ⟨_, _, _, _, _, e, rfl, _⟩ | ⟨_, _, _, e, rfl, _⟩
          · cases hh <;> first | rfl | (rename_i hv; cases v' <;> first | rfl | (simp [symOk] at hv))
          all_goals rfl

theorem done_set {listed : Array Bool} {i j : Nat} (hi : i < listed.size) : Done (listed.setIfInBounds i true) j ↔ Done listed j ∨ j = i := by
  unfold Done
  by_cases e : i = j
  · subst e
    simp [hi]
  · rw [getD_set_ne _ e]
    simp [Ne.symm e]

include ok hcall in
theorem simDraw {N : Nat} {ds : List Deferred} {ρ0 : Ren} (h0 : ρ0.sym = T.sym) {H0 : Heap} {ops : Array Oper} {τ τ' : Tr Value} {H H' : Heap} {R : List Rec} {W : Tr Nat} {E' : Nat}
    (hrun : Run T w0.cell? call N ops.toList (masks ops.toList 0 .lf) R 0 0 [] τ H E' τ' H') (hE : E' = 2 ^ ops.toList.length - 1) (hW : writers ops.toList 0 .lf = some W) (hlook : looksOk ops.toList (masks ops.toList 0 .lf) W ops.toList 0 = true)
    (hops : ∀ (q : Nat) (r : Rec), R[q]? = some r → ops[r.j]? = some r.o) (hH0 : H0.next ≤ H.next) {Q : Exit → Act → World → Prop} (hQ : ∀ a' w', St w0 ρ0 H0 N ds τ' H' a' w' → Q .normal a' w') :
    ∀ (fuel : Nat) (listed : Array Bool) (a : Act) (w : World), listed.size = ops.size → ((List.range ops.size).filter fun i => !listed.getD i false).length ≤ fuel →
      (∀ j m, (masks ops.toList 0 .lf).get j = some m → Done listed j → ∀ i, Nat.testBit m i = true → Done listed i) → Inv T w0 ρ0 H0 N ds R H' τ listed a w → wpAny P .any ops Q fuel listed a w := by
  have hmin : ∀ (q : Nat) (r : Rec), R[q]? = some r → H0.next ≤ r.H.next := by
    intro q r hq
    have e0 : heapAt R H' 0 = H := hrun.head
    have := hrun.nextMono 0 q (by omega) (by have := (List.getElem?_eq_some_iff.1 hq).1; omega)
    have e : heapAt R H' q = r.H := by simp [heapAt, hq]
    rw [e0, e] at this
    omega
  obtain ⟨fE1, fE2⟩ := hrun.factE
  have fX := hrun.factX
  -- each operation once
  have huniq : ∀ (q q' : Nat) (r r' : Rec), R[q]? = some r → R[q']? = some r' → r.j = r'.j → q = q' := by
    have key : ∀ (q q' : Nat) (r r' : Rec), R[q]? = some r → R[q']? = some r' → r.j = r'.j → ¬ q < q' := by
      intro q q' r r' h1 h2 h3 hlt
      have := (hrun.factC h2).2.1
      have h4 := (fE1 q' r' h2 r'.j).2 (.inr ⟨q, r, hlt, h1, h3⟩)
      rw [this] at h4; cases h4
    intro q q' r r' h1 h2 h3
    have a := key q q' r r' h1 h2 h3
    have b := key q' q r' r h2 h1 h3.symm
    omega
  have hall : ∀ j, j < ops.size → ∃ (q : Nat) (r : Rec), R[q]? = some r ∧ r.j = j := by
    intro j hj
    have : Nat.testBit E' j = true := by
      rw [hE, Nat.testBit_two_pow_sub_one]
      simpa using hj
    rcases (fE2 j).1 this with h | ⟨q, r, h1, h2⟩
    · simp at h
    · exact ⟨q, r, h1, h2⟩
  -- one writer a temporary
  obtain ⟨_, wspec⟩ := writers_spec _ _ _ _ hW
  have hwr : ∀ (q : Nat) (r : Rec) (d : Nat), R[q]? = some r → r.o.dst = some d → W.get d = some r.j := by
    intro q r d h1 h2
    have := wspec r.j r.o d (by simpa using hops q r h1) h2
    simpa using this
  have hdst1 : ∀ (q q' : Nat) (r r' : Rec) (d : Nat), R[q]? = some r → R[q']? = some r' → r.o.dst = some d → r'.o.dst = some d → q = q' := by
    intro q q' r r' d h1 h2 h3 h4
    have a := hwr q r d h1 h3
    have b := hwr q' r' d h2 h4
    rw [a] at b
    exact huniq q q' r r' h1 h2 (by simpa using b)
  obtain ⟨_, mspec⟩ := masks_spec ops.toList 0 .lf (fun j _ => Tr.get_lf j)
  -- the end
  have hfin : ∀ (listed : Array Bool) (a : Act) (w : World), (∀ (q : Nat) (r : Rec), R[q]? = some r → Done listed r.j) → Inv T w0 ρ0 H0 N ds R H' τ listed a w → Q .normal a w := by
    intro listed a w hdone hinv
    obtain ⟨ρ, p, g1, g2, g3, g4, g5, g6, g7, g8, g9, g10, g11, g12⟩ := hinv.all
    have hp : p = R.length := by
      rcases g9 with h | ⟨r, hr, hw⟩
      · exact h
      · have := (g8 p r hr hw).1 (hdone p r hr)
        omega
    have hH : heapAt R H' p = H' := by simp [heapAt, hp]
    rw [hH] at g5 g6 g10
    refine hQ a w ⟨ρ, g1, g10, ?_, g2, g3, g4, g5, g6⟩
    intro t v hv
    by_cases hex : ∃ (q : Nat) (r : Rec), R[q]? = some r ∧ r.o.dst = some t
    · obtain ⟨q, r, h1, h2⟩ := hex
      obtain ⟨_, f2⟩ := hrun.factS h1 h2 fun q' r' h3 h4 => hdst1 q' q r' r t h3 h1 h4 h2
      rw [f2] at hv; cases hv
      exact (g12 t).1 q r h1 h2 (hdone q r h1)
    · have hno : ∀ (q : Nat) (r : Rec), R[q]? = some r → r.o.dst ≠ some t := fun q r h1 h2 => hex ⟨q, r, h1, h2⟩
      rw [hrun.factT.2 t hno] at hv
      exact (g12 t).2 (fun q r h1 h2 => absurd h2 (hno q r h1)) v hv
  intro fuel
  induction fuel with
  | zero =>
    intro listed a w hsz hcnt hclosed hinv
    have hdone : ∀ j, j < ops.size → Done listed j := by
      intro j hj
      unfold Done
      cases hd : listed.getD j false with
      | true => rfl
      | false =>
        exfalso
        have : j ∈ (List.range ops.size).filter fun i => !listed.getD i false := by simp [hj]; simpa using hd
        have := List.length_pos_of_mem this
        omega
    refine ⟨?_, hfin _ _ _ (fun q r hq => hdone _ (Array.getElem?_eq_some_iff.1 (hops q r hq)).1) hinv⟩
    cases hr : Region.ready .any ops listed with
    | nil => rfl
    | cons x l =>
      exfalso
      have hx : x ∈ Region.ready .any ops listed := by rw [hr]; simp
      obtain ⟨h1, o, ho, _⟩ := mem_ready.1 hx
      have hlt : x < ops.size := (Array.getElem?_eq_some_iff.1 ho).1
      have := hdone x hlt
      unfold Done at this
      rw [Array.getD_eq_getD_getElem?] at this h1
      have hs : x < listed.size := by omega
      simp [hs] at this h1
      rw [this] at h1; cases h1
  | succ fuel ih =>
    intro listed a w hsz hcnt hclosed hinv
    have undone : ∀ j, j < ops.size → ¬ Done listed j → listed.getD j true = false := by
      intro j hj hnd
      have hs : j < listed.size := by omega
      unfold Done at hnd
      rw [Array.getD_eq_getD_getElem?] at hnd ⊢
      simp [hs] at hnd ⊢
      exact hnd
    refine ⟨?_, ?_⟩
    · intro hr
      refine hfin _ _ _ ?_ hinv
      intro q
      induction q using Nat.strongRecOn with
      | _ q ihq =>
        intro r hq
        apply Classical.byContradiction
        intro hnd
        have ho := hops q r hq
        have hlt : r.j < ops.size := (Array.getElem?_eq_some_iff.1 ho).1
        have hin : r.j ∈ Region.ready .any ops listed := by
          refine mem_ready.2 ⟨undone _ hlt hnd, r.o, ho, fun e he hb => ?_⟩
          obtain ⟨hm, _, hmE, _, _, _, _⟩ := hrun.factC hq
          obtain ⟨acc', _, hm2⟩ := mspec r.j r.o (by simpa using ho)
          rw [Nat.zero_add, hm] at hm2
          have hbit : Nat.testBit r.m e.on = true := by
            rw [Option.some.inj hm2]
            exact maskOf_direct acc' _ _ e (by simpa using he) hb
          rcases (fE1 q r hq e.on).1 (hmE _ hbit) with h | ⟨q', r', h1, h2, h3⟩
          · simp at h
          · have := ihq q' h1 r' h2
            rw [h3] at this
            exact this
        rw [hr] at hin
        simp at hin
    · intro i hi
      obtain ⟨h1, o, ho, hdirect⟩ := mem_ready.1 hi
      have hlt : i < ops.size := (Array.getElem?_eq_some_iff.1 ho).1
      obtain ⟨q, r, hq, rfl⟩ := hall i hlt
      have hro := hops q r hq
      rw [ho] at hro
      obtain rfl := Option.some.inj hro
      have hnd : ¬ Done listed r.j := by
        intro hd
        unfold Done at hd
        have hs : r.j < listed.size := by omega
        rw [Array.getD_eq_getD_getElem?] at hd h1
        simp [hs] at hd h1
        rw [hd] at h1; cases h1
      obtain ⟨hm, hEj, hmE, hXm, hres, hdN, hmono⟩ := hrun.factC hq
      have hpred : ∀ x, Nat.testBit r.m x = true → Done listed x := by
        intro x hx
        obtain ⟨acc', ha, hm2⟩ := mspec r.j r.o (by simpa using ho)
        rw [Nat.zero_add, hm] at hm2
        rw [Option.some.inj hm2] at hx
        rcases maskOf_inv acc' _ _ _ hx with h | ⟨e, e1, e2, e3⟩
        · simp at h
        · have hde := hdirect e (by simpa using e1) e2
          rcases e3 with rfl | ⟨m, e4, e5⟩
          · exact hde
          · exact hclosed _ m (ha _ _ e4) hde x e5
      obtain ⟨ρ, p, g1, g2, g3, g4, g5, g6, g7, g8, g9, g10, g11, g12⟩ := hinv.all
      have hqlen : q < R.length := (List.getElem?_eq_some_iff.1 hq).1
      have hXdone : ∀ (q' : Nat) (r' : Rec), q' < q → R[q']? = some r' → isW T r'.o = true → Done listed r'.j := fun q' r' a1 a2 a3 => hpred _ (hXm _ (fX q r hq q' r' a1 a2 a3))
      have hqp : q ≤ p := by
        rcases g9 with h | ⟨rp, hrp, hwp⟩
        · omega
        · rcases Nat.lt_or_ge p q with h | h
          · have := (g8 p rp hrp hwp).1 (hXdone p rp h hrp hwp)
            omega
          · exact h
      -- what it looks at
      have hlooks : ∀ t ∈ looks ops.toList r.o, ∀ v, r.τ.get t = some v → ∃ v', a.tmps[t]? = some v' ∧ V ρ v v' := by
        intro t ht v hv
        by_cases hex : ∃ (q1 : Nat) (r1 : Rec), R[q1]? = some r1 ∧ r1.o.dst = some t
        · obtain ⟨q1, r1, e1, e2⟩ := hex
          have hu : ∀ (q' : Nat) (r' : Rec), R[q']? = some r' → r'.o.dst = some t → q' = q1 := fun q' r' a1 a2 => hdst1 q' q1 r' r1 t a1 e1 a2 e2
          have hlk := looksOk_spec hlook r.j r.o (by simpa using ho)
          rw [Nat.zero_add] at hlk
          obtain ⟨hm1, _, hmE1, _, _, _, _⟩ := hrun.factC e1
          rcases lookOk_spec hlk t ht r1.j (hwr q1 r1 t e1 e2) with h | h | h
          · have : q1 = q := huniq q1 q r1 r e1 hq h
            subst this
            rw [hrun.factT.1 q1 r hq t fun q' r' a1 a2 a3 => by have := hu q' r' a2 a3; omega] at hv
            rw [hq] at e1; cases e1
            refine (g12 t).2 (fun q' r' a1 a2 => ?_) v hv
            have := hu q' r' a1 a2
            subst this
            rw [hq] at a1; cases a1
            exact hnd
          · rw [hm] at h
            simp only [Option.getD_some] at h
            have hlt1 : q1 < q := by
              rcases (fE1 q r hq r1.j).1 (hmE _ h) with h | ⟨q', r', a1, a2, a3⟩
              · simp at h
              · have := huniq q' q1 r' r1 a2 e1 a3
                omega
            rw [(hrun.factS e1 e2 hu).1 q r hlt1 hq] at hv
            cases hv
            exact (g12 t).1 q1 r1 e1 e2 (hpred _ h)
          · rw [hm1] at h
            simp only [Option.getD_some] at h
            have hlt1 : q < q1 := by
              rcases (fE1 q1 r1 e1 r.j).1 (hmE1 _ h) with h | ⟨q', r', a1, a2, a3⟩
              · simp at h
              · have := huniq q' q r' r a2 hq a3
                omega
            rw [hrun.factT.1 q r hq t fun q' r' a1 a2 a3 => by have := hu q' r' a2 a3; omega] at hv
            refine (g12 t).2 (fun q' r' a1 a2 => ?_) v hv
            have := hu q' r' a1 a2
            subst this
            rw [e1] at a1; cases a1
            intro hd1
            exact hnd (hclosed _ _ hm1 hd1 _ h)
        · have hno : ∀ (q' : Nat) (r' : Rec), R[q']? = some r' → r'.o.dst ≠ some t := fun q' r' a1 a2 => hex ⟨q', r', a1, a2⟩
          rw [hrun.factT.1 q r hq t fun q' r' _ a2 => hno q' r' a2] at hv
          exact (g12 t).2 (fun q' r' a1 a2 => absurd a2 (hno q' r' a1)) v hv
      let e' : Operand → Option Value := fun x => match x with
        | .tmp t => if t ∈ tmpsOf r.o.op.operands.toList then r.τ.get t else none
        | x => ev r.τ x
      have hOR : OR ρ e' a.eval := by
        intro x v hx
        cases x with
        | tmp t =>
          simp only [e'] at hx
          split at hx
          · rename_i ht
            obtain ⟨v', b1, b2⟩ := hlooks t (by simp [looks, ht]) v hx
            simp only [Act.eval]
            rw [Array.getD_eq_getD_getElem?, b1]
            exact b2
          · cases hx
        | const c =>
          simp only [e', Ev.ev] at hx
          cases hc : closedC c with
          | false => simp [hc] at hx
          | true => simp [hc] at hx; subst hx; exact .closed hc
        | global g => simp [e', Ev.ev] at hx
        | func f => simp [e', Ev.ev] at hx; subst hx; exact .func .nil .nil
      have hcongr : ∀ x ∈ r.o.op.operands, e' x = ev r.τ x := by
        intro x hx
        cases x with
        | tmp t =>
          have : t ∈ tmpsOf r.o.op.operands.toList := tmpsOf_mem (by simpa using hx)
          simp only [e', this, if_true, Ev.ev]
        | _ => rfl
      -- going on behind it
      have hcnt' : ((List.range ops.size).filter fun i => !(listed.setIfInBounds r.j true).getD i false).length ≤ fuel := by
        have key : ∀ l : List Nat, l.Nodup → (l.filter fun i => !(listed.setIfInBounds r.j true).getD i false).length + (if r.j ∈ l then 1 else 0) ≤ (l.filter fun i => !listed.getD i false).length := by
          intro l
          induction l with
          | nil => intro _; simp
          | cons x l ihl =>
            intro hnodup
            obtain ⟨n1, n2⟩ := List.nodup_cons.1 hnodup
            have ih2 := ihl n2
            by_cases e : x = r.j
            · subst e
              have b1 : (listed.setIfInBounds r.j true).getD r.j false = true := (done_set (by omega)).2 (.inr rfl)
              have b2 : listed.getD r.j false = false := by
                cases hh : listed.getD r.j false with
                | true => exact absurd hh hnd
                | false => rfl
              rw [List.filter_cons_of_neg (by show ¬ (!(listed.setIfInBounds r.j true).getD r.j false) = true; rw [b1]; simp), List.filter_cons_of_pos (by show (!listed.getD r.j false) = true; rw [b2]; rfl)]
              rw [if_neg n1] at ih2
              rw [if_pos List.mem_cons_self, List.length_cons]
              omega
            · have b1 : (listed.setIfInBounds r.j true).getD x false = listed.getD x false := getD_set_ne _ (Ne.symm e)
              have b2 : (r.j ∈ x :: l) ↔ r.j ∈ l := by simp [Ne.symm e]
              simp only [List.filter_cons, b1, b2]
              split <;> (try simp only [List.length_cons]) <;> omega
        have := key (List.range ops.size) List.nodup_range
        simp only [List.mem_range, hlt, if_true] at this
        omega
      have hclosed' : ∀ j m, (masks ops.toList 0 .lf).get j = some m → Done (listed.setIfInBounds r.j true) j → ∀ x, Nat.testBit m x = true → Done (listed.setIfInBounds r.j true) x := by
        intro j m hj hd x hx
        refine (done_set (by omega)).2 ?_
        rcases (done_set (by omega)).1 hd with h | rfl
        · exact .inl (hclosed j m hj h x hx)
        · rw [hm] at hj; cases hj
          exact .inl (hpred x hx)
      have htm : ∀ {ρ' : Ren} {v' : Value}, ρ.le ρ' → V ρ' r.res v' → ∀ t, (∀ (q2 : Nat) (r2 : Rec), R[q2]? = some r2 → r2.o.dst = some t → Done (listed.setIfInBounds r.j true) r2.j → ∃ u, (a.put r.o.dst v').tmps[t]? = some u ∧ V ρ' r2.res u) ∧
          ((∀ (q2 : Nat) (r2 : Rec), R[q2]? = some r2 → r2.o.dst = some t → ¬ Done (listed.setIfInBounds r.j true) r2.j) → ∀ v, τ.get t = some v → ∃ u, (a.put r.o.dst v').tmps[t]? = some u ∧ V ρ' v u) := by
        intro ρ' v' hle hv t
        have keep : r.o.dst ≠ some t → (a.put r.o.dst v').tmps[t]? = a.tmps[t]? := by
          intro hne
          cases hd : r.o.dst with
          | none => rfl
          | some d =>
            simp only [Act.put]
            rw [Array.getElem?_setIfInBounds]
            have : d ≠ t := fun e => hne (by rw [hd, e])
            simp [this]
        refine ⟨fun q2 r2 a1 a2 a3 => ?_, fun hno v hvt => ?_⟩
        · rcases (done_set (by omega)).1 a3 with h | h
          · obtain ⟨u, b1, b2⟩ := (g12 t).1 q2 r2 a1 a2 h
            refine ⟨u, ?_, b2.mono hle⟩
            rw [keep fun e => ?_]
            · exact b1
            · have := hdst1 q2 q r2 r t a1 hq a2 e
              subst this
              rw [hq] at a1; cases a1
              exact hnd h
          · have : q2 = q := huniq q2 q r2 r a1 hq h
            subst this
            rw [hq] at a1; cases a1
            refine ⟨v', ?_, hv⟩
            simp only [a2, Act.put]
            have := hdN t a2
            simp [g2, this]
        · have hne : r.o.dst ≠ some t := fun e => hno q r hq e ((done_set (by omega)).2 (.inr rfl))
          rw [keep hne]
          obtain ⟨u, b1, b2⟩ := (g12 t).2 (fun q2 r2 a1 a2 a3 => hno q2 r2 a1 a2 ((done_set (by omega)).2 (.inl a3))) v hvt
          exact ⟨u, b1, b2.mono hle⟩
      have hids : ∀ (q2 : Nat) (r2 : Rec), R[q2]? = some r2 → r2.wanted = true → cls T r2.o.op = .a → (heapAt R H' (q2 + 1)).next = r2.H.next + 1 := by
        intro q2 r2 a1 a2 a3
        rw [hrun.factH a1]
        obtain ⟨_, _, _, _, hres2, _, _⟩ := hrun.factC a1
        rcases hres2 with ⟨b, _⟩ | ⟨_, _, hev⟩
        · rw [a2] at b; cases b
        · unfold evalOp at hev
          simp only [a3] at hev
          obtain ⟨k, e⟩ := opA_new hev
          rw [e]; rfl
      -- what is no writer
      have noW : isW T r.o = false → ∀ {ρ' : Ren} {v' : Value} {w' : World}, ρ.le ρ' → (∀ b, ρ'.has b → ρ.has b ∨ (b = r.H.next ∧ q < p ∧ r.wanted = true ∧ cls T r.o.op = .a)) → HR w0 ρ' (heapAt R H' p) w' → V ρ' r.res v' → wpAny P .any ops Q fuel (listed.setIfInBounds r.j true) (a.put r.o.dst v') w' := by
        intro hnw ρ' v' w' hle hhas hr2 hv
        have hidge : q < p → r.wanted = true → cls T r.o.op = .a → ¬ ρ.has r.H.next ∧ H0.next ≤ r.H.next → True := fun _ _ _ _ => trivial
        refine ih _ _ _ (by simpa using hsz) hcnt' hclosed' ⟨ρ', p, Ren.le_trans g1 hle, (put_size _ _ _).trans g2, (put_defers _ _ _).trans g3, ?_, ?_, g6, g7, ?_, g9, hr2, ?_, htm hle hv⟩
        · intro b hb hx
          rcases hhas b hx with h | ⟨rfl, hqp2, hwt, hcl⟩
          · exact g4 b hb h
          · -- the fresh block is no older one
            exact absurd (hmin q r hq) (by omega)
        · intro b hb hx
          exact g5 b hb hx
        · intro q2 r2 a1 a2
          rw [done_set (by omega), ← g8 q2 r2 a1 a2]
          constructor
          · rintro (h | h)
            · exact h
            · have := huniq q2 q r2 r a1 hq h
              subst this
              rw [hq] at a1; cases a1
              rw [hnw] at a2; cases a2
          · exact .inl
        · intro q2 r2 a1 a2 a3 a4 a5
          have hnd2 : ¬ Done listed r2.j := fun h => a3 ((done_set (by omega)).2 (.inl h))
          have hne : r2.j ≠ r.j := fun h => a3 ((done_set (by omega)).2 (.inr h))
          obtain ⟨b1, b2, b3⟩ := g11 q2 r2 a1 a2 hnd2 a4 a5
          refine ⟨fun hx => ?_, b2, b3⟩
          rcases hhas _ hx with h | ⟨e, hqp2, hwt, hcl⟩
          · exact b1 h
          · have i1 := hids q2 r2 a1 a4 a5
            have i2 := hids q r hq hwt hcl
            have hq2len := (List.getElem?_eq_some_iff.1 a1).1
            have e1 : heapAt R H' q2 = r2.H := by simp [heapAt, a1]
            have e2 : heapAt R H' q = r.H := by simp [heapAt, hq]
            rcases Nat.lt_trichotomy q2 q with h | h | h
            · have := hrun.nextMono (q2 + 1) q (by omega) (by omega)
              rw [i1, e2] at this
              omega
            · subst h
              rw [hq] at a1; cases a1
              exact hne rfl
            · have := hrun.nextMono (q + 1) q2 (by omega) (by omega)
              rw [i2, e1] at this
              omega
      -- a writer
      have yesW : isW T r.o = true → ∀ {v' : Value} {w' : World}, Out w0 ρ r.H r.res r.H2 v' w' → wpAny P .any ops Q fuel (listed.setIfInBounds r.j true) (a.put r.o.dst v') w' := by
        intro hw v' w' hout
        have hqp' : q = p := by
          have : ¬ q < p := fun h => hnd ((g8 q r hq hw).2 h)
          omega
        subst hqp'
        have eH : heapAt R H' q = r.H := by simp [heapAt, hq]
        have eH2 := hrun.factH hq
        rw [eH] at g5 g6 g10 g11
        obtain ⟨ρ', o1, o2, o3, o4, o5, o6⟩ := hout
        obtain ⟨p', n1, n2, n3, n4⟩ := nextW (T := T) (R := R) (R.length - (q + 1)) (q + 1) (by omega)
        obtain ⟨s1, s2, s3⟩ := hrun.seg (q + 1) p' n1 n2 n3
        rw [eH2] at s1 s2 s3
        refine ih _ _ _ (by simpa using hsz) hcnt' hclosed' ⟨ρ', p', Ren.le_trans g1 o1, (put_size _ _ _).trans g2, (put_defers _ _ _).trans g3, fun b hb hx => g4 b hb (o4 b (by omega) hx), fun b hb hx => ?_, by omega, n2, ?_, n4, ?_, ?_, htm o1 o3⟩
        · rw [s2 b (by omega), o5 b (by omega) fun hy => hx (g4 b hb hy)]
          exact g5 b hb hx
        · intro q2 r2 a1 a2
          rw [done_set (by omega), g8 q2 r2 a1 a2]
          constructor
          · rintro (h | h)
            · omega
            · have := huniq q2 q r2 r a1 hq h
              omega
          · intro h
            rcases Nat.lt_trichotomy q2 q with h2 | h2 | h2
            · exact .inl h2
            · subst h2
              rw [hq] at a1; cases a1
              exact .inr rfl
            · have := n3 q2 r2 (by omega) h a1
              rw [a2] at this; cases this
        · exact o2.weak (fun b ⟨v2, l2, hl2⟩ => s2 b (o2.dom _ _ _ hl2).1) s1
        · intro q2 r2 a1 a2 a3 a4 a5
          have hnd2 : ¬ Done listed r2.j := fun h => a3 ((done_set (by omega)).2 (.inl h))
          rcases Nat.lt_trichotomy q2 q with h2 | h2 | h2
          · obtain ⟨b1, b2, b3⟩ := g11 q2 r2 a1 h2 hnd2 a4 a5
            refine ⟨fun hx => b1 (o4 _ b2 hx), by omega, ?_⟩
            rw [s2 _ (by omega), o5 _ b2 b1]
            exact b3
          · subst h2
            rw [hq] at a1; cases a1
            simp [isW, a5] at hw
          · obtain ⟨b1, b2, b3⟩ := s3 q2 r2 (by omega) a2 a1 a4 a5
            refine ⟨?_, b2, b3⟩
            rintro ⟨v2, l2, hl2⟩
            have := (o2.dom _ _ _ hl2).1
            omega
      -- the step itself
      unfold wpOp
      simp only [ho]
      rcases hres with ⟨hwt, hwant, hskip, hH2⟩ | ⟨hwt, hwant, hev⟩
      · have := wanted_sim' hlooks hwant
        simp only [this, Bool.false_eq_true, if_false]
        have hvs : V ρ r.res undef := by rw [hskip]; exact .tuple .nil
        cases hw : isW T r.o with
        | false => exact noW hw (Ren.le_refl _) (fun b h => .inl h) g10 hvs
        | true =>
          have hqp' : q = p := by
            have : ¬ q < p := fun h => hnd ((g8 q r hq hw).2 h)
            omega
          have eH : heapAt R H' p = r.H := by simp [heapAt, ← hqp', hq]
          rw [eH] at g10
          refine yesW hw ?_
          rw [hH2]
          exact Out.same g10 hvs
      · have := wanted_sim' hlooks hwant
        simp only [this, if_true]
        refine .inl ?_
        have hev' : evalOp T w0.cell? call e' r.o r.H = some (r.res, r.H2) := by rw [evalOp_congr hcongr]; exact hev
        have nonW_lt : isW T r.o = false → q < p := by
          intro hw
          rcases Nat.lt_or_ge q p with h | h
          · exact h
          · exfalso
            have : q = p := by omega
            subst this
            rcases g9 with h | ⟨r2, a1, a2⟩
            · omega
            · rw [hq] at a1; cases a1
              rw [hw] at a2; cases a2
        cases hc : cls T r.o.op with
        | p =>
          have hw : isW T r.o = false := by simp [isW, hc]
          have hp : opP T e' r.o.op = some r.res := by
            unfold evalOp at hev'
            simp only [hc] at hev'
            split at hev'
            · rename_i v hv; simp only [Option.some.injEq, Prod.mk.injEq] at hev'; rw [hv, hev'.1]
            · cases hev'
          obtain ⟨v', b1, b2⟩ := simP ok (g1.2.trans h0) hOR hp w
          unfold Oper.wp
          rw [b1]
          exact noW hw (Ren.le_refl _) (fun b h => .inl h) g10 b2
        | l =>
          have hw : isW T r.o = false := by simp [isW, hc]
          have hp : opL T w0.cell? (heapAt R H' p) e' r.o.op = some r.res := by
            rw [opL_congr hcongr]
            refine hrun.factL hq hwt hc (nonW_lt hw) g7 fun q2 r2 a1 a2 a3 a4 => ?_
            cases hb : Nat.testBit r2.m r.j with
            | false => rfl
            | true =>
              exfalso
              exact hnd (hclosed _ _ (hrun.factC a3).1 ((g8 q2 r2 a3 a4).2 a2) _ hb)
          obtain ⟨v', b1, b2⟩ := simL g10 ok (g1.2.trans h0) hOR hp
          unfold Oper.wp
          rw [b1]
          exact noW hw (Ren.le_refl _) (fun b h => .inl h) g10 b2
        | a =>
          have hw : isW T r.o = false := by simp [isW, hc]
          have hp : opA T r.H e' r.o.op = some (r.res, r.H2) := by
            unfold evalOp at hev'
            simp only [hc] at hev'
            exact hev'
          obtain ⟨k, v', w', s, esz, e1, b1, b2⟩ := simA ok hOR hp w
          obtain ⟨c1, c2, c3⟩ := g11 q r hq (nonW_lt hw) hnd hwt hc
          have hk : (heapAt R H' p).blks.get r.H.next = some k := by
            rw [c3, e1]
            exact Tr.get_put_self _ _ _
          unfold Oper.wp
          rw [b1]
          refine noW hw (Ren.ext_le c1) ?_ (g10.ext c1 c2 hk b2.same b2.size (b2.blk _ rfl c1) b2.io) (b2.val _ rfl c1)
          rintro b ⟨v2, l2, hl2⟩
          by_cases eb : b = r.H.next
          · exact .inr ⟨eb, nonW_lt hw, hwt, hc⟩
          · simp [Ren.ext, eb] at hl2
            exact .inl ⟨v2, l2, hl2⟩
        | w =>
          have hw : isW T r.o = true := by simp [isW, hc]
          have hqp' : q = p := by
            have : ¬ q < p := fun h => hnd ((g8 q r hq hw).2 h)
            omega
          have eH : heapAt R H' p = r.H := by simp [heapAt, ← hqp', hq]
          rw [eH] at g10
          exact simOp g10 ok (g1.2.trans h0) hcall hOR hev' fun v' w' hout => yesW hw hout

include ok hcall in
theorem drawOk (hm : P.follows .mixedOrders = true) : DrawOk T P w0 call := by
  intro N ds ρ0 H0 id ops τ τ' H H' a w h h0 hst
  unfold drawRegion at h
  split at h
  · rename_i W hW
    cases hlook : looksOk ops.toList (masks ops.toList 0 .lf) W ops.toList 0 with
    | false => simp [hlook] at h
    | true =>
      simp only [hlook, cond_true] at h
      split at h
      · rename_i E τ2 H2 hdr
        cases hE : Nat.beq E (2 ^ ops.toList.length - 1) with
        | false => rw [hE] at h; cases h
        | true =>
          simp only [hE, cond_true] at h
          cases h
          have hE := Nat.eq_of_beq_eq_true hE
          obtain ⟨R, hR, hrun⟩ := run_of _ hdr
          have hops : ∀ (q : Nat) (r : Rec), R[q]? = some r → ops[r.j]? = some r.o := by
            intro q r hq
            have : (r.j, r.o) ∈ R.map (fun r => (r.j, r.o)) := List.mem_map.2 ⟨r, List.mem_of_getElem? hq, rfl⟩
            rw [hR] at this
            simpa using order_spec this
          obtain ⟨ρ, g1, g2, g3, g4, g5, g6, g7, g8⟩ := hst
          refine wp_region_any hm (simDraw ok hcall h0 hrun hE hW hlook hops g8 (fun a' w' h => ⟨rfl, h⟩) _ _ _ _ (by simp) (by
            refine Nat.le_trans (List.length_filter_le _ _) ?_
            simp) (fun j m _ hd => ?_) ?_)
          · exfalso
            unfold Done at hd
            rw [Array.getD_eq_getD_getElem?] at hd
            by_cases hj : j < ops.size
            · simp [hj] at hd
            · simp [hj] at hd
          · have nd : ∀ j, ¬ Done (Array.replicate ops.size false) j := by
              intro j hd
              unfold Done at hd
              rw [Array.getD_eq_getD_getElem?] at hd
              by_cases hj : j < ops.size
              · simp [hj] at hd
              · simp [hj] at hd
            obtain ⟨p', n1, n2, n3, n4⟩ := nextW (T := T) (R := R) R.length 0 (by omega)
            obtain ⟨s1, s2, s3⟩ := hrun.seg 0 p' n1 n2 n3
            rw [hrun.head] at s1 s2 s3
            refine ⟨ρ, p', g1, g4, g5, g6, fun b hb hx => ?_, by omega, n2, ?_, n4, ?_, ?_, ?_⟩
            · rw [s2 b (by omega)]
              exact g7 b hb hx
            · intro q r h1 h2
              refine ⟨fun h => absurd h (nd _), fun h => ?_⟩
              have := n3 q r (by omega) h h1
              rw [h2] at this; cases this
            · exact (g2.drew _).weak (fun b ⟨v2, l2, hl2⟩ => s2 b (g2.dom _ _ _ hl2).1) s1
            · intro q r a1 a2 a3 a4 a5
              obtain ⟨b1, b2, b3⟩ := s3 q r (by omega) a2 a1 a4 a5
              refine ⟨?_, b2, b3⟩
              rintro ⟨v2, l2, hl2⟩
              have := (g2.dom _ _ _ hl2).1
              omega
            · intro t
              exact ⟨fun q r _ _ hd => absurd hd (nd _), fun _ v hv => g3 t v hv⟩
      · cases h
  · cases h
end

/-- What the evaluator says, the machine does. -/
theorem evalCall_sim {T : Tab} {P : Program} (ok : T.Ok P) (hm : P.follows .mixedOrders = true) (hname : ∀ f x, T.fn f = some x → (x.name == "runtime.NumGoroutine") = false) {w0 : World} (hprim : PrimOk T P w0) (lf k : Nat) :
    CallOk T P w0 (evalCall T w0.cell? lf k) :=
  simCall ok hname hprim lf (fun _ hc => drawOk ok hc hm) k
end Go.Ev
