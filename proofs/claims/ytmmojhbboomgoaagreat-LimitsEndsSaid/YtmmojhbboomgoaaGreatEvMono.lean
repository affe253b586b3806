/-
  More fuel, more known temporaries: the evaluator says the same.
-/
import Derived.Test.YtmmojhbboomgoaaGreatEvSeat
namespace Go.Ev
set_option linter.unusedSimpArgs false
set_option linter.unusedVariables false

/-- what one look-up says, the other one says too -/
def DefO (ρ ρ' : Operand → Option Value) : Prop := ∀ x v, ρ x = some v → ρ' x = some v

def CallLe (c c' : Call) : Prop := ∀ f l H r, c f l H = some r → c' f l H = some r

theorem CallLe.refl (c : Call) : CallLe c c := fun _ _ _ _ h => h

section
variable {T : Tab} {O : Old} {ρ ρ' : Operand → Option Value}

theorem args_mono (h : DefO ρ ρ') : ∀ {l : List Operand} {r : List Value}, args ρ l = some r → args ρ' l = some r
  | [], _, e => e
  | x :: l, r, e => by
    simp only [args] at e ⊢
    cases hx : ρ x with
    | none => simp [hx] at e
    | some v =>
      cases hl : args ρ l with
      | none => simp [hx, hl] at e
      | some r' => rw [h x v hx, args_mono h hl]; simpa [hx, hl] using e

theorem parts_mono (h : DefO ρ ρ') : ∀ {l : List (Nat × Operand)} {r : List (Nat × Value)}, parts ρ l = some r → parts ρ' l = some r
  | [], _, e => e
  | (i, x) :: l, r, e => by
    simp only [parts] at e ⊢
    cases hx : ρ x with
    | none => simp [hx] at e
    | some v =>
      cases hl : parts ρ l with
      | none => simp [hx, hl] at e
      | some r' => rw [h x v hx, parts_mono h hl]; simpa [hx, hl] using e

theorem optV_mono (h : DefO ρ ρ') {x : Option Operand} {r : Option Value} (e : optV ρ x = some r) : optV ρ' x = some r := by
  cases x with
  | none => exact e
  | some y =>
    simp only [optV] at e ⊢
    cases hy : ρ y with
    | none => simp [hy] at e
    | some v => rw [h y v hy]; simpa [hy] using e

theorem opP_mono (h : DefO ρ ρ') {op : Op} {v : Value} (e : opP T ρ op = some v) : opP T ρ' op = some v := by
  cases op
  case move x => exact h _ _ e
  case assign x => exact h _ _ e
  case pick c a b =>
    simp only [opP] at e ⊢
    cases hc : ρ c with
    | none => simp [hc, pick] at e
    | some vc =>
      rw [h c vc hc]
      rw [hc] at e
      unfold pick at e ⊢
      split at e
      · simp_all; exact h _ _ e
      · simp_all; exact h _ _ e
      · cases e
  case binOp op t x y yt =>
    simp only [opP] at e ⊢
    cases hx : ρ x with
    | none => simp [hx] at e
    | some a => cases hy : ρ y with
      | none => simp [hx, hy] at e
      | some b => rw [h x a hx, h y b hy]; simpa [hx, hy] using e
  case unOp op t x =>
    simp only [opP] at e ⊢
    cases hx : ρ x with
    | none => simp [hx] at e
    | some a => rw [h x a hx]; simpa [hx] using e
  case fieldAddr t x i =>
    simp only [opP] at e ⊢
    cases hx : ρ x with
    | none => simp [hx] at e
    | some a => rw [h x a hx]; simpa [hx] using e
  case field t x i =>
    simp only [opP] at e ⊢
    cases hx : ρ x with
    | none => simp [hx] at e
    | some a => rw [h x a hx]; simpa [hx] using e
  case indexAddr t x y =>
    simp only [opP] at e ⊢
    cases hx : ρ x with
    | none => simp [hx] at e
    | some a => cases hy : ρ y with
      | none => simp [hx, hy] at e
      | some b => rw [h x a hx, h y b hy]; simpa [hx, hy] using e
  case index t x y =>
    simp only [opP] at e ⊢
    cases hx : ρ x with
    | none => simp [hx] at e
    | some a => cases hy : ρ y with
      | none => simp [hx, hy] at e
      | some b => rw [h x a hx, h y b hy]; simpa [hx, hy] using e
  case extract x i =>
    simp only [opP] at e ⊢
    cases hx : ρ x with
    | none => simp [hx] at e
    | some a => rw [h x a hx]; simpa [hx] using e
  case nilCheck x =>
    simp only [opP] at e ⊢
    cases hx : ρ x with
    | none => simp [hx] at e
    | some a => rw [h x a hx]; simpa [hx] using e
  case makeFunc fn first captured =>
    simp only [opP] at e ⊢
    cases hx : args ρ first.toList with
    | none => simp [hx] at e
    | some a => cases hy : args ρ captured.toList with
      | none => simp [hx, hy] at e
      | some b => rw [args_mono h hx, args_mono h hy]; simpa [hx, hy] using e
  case makeInterface t x =>
    simp only [opP] at e ⊢
    cases hx : ρ x with
    | none =>
      rw [hx] at e
      split at e <;> simp_all
    | some a => rw [h x a hx]; simpa [hx] using e
  case build t ps =>
    simp only [opP] at e ⊢
    cases hx : parts ρ ps.toList with
    | none => simp [hx] at e
    | some a => rw [parts_mono h hx]; simpa [hx] using e
  all_goals simp [opP] at e

theorem opL_mono (h : DefO ρ ρ') {H : Heap} {op : Op} {v : Value} (e : opL T O H ρ op = some v) : opL T O H ρ' op = some v := by
  cases op
  case load t x =>
    simp only [opL] at e ⊢
    cases hx : ρ x with
    | none => simp [hx] at e
    | some a => rw [h x a hx]; simpa [hx] using e
  case slice t x lo hi mx =>
    simp only [opL] at e ⊢
    cases hx : ρ x with
    | none => simp [hx] at e
    | some a => cases hl : optV ρ lo with
      | none => simp [hx, hl] at e
      | some l => cases hh : optV ρ hi with
        | none => simp [hx, hl, hh] at e
        | some hv => cases hm : optV ρ mx with
          | none => simp [hx, hl, hh, hm] at e
          | some m => rw [h x a hx, optV_mono h hl, optV_mono h hh, optV_mono h hm]; simpa [hx, hl, hh, hm] using e
  case lookup t m k ok =>
    simp only [opL] at e ⊢
    cases hx : ρ m with
    | none => simp [hx] at e
    | some a => cases hy : ρ k with
      | none => simp [hx, hy] at e
      | some b => rw [h m a hx, h k b hy]; simpa [hx, hy] using e
  case convert s d x =>
    simp only [opL] at e ⊢
    cases hx : ρ x with
    | none => simp [hx] at e
    | some a => rw [h x a hx]; simpa [hx] using e
  case call c =>
    obtain ⟨callee, xa, ts⟩ := c
    cases callee with
    | value f => simp [opL] at e
    | invoke r m => simp [opL] at e
    | builtin b =>
      cases b
      case len =>
        simp only [opL] at e ⊢
        split at e
        · rename_i x t l hx ht
          cases hv : ρ x with
          | none => simp [hv] at e
          | some a =>
            simp only [h x a hv]
            simpa [hv] using e
        · cases e
      case max =>
        simp only [opL] at e ⊢
        cases hx : args ρ xa.toList with
        | none => simp [hx] at e
        | some a => rw [args_mono h hx]; simpa [hx] using e
      case min =>
        simp only [opL] at e ⊢
        cases hx : args ρ xa.toList with
        | none => simp [hx] at e
        | some a => rw [args_mono h hx]; simpa [hx] using e
      case unsafeSliceData =>
        simp only [opL] at e ⊢
        cases hx : args ρ xa.toList with
        | none => simp [hx] at e
        | some a => rw [args_mono h hx]; simpa [hx] using e
      all_goals simp [opL] at e
  all_goals simp [opL] at e

theorem opA_mono (h : DefO ρ ρ') {H : Heap} {op : Op} {r : Value × Heap} (e : opA T H ρ op = some r) : opA T H ρ' op = some r := by
  cases op
  case alloc t => exact e
  case box t x =>
    simp only [opA] at e ⊢
    cases hx : ρ x with
    | none => simp [hx] at e
    | some a => rw [h x a hx]; simpa [hx] using e
  case buildSlice t n ps =>
    simp only [opA] at e ⊢
    cases hx : parts ρ ps.toList with
    | none => simp [hx] at e
    | some a => rw [parts_mono h hx]; simpa [hx] using e
  case makeMap t r' => exact e
  case makeSlice t l c =>
    simp only [opA] at e ⊢
    cases hx : ρ l with
    | none => simp [hx] at e
    | some a => cases hy : ρ c with
      | none => simp [hx, hy] at e
      | some b => rw [h l a hx, h c b hy]; simpa [hx, hy] using e
  case convert s d x =>
    simp only [opA] at e ⊢
    cases hx : ρ x with
    | none => simp [hx] at e
    | some a => rw [h x a hx]; simpa [hx] using e
  all_goals simp [opA] at e

theorem opW_mono (h : DefO ρ ρ') {call call' : Call} (hc : CallLe call call') {H : Heap} {op : Op} {r : Value × Heap} (e : opW T O call H ρ op = some r) : opW T O call' H ρ' op = some r := by
  cases op
  case store t x y =>
    simp only [opW] at e ⊢
    cases hx : ρ x with
    | none => simp [hx] at e
    | some a => cases hy : ρ y with
      | none => simp [hx, hy] at e
      | some b => rw [h x a hx, h y b hy]; simpa [hx, hy] using e
  case mapUpdate t m k x =>
    simp only [opW] at e ⊢
    cases hm : ρ m with
    | none => simp [hm] at e
    | some a => cases hk : ρ k with
      | none => simp [hm, hk] at e
      | some b => cases hx : ρ x with
        | none => simp [hm, hk, hx] at e
        | some v => rw [h m a hm, h k b hk, h x v hx]; simpa [hm, hk, hx] using e
  case insert t m k x =>
    simp only [opW] at e ⊢
    cases hm : ρ m with
    | none => simp [hm] at e
    | some a => cases hk : ρ k with
      | none => simp [hm, hk] at e
      | some b => cases hx : ρ x with
        | none => simp [hm, hk, hx] at e
        | some v => rw [h m a hm, h k b hk, h x v hx]; simpa [hm, hk, hx] using e
  case call c =>
    obtain ⟨callee, xa, ts⟩ := c
    cases callee with
    | value f =>
      simp only [opW] at e ⊢
      cases hf : ρ f with
      | none => simp [hf] at e
      | some a => cases hx : args ρ xa.toList with
        | none =>
          rw [hf, hx] at e
          split at e <;> simp_all
        | some l =>
          rw [h f a hf, args_mono h hx]
          rw [hf, hx] at e
          split at e
          · rename_i heq1 heq2
            cases heq1; cases heq2
            exact hc _ _ _ _ e
          · cases e
    | invoke r m => simp [opW] at e
    | builtin b =>
      cases b
      case append =>
        simp only [opW] at e ⊢
        split at e
        · rename_i s x t u hxa hts
          cases hu : T.und u with
          | none => rw [hu] at e; simp at e
          | some d =>
            cases hs : ρ s with
            | none => rw [hu, hs] at e; cases d <;> simp at e
            | some a => cases hx : ρ x with
              | none => rw [hu, hs, hx] at e; cases d <;> simp at e
              | some b =>
                rw [hu, hs, hx] at e
                rw [h s a hs, h x b hx]
                exact e
        · cases e
      case copy =>
        simp only [opW] at e ⊢
        split at e
        · rename_i s x t l hxa hts
          cases hs : ρ s with
          | none => simp [hs] at e
          | some a => cases hx : ρ x with
            | none => simp [hs, hx] at e
            | some b => rw [h s a hs, h x b hx]; simpa [hs, hx] using e
        · cases e
      case clear =>
        simp only [opW] at e ⊢
        cases hx : args ρ xa.toList with
        | none => simp [hx] at e
        | some a => rw [args_mono h hx]; rw [hx] at e; exact e
      case unsafeString =>
        simp only [opW] at e ⊢
        cases hx : args ρ xa.toList with
        | none => simp [hx] at e
        | some a => rw [args_mono h hx]; rw [hx] at e; exact e
      all_goals simp [opW] at e
  all_goals simp [opW] at e

theorem evalOp_mono (h : DefO ρ ρ') {call call' : Call} (hc : CallLe call call') {H : Heap} {o : Oper} {r : Value × Heap} (e : evalOp T O call ρ o H = some r) : evalOp T O call' ρ' o H = some r := by
  unfold evalOp at e ⊢
  cases hcl : cls T o.op with
  | p =>
    rw [hcl] at e
    simp only at e ⊢
    cases hv : opP T ρ o.op with
    | none => simp [hv] at e
    | some v => rw [opP_mono h hv]; simpa [hv] using e
  | l =>
    rw [hcl] at e
    simp only at e ⊢
    cases hv : opL T O H ρ o.op with
    | none => simp [hv] at e
    | some v => rw [opL_mono h hv]; simpa [hv] using e
  | a => rw [hcl] at e; exact opA_mono h e
  | w => rw [hcl] at e; exact opW_mono h hc e
end

section
variable {T : Tab} {O : Old} {call call' : Call} (hc : CallLe call call')
include hc

theorem evalOne_mono {N : Nat} {all : List Oper} {o : Oper} {τ : Tr Value} {H : Heap} {r : Tr Value × Heap} (e : evalOne T O call N all o τ H = some r) : evalOne T O call' N all o τ H = some r := by
  unfold evalOne at e ⊢
  cases hw : wanted all τ o with
  | none => simp [hw] at e
  | some b =>
    rw [hw] at e
    cases b with
    | false => exact e
    | true =>
      simp only at e ⊢
      cases hv : evalOp T O call (ev τ) o H with
      | none => simp [hv] at e
      | some p => rw [evalOp_mono (fun _ _ h => h) hc hv]; simpa [hv] using e

theorem evalOps_mono {N : Nat} {all : List Oper} : ∀ {l : List Oper} {τ : Tr Value} {H : Heap} {r : Tr Value × Heap}, evalOps T O call N all l τ H = some r → evalOps T O call' N all l τ H = some r
  | [], _, _, _, e => e
  | o :: l, τ, H, r, e => by
    simp only [evalOps] at e ⊢
    cases hv : evalOne T O call N all o τ H with
    | none => simp [hv] at e
    | some p => rw [evalOne_mono hc hv]; rw [hv] at e; exact evalOps_mono e

theorem drawRun_mono {N : Nat} {all : List Oper} {ms : Tr Nat} : ∀ {l : List (Nat × Oper)} {E X : Nat} {pend : List Pend} {τ : Tr Value} {H : Heap} {r : Nat × Tr Value × Heap}, drawRun T O call N all ms l E X pend τ H = some r → drawRun T O call' N all ms l E X pend τ H = some r
  | [], _, _, _, _, _, _, e => e
  | (j, o) :: l, E, X, pend, τ, H, r, e => by
    simp only [drawRun] at e ⊢
    cases hm : ms.get j with
    | none => simp [hm] at e
    | some m =>
      rw [hm] at e
      simp only at e ⊢
      cases hb : (Nat.testBit E j || !(Nat.beq (Nat.land m E) m) || !(Nat.beq (Nat.land X m) X)) with
      | true => rw [hb] at e; cases e
      | false =>
        rw [hb] at e
        simp only [cond_false] at e ⊢
        cases hw : wanted all τ o with
        | none => simp [hw] at e
        | some b =>
          rw [hw] at e
          cases b with
          | false =>
            simp only at e ⊢
            cases hp : putT N τ o.dst skipped with
            | none => simp [hp] at e
            | some τ' => rw [hp] at e; exact drawRun_mono e
          | true =>
            simp only at e ⊢
            cases hv : evalOp T O call (ev τ) o H with
            | none => simp [hv] at e
            | some p =>
              obtain ⟨v, H'⟩ := p
              rw [evalOp_mono (fun _ _ h => h) hc hv]
              rw [hv] at e
              simp only at e ⊢
              cases hp : putT N τ o.dst v with
              | none => simp [hp] at e
              | some τ' =>
                rw [hp] at e
                simp only at e ⊢
                cases hcl : cls T o.op with
                | p => rw [hcl] at e; exact drawRun_mono e
                | l => rw [hcl] at e; exact drawRun_mono e
                | a =>
                  rw [hcl] at e
                  simp only at e ⊢
                  cases hs : stable T O 0 H' pend with
                  | false => rw [hs] at e; cases e
                  | true => rw [hs] at e; exact drawRun_mono e
                | w =>
                  rw [hcl] at e
                  simp only at e ⊢
                  cases hs : (stable T O m H' pend && Nat.ble H.next H'.next) with
                  | false => rw [hs] at e; cases e
                  | true => rw [hs] at e; exact drawRun_mono e

theorem drawRegion_mono {N : Nat} {ops : List Oper} {τ : Tr Value} {H : Heap} {r : Tr Value × Heap} (e : drawRegion T O call N ops τ H = some r) : drawRegion T O call' N ops τ H = some r := by
  unfold drawRegion at e ⊢
  cases hw : writers ops 0 .lf with
  | none => simp [hw] at e
  | some W =>
    rw [hw] at e
    simp only at e ⊢
    cases hl : looksOk ops (masks ops 0 .lf) W ops 0 with
    | false => rw [hl] at e; cases e
    | true =>
      rw [hl] at e
      simp only [cond_true] at e ⊢
      cases hd : drawRun T O call N ops (masks ops 0 .lf) (order T ops (masks ops 0 .lf) (bitsOf (wsOf T ops 0)) (wsOf T ops 0) 0) 0 0 [] τ H with
      | none => simp [hd] at e
      | some p => rw [drawRun_mono hc hd]; rw [hd] at e; exact e
end

theorem iter_mono {f f' : Tr Value → Heap → Option (Ex × Tr Value × Heap)} (h : ∀ τ H r, f τ H = some r → f' τ H = some r) : ∀ {n n' : Nat} {τ : Tr Value} {H : Heap} {r : Ex × Tr Value × Heap}, n ≤ n' → iter n f τ H = some r → iter n' f' τ H = some r
  | 0, _, _, _, _, _, e => by cases e
  | n + 1, 0, _, _, _, hn, _ => by omega
  | n + 1, n' + 1, τ, H, r, hn, e => by
    simp only [iter] at e ⊢
    cases hv : f τ H with
    | none => simp [hv] at e
    | some p =>
      obtain ⟨ex, τ', H'⟩ := p
      rw [h _ _ _ hv]
      rw [hv] at e
      cases ex with
      | normal => exact iter_mono h (by omega) e
      | exit i => exact e
      | ret => exact e

theorem evalC_mono {T : Tab} {O : Old} {call call' : Call} (hc : CallLe call call') {N lf lf' : Nat} (hl : lf ≤ lf') : ∀ {c : Code} {τ : Tr Value} {H : Heap} {r : Ex × Tr Value × Heap}, evalC T O call N lf c τ H = some r → evalC T O call' N lf' c τ H = some r
  | .skip, _, _, _, e => e
  | .label _, _, _, _, e => e
  | .exit _, _, _, _, e => e
  | .ret, _, _, _, e => e
  | .region _ ops draw, τ, H, r, e => by
    simp only [evalC] at e ⊢
    cases draw with
    | true =>
      simp only [cond_true] at e ⊢
      cases hd : drawRegion T O call N ops.toList τ H with
      | none => simp [hd] at e
      | some p => rw [drawRegion_mono hc hd]; rw [hd] at e; exact e
    | false =>
      simp only [cond_false] at e ⊢
      cases hd : evalOps T O call N ops.toList ops.toList τ H with
      | none => simp [hd] at e
      | some p => rw [evalOps_mono hc hd]; rw [hd] at e; exact e
  | .seq a b, τ, H, r, e => by
    simp only [evalC] at e ⊢
    cases ha : evalC T O call N lf a τ H with
    | none => simp [ha] at e
    | some p =>
      obtain ⟨ex, τ', H'⟩ := p
      rw [evalC_mono hc hl ha]
      rw [ha] at e
      cases ex with
      | normal => exact evalC_mono hc hl e
      | exit i => exact e
      | ret => exact e
  | .cond c x y, τ, H, r, e => by
    simp only [evalC] at e ⊢
    split at e
    · exact evalC_mono hc hl e
    · exact evalC_mono hc hl e
    · cases e
  | .block id c, τ, H, r, e => by
    simp only [evalC] at e ⊢
    cases ha : evalC T O call N lf c τ H with
    | none => simp [ha] at e
    | some p =>
      rw [evalC_mono hc hl ha]
      rw [ha] at e
      exact e
  | .loop c, τ, H, r, e => by
    simp only [evalC] at e ⊢
    exact iter_mono (fun τ H r h => evalC_mono hc hl h) hl e
  | .rangeFunc .., _, _, _, e => by simp [evalC] at e
  | .scope _, _, _, _, e => by simp [evalC] at e
  | .goto _, _, _, _, e => by simp [evalC] at e
  | .refuse _, _, _, _, e => by simp [evalC] at e

theorem evalCall_mono {T : Tab} {O : Old} {lf lf' : Nat} (hl : lf ≤ lf') : ∀ {k k' : Nat}, k ≤ k' → CallLe (evalCall T O lf k) (evalCall T O lf' k')
  | 0, _, _ => fun f l H r e => by simp [evalCall] at e
  | k + 1, 0, h => by omega
  | k + 1, k' + 1, h => fun f l H r e => by
    have ih := evalCall_mono (T := T) (O := O) hl (show k ≤ k' by omega)
    simp only [evalCall] at e ⊢
    cases hp : T.prim f with
    | some p => rw [hp] at e; exact e
    | none =>
      rw [hp] at e
      simp only at e ⊢
      cases hf : T.fn f with
      | none => simp [hf] at e
      | some fn =>
        rw [hf] at e
        simp only at e ⊢
        cases hb : fn.body with
        | none => simp [hb] at e
        | some c =>
          rw [hb] at e
          simp only at e ⊢
          cases hn : Nat.ble l.length fn.ntmps with
          | false => rw [hn] at e; cases e
          | true =>
            rw [hn] at e
            simp only [cond_true] at e ⊢
            cases hc : evalC T O (evalCall T O lf k) fn.ntmps lf c (Tr.fill l 0 .lf) H with
            | none => simp [hc] at e
            | some p =>
              rw [evalC_mono ih hl hc]
              rw [hc] at e
              exact e
end Go.Ev
