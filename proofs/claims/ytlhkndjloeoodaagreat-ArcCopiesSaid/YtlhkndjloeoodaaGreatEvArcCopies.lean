/-
  'bonsai/bonsailaw5.ArcCopies' is true, whatever the input. No condition.
-/
import Derived.Test.YtlhkndjloeoodaaGreatACopies
import Derived.Test.YtlhkndjloeoodaaGreatK11
import Derived.OpenShut
namespace Go.Ev.Wk
set_option linter.unusedSimpArgs false
set_option linter.unusedVariables false
open Go.ChangeShapes Go.WideShapes Go.ChangeAt Go.RowKit

section
variable {H : Type} {enc : TypeId × Value → H} {P : Program} {W W' : World}

theorem arg_arr4 {t e : TypeId} {k : IntKind} {v : Value} {d : DataW H} {ps : List MemPlace} {sp : Nat → Bool} {held : Bool} (ht : P.underlying t = some (.array 4 e)) (he : P.underlying e = some (.int k)) (hce : P.cellsOf e = 1) (hct : P.cellsOf t = 4)
    (hv : Value.okWide P W .any 0 t v) (h : DataW.Trod enc P W 0 sp held t v d ps) :
    ∃ (a b c f : Int), v = .agg #[.int k a, .int k b, .int k c, .int k f] ∧ d = .agg [.lit (.int k a), .lit (.int k b), .lit (.int k c), .lit (.int k f)] ∧ (Lit.int k a).wf = true ∧ (Lit.int k b).wf = true ∧ (Lit.int k c).wf = true ∧ (Lit.int k f).wf = true := by
  obtain ⟨cs, rfl, hsz⟩ : ∃ cs, v = .agg cs ∧ cs.size = P.cellsOf t := by
    simp only [Value.okWide, ht] at hv
    obtain ⟨cs, h1, h2, _⟩ := hv
    exact ⟨cs, h1, h2⟩
  obtain ⟨fuel, hf⟩ := h
  obtain ⟨xs, n, _, hx, hlen, hxs, hfl⟩ := DataW.trod_array ht hf
  simp only [Prod.mk.injEq] at hx
  obtain ⟨cs⟩ := cs
  have hl4 : cs.length = 4 := by rw [hct] at hsz; simpa using hsz
  rw [hce] at hfl
  match cs, hl4, xs, hxs with
  | [c0, c1, c2, c3], _, [y0, y1, y2, y3], _ =>
    obtain ⟨a, e0, f0, w0⟩ := DataW.trod_int he (show DataW.trod enc P W 0 sp held n e [c0] = some y0 from hfl 0 (by omega))
    obtain ⟨b, e1, f1, w1⟩ := DataW.trod_int he (show DataW.trod enc P W 0 sp held n e [c1] = some y1 from hfl 1 (by omega))
    obtain ⟨c, e2, f2, w2⟩ := DataW.trod_int he (show DataW.trod enc P W 0 sp held n e [c2] = some y2 from hfl 2 (by omega))
    obtain ⟨f, e3, f3, w3⟩ := DataW.trod_int he (show DataW.trod enc P W 0 sp held n e [c3] = some y3 from hfl 3 (by omega))
    cases e0; cases e1; cases e2; cases e3
    subst f0; subst f1; subst f2; subst f3
    exact ⟨a, b, c, f, rfl, hx.1, w0, w1, w2, w3⟩

theorem closed_arr4 {k : IntKind} {a b c d : Int} : closedC (.agg #[.int k a, .int k b, .int k c, .int k d]) = true := rfl
end
end Go.Ev.Wk
namespace Go.Proofs.YtlhkndjloeoodaaGreat.arcCopies
open Go.Ev Go.Ev.Wk Go.ChangeShapes Go.WideShapes Go.ChangeAt Go.RowKit
open Go.ChangeMaps (open_string shut_string)
set_option linter.unusedVariables false
set_option linter.unusedSimpArgs false

theorem ints_u8 {O : Old} {a : Option Addr} {n c : Nat} {l : List Int} (hl : ∀ H, Sl O H (.slice a n c) 1 n (l.map (.int .u8))) (hw : ∀ x ∈ l, (Lit.int .u8 x).wf = true) : ∃ l' : List UInt8, ∀ H, Sl O H (.slice a n c) 1 n (l'.map by8) := by
  refine ⟨l.map fun x => UInt8.ofNat x.toNat, ?_⟩
  have e : (l.map fun x => UInt8.ofNat x.toNat).map by8 = l.map (.int .u8) := by
    rw [List.map_map]
    refine List.map_congr_left fun x hx => ?_
    have := wf_u8 (hw x hx)
    rw [Function.comp, by8_ofNat (by omega), Int.toNat_of_nonneg this.1]
  rw [e]; exact hl

set_option maxHeartbeats 4000000 in
set_option maxRecDepth 100000 in
theorem contract (H : Type) (enc : TypeId × Value → H) (W : World) (base : Nat) (args : Array Value) (ds gs : List (DataW H)) (before : List MemPlace)
    (hval : ∀ (j : Nat) t v, Tryz.f6.params[j]? = some t → args[j]? = some v → Value.okWide Tryz.prog W .any 0 t v)
    (hW : DataW.Whole enc Tryz.prog Tryz.f6.params.toList Rows.arcCopiesSpec.vars false W args.toList ds gs before) :
    Calls Tryz.prog 6 args W fun e W' => ∃ v, e = .returned v ∧ Rows.arcCopiesSpec.post enc Tryz.prog Tryz.f6 false true false false W args v W' := by
  have hW' := hW
  obtain ⟨p, q, hA0, hV, rfl, hfz, hnd⟩ := hW
  have hA : DataW.TrodAll enc Tryz.prog W 0 (fun _ => true) true Tryz.f6.params.toList args.toList ds p := hA0
  rw [Tryz.params6] at hA hval
  obtain ⟨v0, vs0, d0, ds0, p0, q0, hargs, rfl, rfl, h0, r0⟩ := trodAll_cons hA
  obtain ⟨v1, vs1, d1, ds1, p1, q1, rfl, rfl, rfl, h1, r1⟩ := trodAll_cons r0
  obtain ⟨rfl, rfl, rfl⟩ := trodAll_nil r1
  obtain rfl : args = #[v0, v1] := by cases args; simp_all
  obtain ⟨rfl, rfl⟩ := trodVars_none hV
  have hlt := hW'.lt
  obtain ⟨x01, x02, x03, x04, rfl, rfl, w01, w02, w03, w04⟩ := arg_arr4 (k := .u8) Tryz.underlying25 Tryz.underlying5 (by kernel_rfl) (by kernel_rfl) (hval 0 25 v0 rfl rfl) h0
  obtain ⟨a1, n1, c1, l1, rfl, e1, f1, s1, z1⟩ := arg_ints (k := .u8) Tryz.underlying26 Tryz.underlying5 (by kernel_rfl) (hval 1 26 v1 rfl rfl) h1
  obtain ⟨l8, s8⟩ := ints_u8 s1 z1
  have hcall : Holds Tryz.prog 6 [.agg #[.int .u8 x01, .int .u8 x02, .int .u8 x03, .int .u8 x04], .slice a1 n1 c1] W :=
    law_walk (fn := Tryz.f6) (by kernel_rfl) (by kernel_rfl) (by kernel_rfl) (allC_cons closed_arr4 (allC_cons f1 rfl)) (CallC.mono (arcCopies_walk (wf_u8 w01) (wf_u8 w04) s8) fun v H' h => h.1)
  refine Calls.mono hcall fun e W' hh => ?_
  obtain ⟨he, hg⟩ := hh
  subst he
  refine ⟨_, rfl, post_mine (pv := []) hW' hg (fun _ _ _ => (trodAll_cons_mk (shut_bool Tryz.underlying4 _) trodAll_mk0)) (fun sp hs => trodAll_stays (by kernel_rfl) hg (by kernel_rfl) hA0 (fun x hx => hlt x (by simpa using hx)) (fun x hx => hs x (by simpa using hx))) (fun _ _ => rfl) rfl
    (ok_one (by kernel_rfl) rfl (okWide_bool_mk Tryz.underlying4 _))⟩

set_option maxRecDepth 100000 in
theorem lifted (os : Os) (started : os.Started) (H : Type) (enc : TypeId × Value → H) :
    ReturnsInHanded {} Tryz.checked os 6 .any (Rows.arcCopiesSpec.pre6 enc Tryz.prog Tryz.f6 Rows.arcCopiesRow.domain false) (Rows.arcCopiesSpec.post enc Tryz.prog Tryz.f6 false true false false) := by
  refine returnsInHanded_of_change (C := Tryz.checked) own started (by kernel_rfl) Tryz.func6
    (ChangeSpec.witness6 (enc := enc) (C := Tryz.checked) false ⟨#[], #[.agg #[.int .u8 0, .int .u8 0, .int .u8 0, .int .u8 0], .slice none 0 0], []⟩ 8 (by kernel_rfl) (by kernel_rfl) (by kernel_rfl) (by kernel_rfl)) ?_
  intro W base args ds gs before hval hW _ _
  exact contract H enc W base args ds gs before hval hW

theorem proved : Rows.ArcCopiesSaid :=
  OpenClaim.holds_of_wide 6 Tryz.f6 rfl rfl rfl rfl rfl rfl rfl ⟨rfl, rfl, rfl, rfl, rfl⟩ rfl rfl rfl rfl rfl (by kernel_rfl) Tryz.func6 (by kernel_rfl)
    (of_decide_eq_true (by kernel_rfl)) (by unfold Func.isWrapper; first | (rw [if_pos (by decide +kernel)]; kernel_rfl) | (rw [if_neg (by decide +kernel)]; exact ⟨rfl, rfl⟩))
    (fun os started H enc _ => lifted os started H enc)
end Go.Proofs.YtlhkndjloeoodaaGreat.arcCopies
