/-
  Lemmas for the laws of this seat.
-/
import Derived.Test.YtlhkndjloeoodaaGreatK11
set_option linter.unusedVariables false
set_option linter.unusedSimpArgs false
namespace Go.Proofs.YtlhkndjloeoodaaGreat
structure LimA (cl : List PC) (d : Int) : Prop where
  right : rightA cl = decide (d ≤ 0)
  wf : ∀ c ∈ cl, WfC c
  sh : ∀ c ∈ cl, ShC c
  cnt : cntA cl ≤ 3333
theorem lim_of {c : PC} {d : Int} (h1 : d ≤ 0 → RtC c) (h2 : ¬ d ≤ 0 → ¬ RtC c) (hw : WfC c) (hs : ShC c) (hc : cntC c ≤ 3333) : LimA [c] d := by
  have hw' : ∀ x ∈ [c], WfC x := fun x h => by cases List.mem_singleton.1 h; exact hw
  have hc' : cntA [c] ≤ 3333 := by simp only [cntA, List.map_cons, List.map_nil, List.sum_cons, List.sum_nil]; omega
  refine ⟨?_, hw', fun x h => by cases List.mem_singleton.1 h; exact hs, hc'⟩
  by_cases hd : d ≤ 0
  · rw [decide_eq_true hd]
    exact rightA_of (fun x h => by cases List.mem_singleton.1 h; exact h1 hd) hw' (by simp) hc'
  · rw [decide_eq_false hd, Bool.eq_false_iff]
    intro h
    simp only [rightA, Bool.and_eq_true, rightCs, allB_iff] at h
    exact h2 hd (rightC_iff.1 (h.1.2 c (by simp)))
abbrev limC (ifs : List (List UInt8)) (fl : List FV) (ml : List PM) : PC := ⟨[67], [79, 98, 106, 101, 99, 116], ifs, 1, fl, ml⟩
abbrev limM (ps : List (Int × List UInt8)) (lo : Int) (cl : List Ins) (hl : List HV) : PM := ⟨[109], ps, 5, [], false, false, lo, cl, hl⟩
abbrev limF : FV := ⟨[102], 1, [], false⟩
abbrev limI : Ins := ⟨6, 0, 0, [], [], [], []⟩
abbrev limH : HV := ⟨0, 0, 0, [70, 97, 117, 108, 116]⟩
theorem mem_rep {α : Type} {n : Nat} {x y : α} (h : y ∈ List.replicate n x) : y = x := (List.mem_replicate.1 h).2
theorem lim_rt {ifs : List (List UInt8)} {fl : List FV} {ml : List PM} (h1 : ifs.length ≤ 20) (h2 : ∀ s ∈ ifs, s = [73]) (h3 : fl.length ≤ 100) (h4 : ∀ f ∈ fl, f = limF) (h5 : ml.length ≤ 100) (h6 : ∀ m ∈ ml, RtM m) : RtC (limC ifs fl ml) :=
  ⟨(by decide : nameL [67] = true), (by decide : nameL [79, 98, 106, 101, 99, 116] = true), h1, fun s hs => by rw [h2 s hs]; decide, (by decide : (1 : Int) ≤ 1 ∧ (1 : Int) ≤ 4), h3, fun f hf => by rw [h4 f hf]; decide, h5, h6⟩
theorem lim_wf {ifs : List (List UInt8)} {fl : List FV} {ml : List PM} (h1 : ifs.length ≤ 1000000) (h2 : ∀ s ∈ ifs, s = [73]) (h3 : fl.length ≤ 1000000) (h4 : ∀ f ∈ fl, f = limF) (h5 : ml.length ≤ 1000000) (h6 : ∀ m ∈ ml, WfM m) : WfC (limC ifs fl ml) :=
  ⟨by simp, by simp, fun s hs => by rw [h2 s hs]; simp, fun f hf => by rw [h4 f hf]; simp, h6, h1, h3, h5⟩
theorem lim_rtM {ps : List (Int × List UInt8)} {lo : Int} {cl : List Ins} {hl : List HV} (h1 : ps.length ≤ 8) (h2 : ∀ p ∈ ps, p = (1, [])) (h3 : 0 ≤ lo ∧ lo ≤ 200) (h4 : cl.length ≤ 2000) (h5 : ∀ i ∈ cl, i = limI) (h6 : hl.length ≤ 50) (h7 : ∀ h ∈ hl, h = limH) : RtM (limM ps lo cl hl) :=
  ⟨(by decide : nameL [109] = true), h1, fun p hp => by rw [h2 p hp]; decide, (by decide : rightL 5 [] = true), h3, h4, fun i hi => by rw [h5 i hi]; decide, h6, fun h hh => by rw [h7 h hh]; decide⟩
theorem lim_wfM {ps : List (Int × List UInt8)} {lo : Int} {cl : List Ins} {hl : List HV} (h1 : ps.length ≤ 1000000) (h2 : ∀ p ∈ ps, p = (1, [])) (h4 : cl.length ≤ 1000000) (h5 : ∀ i ∈ cl, i = limI) (h6 : hl.length ≤ 1000000) (h7 : ∀ h ∈ hl, h = limH) : WfM (limM ps lo cl hl) :=
  ⟨by simp, fun p hp => by rw [h2 p hp]; simp, by simp, fun i hi => by rw [h5 i hi]; exact ⟨by simp, by simp, by simp, by simp, by simp⟩, fun h hh => by rw [h7 h hh]; simp, h1, h4, h6⟩
theorem lim_sh0 {ifs : List (List UInt8)} {fl : List FV} : ShC (limC ifs fl []) := ⟨(fun _ h => by cases h), (fun _ h => by cases h)⟩
theorem lim_shM {ps : List (Int × List UInt8)} {lo : Int} {cl : List Ins} {hl : List HV} (h1 : ps.length ≤ 10) (h2 : ∀ p ∈ ps, p = (1, [])) (h5 : ∀ i ∈ cl, i = limI) : ShC (limC [] [] [limM ps lo cl hl]) := by
  refine ⟨fun m hm => ?_, fun m hm i hi => ?_⟩
  · cases List.mem_singleton.1 hm
    have h4 := ofP_len (B := 0) (l := ps) (fun x hx => by rw [h2 x hx]; simp) ps.length (Nat.le_refl _)
    have h5 := typeL_len 5 []
    have h6 : ps.length * (0 + 2) ≤ 10 * 2 := Nat.mul_le_mul_right 2 h1
    show (ofL ps 5 []).length ≤ 70
    rw [ofL, List.length_append, List.length_append]
    simp only [List.length_cons, List.length_nil] at *
    omega
  · cases List.mem_singleton.1 hm
    rw [h5 i hi]; simp
theorem nil_all {α : Type} {x : α} : ∀ s ∈ ([] : List α), s = x := fun _ h => by cases h
theorem no_m {P : PM → Prop} : ∀ m ∈ ([] : List PM), P m := fun _ h => by cases h
theorem one_m {P : PM → Prop} {m : PM} (h : P m) : ∀ x ∈ [m], P x := fun x hx => by cases List.mem_singleton.1 hx; exact h
theorem lim_classes {m : Nat} {d : Int} (h : (m : Int) = 400 + d) (hd : -2 ≤ d ∧ d ≤ 2) : LimA (List.replicate m (limC [] [] [])) d := by
  have hrt : RtC (limC [] [] []) := lim_rt (by simp) nil_all (by simp) nil_all (by simp) no_m
  have hw : ∀ c ∈ List.replicate m (limC [] [] []), WfC c := fun c hc => by rw [mem_rep hc]; exact lim_wf (by simp) nil_all (by simp) nil_all (by simp) no_m
  have hc : cntA (List.replicate m (limC [] [] [])) ≤ 3333 := by
    have : cntC (limC [] [] []) = 1 := rfl
    simp only [cntA, List.map_replicate, List.sum_replicate_nat, this]; omega
  refine ⟨?_, hw, fun c hc => by rw [mem_rep hc]; exact lim_sh0, hc⟩
  by_cases hd0 : d ≤ 0
  · rw [decide_eq_true hd0]
    exact rightA_of (fun c hc => by rw [mem_rep hc]; exact hrt) hw (by rw [List.length_replicate]; omega) hc
  · rw [decide_eq_false hd0, Bool.eq_false_iff]
    intro h'
    simp only [rightA, Bool.and_eq_true, rightCs, allB_iff, List.length_replicate] at h'
    omega
theorem lim_fields {m : Nat} {d : Int} (h : (m : Int) = 100 + d) (hd : -2 ≤ d ∧ d ≤ 2) : LimA [limC [] (List.replicate m limF) []] d :=
  lim_of (fun h0 => lim_rt (by simp) nil_all (by rw [List.length_replicate]; omega) (fun _ => mem_rep) (by simp) no_m) (fun h0 h' => by have := h'.fln; rw [List.length_replicate] at this; omega)
    (lim_wf (by simp) nil_all (by rw [List.length_replicate]; omega) (fun _ => mem_rep) (by simp) no_m) lim_sh0 (by simp only [cntC, List.length_replicate, List.length_nil, List.map_nil, List.sum_nil]; omega)
theorem lim_ifaces {m : Nat} {d : Int} (h : (m : Int) = 20 + d) (hd : -2 ≤ d ∧ d ≤ 2) : LimA [limC (List.replicate m [73]) [] []] d :=
  lim_of (fun h0 => lim_rt (by rw [List.length_replicate]; omega) (fun _ => mem_rep) (by simp) nil_all (by simp) no_m) (fun h0 h' => by have := h'.ifn; rw [List.length_replicate] at this; omega)
    (lim_wf (by rw [List.length_replicate]; omega) (fun _ => mem_rep) (by simp) nil_all (by simp) no_m) lim_sh0 (by simp only [cntC, List.length_replicate, List.length_nil, List.map_nil, List.sum_nil]; omega)
theorem lim_meth {ps : List (Int × List UInt8)} {lo : Int} {cl : List Ins} {hl : List HV} {d : Int} (h1 : d ≤ 0 → RtM (limM ps lo cl hl)) (h2 : ¬ d ≤ 0 → ¬ RtM (limM ps lo cl hl)) (hw : WfM (limM ps lo cl hl)) (h3 : ps.length ≤ 10) (h4 : ∀ p ∈ ps, p = (1, [])) (h5 : ∀ i ∈ cl, i = limI) (h6 : cl.length + hl.length ≤ 3000) : LimA [limC [] [] [limM ps lo cl hl]] d :=
  lim_of (fun h0 => lim_rt (by simp) nil_all (by simp) nil_all (by simp) (one_m (h1 h0))) (fun h0 h' => h2 h0 (h'.ml _ (List.mem_singleton.2 rfl)))
    (lim_wf (by simp) nil_all (by simp) nil_all (by simp) (one_m hw)) (lim_shM h3 h4 h5) (by simp only [cntC, cntM, List.length_nil, List.map_cons, List.map_nil, List.sum_cons, List.sum_nil]; omega)
theorem lim_params {m : Nat} {d : Int} (h : (m : Int) = 8 + d) (hd : -2 ≤ d ∧ d ≤ 2) : LimA [limC [] [] [limM (List.replicate m (1, [])) 0 [] []]] d :=
  lim_meth (fun h0 => lim_rtM (by rw [List.length_replicate]; omega) (fun _ => mem_rep) (by omega) (by simp) nil_all (by simp) nil_all) (fun h0 h' => by have := h'.psn; rw [List.length_replicate] at this; omega)
    (lim_wfM (by rw [List.length_replicate]; omega) (fun _ => mem_rep) (by simp) nil_all (by simp) nil_all) (by rw [List.length_replicate]; omega) (fun _ => mem_rep) nil_all (by simp)
theorem lim_code {m : Nat} {d : Int} (h : (m : Int) = 2000 + d) (hd : -2 ≤ d ∧ d ≤ 2) : LimA [limC [] [] [limM [] 0 (List.replicate m limI) []]] d :=
  lim_meth (fun h0 => lim_rtM (by simp) nil_all (by omega) (by rw [List.length_replicate]; omega) (fun _ => mem_rep) (by simp) nil_all) (fun h0 h' => by have := h'.cln; rw [List.length_replicate] at this; omega)
    (lim_wfM (by simp) nil_all (by rw [List.length_replicate]; omega) (fun _ => mem_rep) (by simp) nil_all) (by simp) nil_all (fun _ => mem_rep) (by rw [List.length_replicate]; simp; omega)
theorem lim_locals {d : Int} (hd : -2 ≤ d ∧ d ≤ 2) : LimA [limC [] [] [limM [] (200 + d) [] []]] d :=
  lim_meth (fun h0 => lim_rtM (by simp) nil_all (by omega) (by simp) nil_all (by simp) nil_all) (fun h0 h' => by have := h'.lo; simp only at this; omega)
    (lim_wfM (by simp) nil_all (by simp) nil_all (by simp) nil_all) (by simp) nil_all nil_all (by simp)
theorem lim_handlers {m : Nat} {d : Int} (h : (m : Int) = 50 + d) (hd : -2 ≤ d ∧ d ≤ 2) : LimA [limC [] [] [limM [] 0 [] (List.replicate m limH)]] d :=
  lim_meth (fun h0 => lim_rtM (by simp) nil_all (by omega) (by simp) nil_all (by rw [List.length_replicate]; omega) (fun _ => mem_rep)) (fun h0 h' => by have := h'.hln; rw [List.length_replicate] at this; omega)
    (lim_wfM (by simp) nil_all (by simp) nil_all (by rw [List.length_replicate]; omega) (fun _ => mem_rep)) (by simp) nil_all nil_all (by rw [List.length_replicate]; simp; omega)
end Go.Proofs.YtlhkndjloeoodaaGreat
