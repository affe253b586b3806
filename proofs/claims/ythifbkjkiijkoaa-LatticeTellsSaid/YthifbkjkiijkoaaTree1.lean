/-
  Walks: lists of texts searched; sets of texts; a tree's classes.
-/
import Derived.Test.YthifbkjkiijkoaaEvTab
import Derived.Test.YthifbkjkiijkoaaEvZ
namespace Go.Proofs.Ythifbkjkiijkoaa
open Go.Ev Go.Ev.Wk
set_option linter.unusedVariables false
set_option linter.unusedSimpArgs false
variable {O : Old}


theorem str_get {l : List (List UInt8)} {i : Nat} {x : List UInt8} (h : l[i]? = some x) : (l.map str)[i]? = some (str x) := by
  rw [List.getElem?_map, h]; rfl

/-- where a text stands in a list -/
def idxL (l : List (List UInt8)) (x : List UInt8) : Int := match l.findIdx? (· == x) with | some i => (i : Int) | none => -1

theorem idxL_some {l : List (List UInt8)} {x : List UInt8} {i : Nat} (h : l[i]? = some x) (hp : ∀ j y, j < i → l[j]? = some y → y ≠ x) : idxL l x = i := by
  have : l.findIdx? (· == x) = some i := by
    obtain ⟨hi, rfl⟩ := List.getElem?_eq_some_iff.1 h
    rw [List.findIdx?_eq_some_iff_getElem]
    refine ⟨hi, by simp, fun j hj => ?_⟩
    have := hp j l[j] hj (List.getElem?_eq_getElem (by omega))
    simpa using this
  rw [idxL, this]

theorem idxL_none {l : List (List UInt8)} {x : List UInt8} (hp : ∀ (j : Nat) y, l[j]? = some y → y ≠ x) : idxL l x = -1 := by
  have : l.findIdx? (· == x) = none := by
    rw [List.findIdx?_eq_none_iff]
    intro y hy
    obtain ⟨j, hj⟩ := List.getElem?_of_mem hy
    simpa using hp j y hj
  rw [idxL, this]

theorem idxL_pos (l : List (List UInt8)) (x : List UInt8) : decide (idxL l x ≥ 0) = decide (x ∈ l) := by
  rw [decide_eq_decide]
  constructor
  · intro h
    cases hf : l.findIdx? (· == x) with
    | none => rw [idxL, hf] at h; simp at h
    | some i =>
      obtain ⟨hi, e, _⟩ := List.findIdx?_eq_some_iff_getElem.1 hf
      have : l[i] = x := by simpa using e
      rw [← this]; exact List.getElem_mem hi
  · intro h
    cases hf : l.findIdx? (· == x) with
    | none =>
      have := List.findIdx?_eq_none_iff.1 hf x h
      simp at this
    | some i => rw [idxL, hf]; simp only; omega

set_option maxHeartbeats 8000000 in
set_option maxRecDepth 100000 in
theorem index_ok {H : Heap} {a : Option Addr} {n c : Nat} {l : List (List UInt8)} {x : List UInt8} (hs0 : Sl O H (.slice a n c) 1 n (l.map str)) (hn : n ≤ 1000000) :
    CallC TT O 72 [.slice a n c, str x] H fun v H' => v = .int .i64 (idxL l x) ∧ Ext H H' := by
  have hl : l.length = n := by have := hs0.1; simpa using this
  refine call_pure rfl rfl rfl rfl rfl ?_
  repeat (first | refine zr ?_ | (refine zn ?_; intro _))
  refine ExecS.weak (E' := [(0, .slice a n c), (1, str x), (7, .int .i64 (n : Int)), (8, .int .i64 ((0 : Nat) : Int))]) ⟨rfl, rfl, rfl, rfl, trivial⟩ (List.Sublist.refl _) ?_
  refine exec_loop (fun k E L => ∃ i : Nat, i + k = n ∧ (∀ j y, j < i → l[j]? = some y → y ≠ x) ∧ E = [(0, .slice a n c), (1, str x), (7, .int .i64 (n : Int)), (8, .int .i64 (i : Int))] ∧ L = []) ?_ n _ _ ⟨0, by omega, fun j y hj => by omega, rfl, rfl⟩
  rintro k E L ⟨i, hik, hpre, rfl, rfl⟩
  repeat (first | refine zr ?_ | (refine zn ?_; intro _))
  refine exec_cond rfl (fun hlt => ?_) (fun hge => ?_)
  · have hi : i < n := by simp at hlt; omega
    obtain ⟨y, hy⟩ : ∃ y, l[i]? = some y := ⟨_, List.getElem?_eq_getElem (by omega)⟩
    repeat (first | refine zr ?_ | (refine zn ?_; intro _))
    (first | apply ops_pl rfl rfl rfl ?_ rfl ?_ | apply draw_pl rfl rfl rfl rfl ?_ rfl rfl ?_); rotate_left; focus exact (.p rfl (opP_idx rfl rfl hs0 rfl rfl (by omega) (by omega)))
    (first | apply ops_pl rfl rfl rfl ?_ rfl ?_ | apply draw_pl rfl rfl rfl rfl ?_ rfl rfl ?_); rotate_left; focus exact (.l rfl (fun H hs => opL_load rfl ((hs0.at hs).ld rfl (str_get hy))))
    first | refine ops_pl rfl rfl rfl (PL.eqStrs (a := x) (b := y) rfl rfl rfl) rfl ?_ | refine draw_pl rfl rfl rfl rfl (PL.eqStrs (a := x) (b := y) rfl rfl rfl) rfl rfl ?_
    cases hxy : decide (x = y)
    · have hne := of_decide_eq_false hxy
      repeat (first | refine zr ?_ | (refine zn ?_; intro _))
      refine ⟨k - 1, by omega, _, _, ?_, List.Sublist.refl _, i + 1, by omega, fun j z hj hz => ?_, rfl, rfl⟩
      · exact ⟨rfl, rfl, rfl, rfl, trivial⟩
      · by_cases hji : j = i
        · subst hji
          rw [hy] at hz
          cases hz
          exact fun e => hne e.symm
        · exact hpre j z (by omega) hz
    · have he := of_decide_eq_true hxy
      subst he
      repeat (first | refine zr ?_ | (refine zn ?_; intro _))
      exact ⟨trivial, _, rfl, by rw [idxL_some hy hpre]; rfl⟩
  · have hi : n ≤ i := by simp at hge; omega
    repeat (first | refine zr ?_ | (refine zn ?_; intro _))
    refine ⟨trivial, _, rfl, ?_⟩
    rw [idxL_none fun j y hj => hpre j y (by have := (List.getElem?_eq_some_iff.1 hj).1; omega) hj]
    rfl

set_option maxHeartbeats 8000000 in
set_option maxRecDepth 100000 in
theorem contains_ok {H : Heap} {a : Option Addr} {n c : Nat} {l : List (List UInt8)} {x : List UInt8} (hs0 : Sl O H (.slice a n c) 1 n (l.map str)) (hn : n ≤ 1000000) :
    CallC TT O 49 [.slice a n c, str x] H fun v H' => v = .bool (decide (x ∈ l)) ∧ Ext H H' := by
  refine call_pure rfl rfl rfl rfl rfl ?_
  repeat (first | refine zr ?_ | (refine zn ?_; intro _))
  refine ops_step rfl rfl rfl (step_call_pure rfl rfl rfl (fun H hs => index_ok (hs0.at hs) hn) ?_)
  repeat (first | refine zr ?_ | (refine zn ?_; intro _))
  exact ⟨trivial, _, rfl, by rw [← idxL_pos]; rfl⟩

/-- an empty set -/
abbrev setA (sb mm : Nat) (es : List (Value × Value)) : Atoms := [(some sb, .cells 0 [.map (some mm)] 0 120), (some mm, .map es)]

set_option maxHeartbeats 8000000 in
set_option maxRecDepth 100000 in
theorem setNew_ok {H : Heap} (hst : St (blksOf []) H H []) : FpC TT O 55 [.slice none 0 0] H [] fun v F' => ∃ sb mm, v = .pointer (some ⟨sb, 0, some 0⟩) ∧ F' = setA sb mm [] := by
  refine call_fp rfl rfl rfl rfl rfl hst ?_
  repeat (first | refine zr ?_ | (refine zn ?_; intro _))
  refine exec_loop_step ?_
  repeat (first | refine zr ?_ | (refine zn ?_; intro _))
  exact ⟨trivial, _, rfl, _, [], List.Perm.refl _, _, _, rfl, rfl⟩

set_option maxHeartbeats 8000000 in
set_option maxRecDepth 100000 in
theorem setAdd_ok {H : Heap} {sb mm : Nat} {es : List (Value × Value)} {f : List UInt8 → Option Value} {x : List UInt8} (hst : St (blksOf (setA sb mm es)) H H (setA sb mm es)) (hf : Says es f) (hx : f x = none) :
    FpC TT O 56 [.pointer (some ⟨sb, 0, some 0⟩), str x] H (setA sb mm es) fun v F' => v = .bool true ∧ ∃ es', F' = setA sb mm es' ∧ Says es' fun s => if s = x then some (.bool true) else f s := by
  refine call_fp rfl rfl rfl rfl rfl hst ?_
  repeat (first | refine zr ?_ | (refine zn ?_; intro _))
  (first | apply ops_pl rfl rfl rfl ?_ rfl ?_ | apply draw_pl rfl rfl rfl rfl ?_ rfl rfl ?_); rotate_left; focus exact (.l rfl (look_map 1 rfl rfl rfl hf rfl (show _ = Value.bool false by rw [hx]; rfl)))
  repeat (first | refine zr ?_ | (refine zn ?_; intro _))
  refine ops_step rfl rfl rfl (step_mapUpdate 1 rfl rfl rfl rfl rfl hf rfl rfl (fun es2 says2 => ?_))
  repeat (first | refine zr ?_ | (refine zn ?_; intro _))
  exact ⟨trivial, _, rfl, _, [], List.Perm.refl _, rfl, _, rfl, says2⟩

/-- a field -/
structure FV where
  nm : List UInt8
  tk : Int
  tc : List UInt8
  st : Bool
abbrev FV.cells (f : FV) : List Value := [str f.nm, .int .i64 f.tk, str f.tc, .bool f.st]

/-- a method without params, and where its code lies -/
structure MV where
  nm : List UInt8
  rk : Int
  rc : List UInt8
  st : Bool
  ab : Bool
  lo : Int
  ca : Option Addr
  cN : Nat
  cc : Nat
abbrev MV.cells (m : MV) : List Value := [str m.nm, .slice none 0 0, .int .i64 m.rk, str m.rc, .bool m.st, .bool m.ab, .int .i64 m.lo, .slice m.ca m.cN m.cc, .slice none 0 0]
abbrev MV.val (m : MV) : Value := .agg m.cells.toArray

/-- a class, as it lies in memory; the names of its interfaces; its fields and methods, where 'core' says that they are known -/
structure CV where
  nm : List UInt8
  su : List UInt8
  ia : Option Addr
  iN : Nat
  ic : Nat
  kd : Int
  fa : Option Addr
  fN : Nat
  fc : Nat
  ma : Option Addr
  mN : Nat
  mc : Nat
  ifs : List (List UInt8)
  core : Bool
  fl : List FV
  ml : List MV

abbrev CV.cells (c : CV) : List Value := [str c.nm, str c.su, .slice c.ia c.iN c.ic, .int .i64 c.kd, .slice c.fa c.fN c.fc, .slice c.ma c.mN c.mc]
abbrev CV.val (c : CV) : Value := .agg c.cells.toArray
def CV.zero : CV := ⟨[], [], none, 0, 0, 0, none, 0, 0, none, 0, 0, [], true, [], []⟩

/-- what a class points to can be read -/
structure ClsF (O : Old) (H : Heap) (c : CV) : Prop where
  ifs : Sl O H (.slice c.ia c.iN c.ic) 1 c.iN (c.ifs.map str)
  iN : c.iN ≤ 1000000
  fs : c.core = true → Sl O H (.slice c.fa c.fN c.fc) 4 c.fN (c.fl.flatMap FV.cells)
  ms : c.core = true → Sl O H (.slice c.ma c.mN c.mc) 9 c.mN (c.ml.flatMap MV.cells)

/-- a tree, as it lies in memory -/
structure TreeH (O : Old) (H : Heap) (tb mb : Nat) (lv : Value) (g : List UInt8 → Option CV) : Prop where
  tree : Has H tb (.cells 0 [.map (some mb), lv] 0 78)
  map : ∃ es, Has H mb (.map es) ∧ Says es fun s => (g s).map CV.val
  cls : ∀ s c, g s = some c → ClsF O H c

abbrev TreeK (O : Old) (H : Heap) (tb mb : Nat) (lv : Value) (g : List UInt8 → Option CV) : Prop := Keep [] H fun H' => TreeH O H' tb mb lv g

abbrev ptr (b : Nat) : Value := .pointer (some ⟨b, 0, some 0⟩)
def getC (g : List UInt8 → Option CV) (s : List UInt8) : CV := (g s).getD CV.zero

set_option maxHeartbeats 8000000 in
set_option maxRecDepth 100000 in
theorem known_ok {H : Heap} {tb mb : Nat} {lv : Value} {g : List UInt8 → Option CV} {s : List UInt8} (ht : TreeK O H tb mb lv g) :
    CallC TT O 38 [ptr tb, str s] H fun v H' => v = .bool (g s).isSome ∧ Ext H H' := by
  refine call_pure rfl rfl rfl rfl rfl ?_
  repeat (first | refine zr ?_ | (refine zn ?_; intro _))
  (first | apply ops_pl rfl rfl rfl ?_ rfl ?_ | apply draw_pl rfl rfl rfl rfl ?_ rfl rfl ?_); rotate_left; focus exact (.l rfl (look_hasO (fun H hs => (ht.at hs).tree) rfl rfl rfl))
  repeat (first | refine zr ?_ | (refine zn ?_; intro _))
  cases hg : g s with
  | none =>
    (first | apply ops_pl rfl rfl rfl ?_ rfl ?_ | apply draw_pl rfl rfl rfl rfl ?_ rfl rfl ?_); rotate_left; focus exact (.l rfl (look_mapO (fun H hs => (ht.at hs).map) rfl rfl rfl (by simp only [hg]; rfl)))
    repeat (first | refine zr ?_ | (refine zn ?_; intro _))
    exact ⟨trivial, _, rfl, rfl⟩
  | some c =>
    (first | apply ops_pl rfl rfl rfl ?_ rfl ?_ | apply draw_pl rfl rfl rfl rfl ?_ rfl rfl ?_); rotate_left; focus exact (.l rfl (look_mapO (fun H hs => (ht.at hs).map) rfl rfl rfl (by simp only [hg]; rfl)))
    repeat (first | refine zr ?_ | (refine zn ?_; intro _))
    exact ⟨trivial, _, rfl, rfl⟩

set_option maxHeartbeats 8000000 in
set_option maxRecDepth 100000 in
theorem super_ok {H : Heap} {tb mb : Nat} {lv : Value} {g : List UInt8 → Option CV} {s : List UInt8} (ht : TreeK O H tb mb lv g) :
    CallC TT O 33 [ptr tb, str s] H fun v H' => v = str (getC g s).su ∧ Ext H H' := by
  refine call_pure rfl rfl rfl rfl rfl ?_
  repeat (first | refine zr ?_ | (refine zn ?_; intro _))
  (first | apply ops_pl rfl rfl rfl ?_ rfl ?_ | apply draw_pl rfl rfl rfl rfl ?_ rfl rfl ?_); rotate_left; focus exact (.l rfl (look_hasO (fun H hs => (ht.at hs).tree) rfl rfl rfl))
  repeat (first | refine zr ?_ | (refine zn ?_; intro _))
  cases hg : g s with
  | none =>
    (first | apply ops_pl rfl rfl rfl ?_ rfl ?_ | apply draw_pl rfl rfl rfl rfl ?_ rfl rfl ?_); rotate_left; focus exact (.l rfl (look_mapO (fun H hs => (ht.at hs).map) rfl rfl rfl (by simp only [hg]; rfl)))
    repeat (first | refine zr ?_ | (refine zn ?_; intro _))
    exact ⟨trivial, _, rfl, by rw [getC, hg]; rfl⟩
  | some c =>
    (first | apply ops_pl rfl rfl rfl ?_ rfl ?_ | apply draw_pl rfl rfl rfl rfl ?_ rfl rfl ?_); rotate_left; focus exact (.l rfl (look_mapO (fun H hs => (ht.at hs).map) rfl rfl rfl (by simp only [hg]; rfl)))
    repeat (first | refine zr ?_ | (refine zn ?_; intro _))
    exact ⟨trivial, _, rfl, by rw [getC, hg]; rfl⟩
end Go.Proofs.Ythifbkjkiijkoaa

