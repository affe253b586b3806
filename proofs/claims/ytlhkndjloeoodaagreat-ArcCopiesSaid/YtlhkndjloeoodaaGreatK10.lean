/-
  Lemmas for the laws of this seat.
-/
import Derived.Test.YtlhkndjloeoodaaGreatK7
import Derived.Test.YtlhkndjloeoodaaGreatK8
import Derived.Test.YtlhkndjloeoodaaGreatK9
import Derived.Test.YtlhkndjloeoodaaGreatK5
set_option linter.unusedVariables false
set_option linter.unusedSimpArgs false
namespace Go.Proofs.YtlhkndjloeoodaaGreat
open Go.Ev Go.Ev.Wk
theorem numGo_enc (most : Int) (r : List UInt8) : ∀ (k n i v : Nat), n < 2 ^ k → i ≤ 8 → n < 2 ^ (63 - 7 * i) → (i = 0 ∨ 0 < n) →
    numGo most (enc n ++ r) i v = if ((v + n * 2 ^ (7 * i) : Nat) : Int) > max most 0 then (0, 0, 22) else (((v + n * 2 ^ (7 * i) : Nat) : Int), ((i + (enc n).length : Nat) : Int), 0)
  | k, n, i, v, hk, hi, hn, h0 => by
    by_cases h1 : n < 128
    · rw [enc_lt h1, List.cons_append, List.nil_append, numGo]
      have hc : (UInt8.ofNat n).toNat = n := by simp [UInt8.toNat_ofNat']; omega
      rw [hc, if_neg (by omega), if_neg (by omega), Nat.mod_eq_of_lt h1]
      rfl
    · have hi7 : i ≤ 7 := by
        rcases Nat.lt_or_ge i 8 with h8 | h8
        · omega
        · have : i = 8 := by omega
          subst this
          simp at hn
          omega
      have hc : (UInt8.ofNat (n % 128 + 128)).toNat = n % 128 + 128 := by simp [UInt8.toNat_ofNat']; omega
      rw [enc_ge h1, List.cons_append, numGo, hc, if_neg (by omega), if_pos (by omega)]
      have e1 : 2 ^ (63 - 7 * i) = 128 * 2 ^ (63 - 7 * (i + 1)) := by
        rw [show 63 - 7 * i = 7 + (63 - 7 * (i + 1)) from by omega, Nat.pow_add]
      have e2 : 2 ^ (7 * (i + 1)) = 128 * 2 ^ (7 * i) := by rw [show 7 * (i + 1) = 7 + 7 * i from by omega, Nat.pow_add]
      match k, hk with
      | 0, hk => simp at hk; omega
      | k + 1, hk =>
      rw [numGo_enc most r k (n / 128) (i + 1) _ (by rw [Nat.pow_succ] at hk; omega) (by omega) (by omega) (.inr (by omega))]
      have e3 : v + (n % 128 + 128) % 128 * 2 ^ (7 * i) + n / 128 * 2 ^ (7 * (i + 1)) = v + n * 2 ^ (7 * i) := by
        rw [e2, show (n % 128 + 128) % 128 = n % 128 from by omega, ← Nat.mul_assoc, Nat.add_assoc, ← Nat.add_mul]
        congr 2
        omega
      rw [e3, List.length_cons, show i + 1 + (enc (n / 128)).length = i + ((enc (n / 128)).length + 1) from by omega]
theorem numR_enc {most : Int} {r : List UInt8} {n : Nat} (hn : n ≤ 9223372036854775807) (h : (n : Int) ≤ max most 0) : numR (enc n ++ r) most = ((n : Int), ((enc n).length : Int), 0) := by
  have := numGo_enc most r 64 n 0 0 (by omega) (by omega) (by omega) (.inl rfl)
  simp only [Nat.mul_zero, Nat.pow_zero, Nat.mul_one, Nat.zero_add] at this
  rw [numR, this, if_neg (by omega)]
theorem textR_enc {most : Int} {s r : List UInt8} (hn : s.length ≤ 1000000) (h : (s.length : Int) ≤ max most 0) : textR (enc s.length ++ s ++ r) most = (s, (enc s.length).length + s.length, 0) := by
  have hr := numR_enc (most := most) (r := s ++ r) (n := s.length) (by omega) h
  rw [List.append_assoc]
  unfold textR
  rw [hr]
  simp only [ne_eq, not_true_eq_false, if_false, Int.toNat_natCast]
  rw [if_neg (by simp only [List.length_append]; omega), List.drop_left, List.take_left]
theorem readTs_back (r : List UInt8) : ∀ ts : List (List UInt8), (∀ s ∈ ts, s.length ≤ 1000) → readTs ts.length (textsB ts ++ r) = (0, ts, r)
  | [], _ => rfl
  | s :: ts, h => by
    have h0 := h s (by simp)
    have ih := readTs_back r ts (fun s hs => h s (by simp [hs]))
    have ht := textR_enc (most := 1000) (s := s) (r := textsB ts ++ r) (by omega) (by omega)
    rw [List.length_cons, readTs, textsB, List.append_assoc, ht]
    simp only [ne_eq, not_true_eq_false, if_false]
    rw [show (enc s.length ++ s ++ (textsB ts ++ r)).drop ((enc s.length).length + s.length) = textsB ts ++ r from by rw [← List.length_append, List.drop_left], ih]
theorem poolR_back {ts : List (List UInt8)} (r : List UInt8) (h : ts.length ≤ 10000) (hs : ∀ s ∈ ts, s.length ≤ 1000) : poolR (poolB ts ++ r) = (0, ts, r) := by
  have hr := numR_enc (most := 10000) (r := textsB ts ++ r) (n := ts.length) (by omega) (by omega)
  rw [poolB, List.append_assoc]
  unfold poolR
  rw [hr]
  simp only [ne_eq, not_true_eq_false, if_false, Int.toNat_natCast]
  rw [List.drop_left]
  exact readTs_back r ts hs
theorem intOf_zig {x : Int} (h : -2147483648 ≤ x ∧ x ≤ 2147483647) : intOf (zig x).toNat = x := by
  unfold zig intOf
  by_cases hx : x < 0
  · rw [if_pos hx, if_pos (by omega)]
    have : -((((-2 * x - 1).toNat + 1) / 2 : Nat) : Int) = x := by omega
    rw [this]
    have e1 : (IntKind.i32.bits) = 32 := rfl
    simp only [IntKind.wrap, e1]
    simp only [show IntKind.i32.signed = true from rfl]
    simp
    omega
  · rw [if_neg hx, if_neg (by omega)]
    have : (((2 * x).toNat / 2 : Nat) : Int) = x := by omega
    rw [this]
    have e1 : (IntKind.i32.bits) = 32 := rfl
    simp only [IntKind.wrap, e1]
    simp only [show IntKind.i32.signed = true from rfl]
    simp
    omega
def Back {α : Type} (p : List (List UInt8) → Pr α) (x : α) (w w' : WS) : Prop :=
  ∃ bs d, w'.1 = w.1 ++ bs ∧ w'.2 = w.2 ++ d ∧ ∀ ts r, w'.2 <+: ts → ts.length ≤ 65536 → p ts (bs ++ r) = .ok (x, r)
theorem Back.ret {α : Type} {x y : α} {w : WS} (h : x = y) : Back (fun _ => pRet y) x w w :=
  ⟨[], [], by simp, by simp, fun ts r _ _ => by subst h; rfl⟩
theorem Back.bind {α β : Type} {p : List (List UInt8) → Pr α} {f : List (List UInt8) → α → Pr β} {x : α} {y : β} {w w1 w2 : WS} (h1 : Back p x w w1) (h2 : Back (fun ts => f ts x) y w1 w2) : Back (fun ts => pBind (p ts) (f ts)) y w w2 := by
  obtain ⟨b1, d1, e1, e1', k1⟩ := h1
  obtain ⟨b2, d2, e2, e2', k2⟩ := h2
  refine ⟨b1 ++ b2, d1 ++ d2, by rw [e2, e1, List.append_assoc], by rw [e2', e1', List.append_assoc], fun ts r hp hl => ?_⟩
  have hp1 : w1.2 <+: ts := List.IsPrefix.trans (by rw [e2']; exact List.prefix_append _ _) hp
  simp only [pBind]
  rw [List.append_assoc, k1 ts (b2 ++ r) hp1 hl]
  exact k2 ts r hp hl
theorem wNum_cons (n : Int) (ns : List Int) (w : WS) : wNum (n :: ns) w = wNum ns (wNum [n] w) := by simp [wNum, encL]
theorem Back.num {n most : Int} {w : WS} (h : 0 ≤ n ∧ n ≤ most) (hm : most ≤ 1000000) : Back (fun _ => pNum most) n w (wNum [n] w) := by
  refine ⟨enc n.toNat, [], by simp [wNum, encL], by simp [wNum], fun ts r _ _ => ?_⟩
  have := numR_enc (most := most) (r := r) (n := n.toNat) (by omega) (by omega)
  simp only [pNum, this]
  rw [if_neg (by simp)]
  rw [Int.toNat_natCast, List.drop_left, Int.toNat_of_nonneg h.1]
theorem Back.int {x : Int} {w : WS} (h : -2147483648 ≤ x ∧ x ≤ 2147483647) : Back (fun _ => pInt) x w (wInt x w) := by
  refine ⟨enc (zig x).toNat, [], by simp [wInt], by simp [wInt], fun ts r _ _ => ?_⟩
  have hz := zig_le h
  have := numR_enc (most := 4294967295) (r := r) (n := (zig x).toNat) (by omega) (by omega)
  simp only [pInt, this]
  rw [if_neg (by simp)]
  rw [Int.toNat_natCast, Int.toNat_natCast, List.drop_left, intOf_zig h]
theorem two_back {k : Nat} (h : k ≤ 65535) (r : List UInt8) : twoR (twoB (k : Int) ++ r) 65535 = ((k : Int), 2, 0) := by
  have e : (min (max (k : Int) 0) 65535).toNat = k := by omega
  have h1 : (UInt8.ofNat (k % 256)).toNat = k % 256 := by simp [UInt8.toNat_ofNat']
  have h2 : (UInt8.ofNat (k / 256)).toNat = k / 256 := by simp [UInt8.toNat_ofNat']; omega
  simp only [twoB, e, List.cons_append, List.nil_append, twoR, h1, h2]
  rw [show k % 256 + k / 256 * 256 = k from by omega, if_neg (by omega)]
theorem putT_pre (ts : List (List UInt8)) (s : List UInt8) : ∃ d, putT ts s = ts ++ d := by
  unfold putT
  split
  · exact ⟨[], by simp⟩
  · exact ⟨[s], rfl⟩
theorem putT_mem (ts : List (List UInt8)) (s : List UInt8) : s ∈ putT ts s := by
  unfold putT
  split
  · assumption
  · simp
theorem Back.text {s : List UInt8} {w : WS} : Back pText s w (wText1 w s) := by
  obtain ⟨d, hd⟩ := putT_pre w.2 s
  refine ⟨twoB (((putT w.2 s).idxOf s : Nat) : Int), d, rfl, hd, fun ts r hp hl => ?_⟩
  have hi : (putT w.2 s).idxOf s < (putT w.2 s).length := List.idxOf_lt_length_iff.2 (putT_mem _ _)
  have hp' : putT w.2 s <+: ts := hp
  have hle := hp'.length_le
  have hg : ts[(putT w.2 s).idxOf s]? = some s := by
    obtain ⟨t, rfl⟩ := hp'
    rw [List.getElem?_append_left hi, List.getElem?_eq_getElem hi, List.getElem_idxOf]
  have h2 := two_back (k := (putT w.2 s).idxOf s) (by omega) r
  simp only [pText, h2]
  rw [if_neg (by simp), Int.toNat_natCast, hg]
  rfl
theorem Back.rep {α : Type} {p : List (List UInt8) → Pr α} {f : WS → α → WS} : ∀ (l : List α) (w : WS), (∀ x ∈ l, ∀ w, Back p x w (f w x)) → Back (fun ts => pRep (p ts) l.length) l w (l.foldl f w)
  | [], w, _ => Back.ret rfl
  | x :: l, w, h => by
    have ih := Back.rep l (f w x) fun y hy => h y (by simp [hy])
    exact Back.bind (f := fun ts x => pBind (pRep (p ts) l.length) fun xs => pRet (x :: xs)) (h x (by simp) w) (Back.bind (f := fun ts xs => pRet (x :: xs)) ih (Back.ret rfl))
theorem Back.list {α : Type} {p : List (List UInt8) → Pr α} {f : WS → α → WS} {most : Int} {l : List α} {w : WS} (hl : (l.length : Int) ≤ most) (hm : most ≤ 1000000) (h : ∀ x ∈ l, ∀ w, Back p x w (f w x)) : Back (fun ts => pList most (p ts)) l w (l.foldl f (wNum [(l.length : Int)] w)) := by
  refine Back.bind (f := fun ts (n : Int) => pRep (p ts) n.toNat) (Back.num (n := (l.length : Int)) (by omega) hm) ?_
  simp only [Int.toNat_natCast]
  exact Back.rep l _ h
theorem Back.ins {i : Ins} (h : rightI i = true) (hw : WfI i) (w : WS) : Back pIns i w (wIns w i) := by
  simp only [rightI, Bool.and_eq_true, decide_eq_true_eq] at h
  obtain ⟨⟨⟨⟨⟨⟨⟨h1, h2⟩, h3⟩, h4⟩, h5⟩, h6⟩, h7⟩, h8⟩ := h
  unfold usedI at h3
  have e : wIns w i = wInsB i (wNum [i.op] w) := rfl
  rw [e]
  unfold wInsB
  refine Back.bind (f := fun ts (o : Int) => if usesZ o = 1 then pBind pInt fun n => pRet (⟨o, n, 0, [], [], [], []⟩ : Ins)
    else if usesZ o = 2 then pBind (pText ts) fun s => pRet (⟨o, 0, 0, s, [], [], []⟩ : Ins)
    else if usesZ o = 3 then pBind (pNum 2000) fun k => pRet (⟨o, 0, k, [], [], [], []⟩ : Ins)
    else if usesZ o = 4 then pBind (pText ts) fun c => pBind (pText ts) fun n => pRet (⟨o, 0, 0, [], c, n, []⟩ : Ins)
    else if usesZ o = 5 then pBind (pText ts) fun c => pBind (pText ts) fun n => pBind (pText ts) fun d => pRet (⟨o, 0, 0, [], c, n, d⟩ : Ins)
    else if usesZ o = 6 then pBind (pText ts) fun c => pRet (⟨o, 0, 0, [], c, [], []⟩ : Ins)
    else pRet (⟨o, 0, 0, [], [], [], []⟩ : Ins)) (Back.num ⟨by omega, h2⟩ (by omega)) ?_
  by_cases c1 : usesZ i.op = 1
  · simp only [if_pos c1] at h3 ⊢
    exact Back.bind (f := fun ts n => pRet (⟨i.op, n, 0, [], [], [], []⟩ : Ins)) (Back.int hw.n) (Back.ret h3)
  by_cases c2 : usesZ i.op = 2
  · simp only [if_neg c1, if_pos c2] at h3 ⊢
    exact Back.bind (f := fun ts s => pRet (⟨i.op, 0, 0, s, [], [], []⟩ : Ins)) Back.text (Back.ret h3)
  by_cases c3 : usesZ i.op = 3
  · simp only [if_neg c1, if_neg c2, if_pos c3] at h3 ⊢
    exact Back.bind (f := fun ts k => pRet (⟨i.op, 0, k, [], [], [], []⟩ : Ins)) (Back.num ⟨h4, h5⟩ (by omega)) (Back.ret h3)
  by_cases c4 : usesZ i.op = 4
  · simp only [if_neg c1, if_neg c2, if_neg c3, if_pos c4] at h3 ⊢
    exact Back.bind (f := fun ts c => pBind (pText ts) fun n => pRet (⟨i.op, 0, 0, [], c, n, []⟩ : Ins)) Back.text (Back.bind (f := fun ts n => pRet (⟨i.op, 0, 0, [], i.cl, n, []⟩ : Ins)) Back.text (Back.ret h3))
  by_cases c5 : usesZ i.op = 5
  · simp only [if_neg c1, if_neg c2, if_neg c3, if_neg c4, if_pos c5] at h3 ⊢
    exact Back.bind (f := fun ts c => pBind (pText ts) fun n => pBind (pText ts) fun d => pRet (⟨i.op, 0, 0, [], c, n, d⟩ : Ins)) Back.text (Back.bind (f := fun ts n => pBind (pText ts) fun d => pRet (⟨i.op, 0, 0, [], i.cl, n, d⟩ : Ins)) Back.text (Back.bind (f := fun ts d => pRet (⟨i.op, 0, 0, [], i.cl, i.nm, d⟩ : Ins)) Back.text (Back.ret h3)))
  by_cases c6 : usesZ i.op = 6
  · simp only [if_neg c1, if_neg c2, if_neg c3, if_neg c4, if_neg c5, if_pos c6] at h3 ⊢
    exact Back.bind (f := fun ts c => pRet (⟨i.op, 0, 0, [], c, [], []⟩ : Ins)) Back.text (Back.ret h3)
  · simp only [if_neg c1, if_neg c2, if_neg c3, if_neg c4, if_neg c5, if_neg c6] at h3 ⊢
    exact Back.ret h3
theorem Back.han {h : HV} (hr : rightH h = true) (w : WS) : Back pHan h w (wHan w h) := by
  simp only [rightH, Bool.and_eq_true, withinB_iff] at hr
  obtain ⟨⟨⟨h1, h2⟩, h3⟩, h4⟩ := hr
  unfold wHan
  rw [wNum_cons, wNum_cons]
  exact Back.bind (f := fun ts a => pBind (pNum 2000) fun b => pBind (pNum 2000) fun c => pBind (pText ts) fun s => pRet (⟨a, b, c, s⟩ : HV)) (Back.num h1 (by omega))
    (Back.bind (f := fun ts b => pBind (pNum 2000) fun c => pBind (pText ts) fun s => pRet (⟨h.fr, b, c, s⟩ : HV)) (Back.num h2 (by omega))
    (Back.bind (f := fun ts c => pBind (pText ts) fun s => pRet (⟨h.fr, h.to, c, s⟩ : HV)) (Back.num h3 (by omega))
    (Back.bind (f := fun ts s => pRet (⟨h.fr, h.to, h.at_, s⟩ : HV)) Back.text (Back.ret rfl))))
theorem Back.field {x : FV} (hr : rightF x = true) (w : WS) : Back pField x w (wField w x) := by
  simp only [rightF, typedB, Bool.and_eq_true] at hr
  have ho := one_right (x := (x.tk, x.tc)) hr.2.1
  unfold wField
  have hs : 0 ≤ bitZ x.st ∧ bitZ x.st ≤ 1 := by cases x.st <;> decide
  refine Back.bind (f := fun ts n => pBind (pText ts) fun t => pBind (pNum 1) fun s => pRet (⟨n, (oneC t).1.1, (oneC t).1.2, s == 1⟩ : FV)) Back.text
    (Back.bind (f := fun ts t => pBind (pNum 1) fun s => pRet (⟨x.nm, (oneC t).1.1, (oneC t).1.2, s == 1⟩ : FV)) Back.text
    (Back.bind (f := fun ts s => pRet (⟨x.nm, (oneC (typeL x.tk x.tc)).1.1, (oneC (typeL x.tk x.tc)).1.2, s == 1⟩ : FV)) (Back.num hs (by omega)) (Back.ret ?_)))
  rw [ho]
  have : (bitZ x.st == 1) = x.st := by cases x.st <;> rfl
  rw [this]
theorem Back.meth {m : PM} (hr : RtM m) (hw : WfM m) (w : WS) : Back pMeth m w (wMeth w m) := by
  have ht : ∀ y ∈ m.ps, RightT y ∧ y.1 ≠ 5 := fun y hy => by
    have := hr.ps y hy
    simp only [typedB, Bool.and_eq_true, decide_eq_true_eq] at this
    exact this
  have hp := parse_right (l := m.ps) (x := (m.rk, m.rc)) ht hr.psn hr.rt
  have hf : 0 ≤ bitZ m.st + 2 * bitZ m.ab ∧ bitZ m.st + 2 * bitZ m.ab ≤ 3 := by cases m.st <;> cases m.ab <;> decide
  have e1 : decide ((bitZ m.st + 2 * bitZ m.ab).toNat % 2 = 1) = m.st := by cases m.st <;> cases m.ab <;> rfl
  have e2 : decide ((bitZ m.st + 2 * bitZ m.ab).toNat / 2 % 2 = 1) = m.ab := by cases m.st <;> cases m.ab <;> rfl
  have hc := hr.cln
  have hh := hr.hln
  unfold wMeth
  rw [wNum_cons (bitZ m.st + 2 * bitZ m.ab), wNum_cons m.lo]
  refine Back.bind (f := fun ts n => pBind (pText ts) fun d => pBind (pNum 3) fun f => pBind (pNum 200) fun k => pBind (pList 2000 (pIns ts)) fun cl => pBind (pList 50 (pHan ts)) fun hl => pRet (⟨n, (parseC d).1, (parseC d).2.1.1, (parseC d).2.1.2, decide (f.toNat % 2 = 1), decide (f.toNat / 2 % 2 = 1), k, cl, hl⟩ : PM)) Back.text
    (Back.bind (f := fun ts d => pBind (pNum 3) fun f => pBind (pNum 200) fun k => pBind (pList 2000 (pIns ts)) fun cl => pBind (pList 50 (pHan ts)) fun hl => pRet (⟨m.nm, (parseC d).1, (parseC d).2.1.1, (parseC d).2.1.2, decide (f.toNat % 2 = 1), decide (f.toNat / 2 % 2 = 1), k, cl, hl⟩ : PM)) (Back.text (s := ofL m.ps m.rk m.rc)) ?_)
  simp only [hp]
  refine Back.bind (f := fun ts f => pBind (pNum 200) fun k => pBind (pList 2000 (pIns ts)) fun cl => pBind (pList 50 (pHan ts)) fun hl => pRet (⟨m.nm, m.ps, m.rk, m.rc, decide (f.toNat % 2 = 1), decide (f.toNat / 2 % 2 = 1), k, cl, hl⟩ : PM)) (Back.num hf (by omega)) ?_
  simp only [e1, e2]
  exact Back.bind (f := fun ts k => pBind (pList 2000 (pIns ts)) fun cl => pBind (pList 50 (pHan ts)) fun hl => pRet (⟨m.nm, m.ps, m.rk, m.rc, m.st, m.ab, k, cl, hl⟩ : PM)) (Back.num hr.lo (by omega))
    (Back.bind (f := fun ts cl => pBind (pList 50 (pHan ts)) fun hl => pRet (⟨m.nm, m.ps, m.rk, m.rc, m.st, m.ab, m.lo, cl, hl⟩ : PM)) (Back.list (by omega) (by omega) fun i hi w => Back.ins (hr.cl i hi) (hw.cl i hi) w)
    (Back.bind (f := fun ts hl => pRet (⟨m.nm, m.ps, m.rk, m.rc, m.st, m.ab, m.lo, m.cl, hl⟩ : PM)) (Back.list (by omega) (by omega) fun h hh w => Back.han (hr.hl h hh) w) (Back.ret rfl)))
theorem Back.cls {c : PC} (hr : RtC c) (hw : WfC c) (w : WS) : Back pCls c w (wCls w c) := by
  have h1 := hr.ifn
  have h2 := hr.fln
  have h3 := hr.mln
  have h4 := hr.kd
  unfold wCls
  rw [wNum_cons c.kd]
  exact Back.bind (f := fun ts n => pBind (pText ts) fun s => pBind (pList 20 (pText ts)) fun ifs => pBind (pNum 4) fun k => pBind (pList 100 (pField ts)) fun fl => pBind (pList 100 (pMeth ts)) fun ml => pRet (⟨n, s, ifs, k, fl, ml⟩ : PC)) Back.text
    (Back.bind (f := fun ts s => pBind (pList 20 (pText ts)) fun ifs => pBind (pNum 4) fun k => pBind (pList 100 (pField ts)) fun fl => pBind (pList 100 (pMeth ts)) fun ml => pRet (⟨c.nm, s, ifs, k, fl, ml⟩ : PC)) Back.text
    (Back.bind (f := fun ts ifs => pBind (pNum 4) fun k => pBind (pList 100 (pField ts)) fun fl => pBind (pList 100 (pMeth ts)) fun ml => pRet (⟨c.nm, c.su, ifs, k, fl, ml⟩ : PC)) (Back.list (by omega) (by omega) fun s _ w => Back.text)
    (Back.bind (f := fun ts k => pBind (pList 100 (pField ts)) fun fl => pBind (pList 100 (pMeth ts)) fun ml => pRet (⟨c.nm, c.su, c.ifs, k, fl, ml⟩ : PC)) (Back.num (by omega) (by omega))
    (Back.bind (f := fun ts fl => pBind (pList 100 (pMeth ts)) fun ml => pRet (⟨c.nm, c.su, c.ifs, c.kd, fl, ml⟩ : PC)) (Back.list (by omega) (by omega) fun f hf w => Back.field (hr.fl f hf) w)
    (Back.bind (f := fun ts ml => pRet (⟨c.nm, c.su, c.ifs, c.kd, c.fl, ml⟩ : PC)) (Back.list (by omega) (by omega) fun m hm w => Back.meth (hr.ml m hm) (hw.ml m hm) w) (Back.ret rfl))))))
theorem Back.arc {cl : List PC} (hr : rightCs cl = true) (hw : ∀ c ∈ cl, WfC c) : Back pArc cl ([], []) (wArc cl) := by
  simp only [rightCs, allB_iff] at hr
  exact Back.list (by omega) (by omega) fun c hc w => Back.cls (rightC_iff.1 (hr.2 c hc)) (hw c hc) w
theorem read_put {cl : List PC} (hr : rightA cl = true) (hw : ∀ c ∈ cl, WfC c) : readA (putA cl) = (cl, 0) := by
  have h := hr
  simp only [rightA, Bool.and_eq_true, decide_eq_true_eq] at h
  obtain ⟨bs, d, e1, e2, hb⟩ := Back.arc h.1 hw
  have ht := (adds_arc h.1 hw).2.2
  have hp := poolR_back (wArc cl).1 h.2 ht
  have hm : (magicB ++ (poolB (wArc cl).2 ++ (wArc cl).1)).take 4 = magicB := rfl
  have hd : (magicB ++ (poolB (wArc cl).2 ++ (wArc cl).1)).drop 4 = poolB (wArc cl).2 ++ (wArc cl).1 := rfl
  rw [putA, if_pos hr, List.append_assoc, readA, hm, hd, hp, if_neg (by simp), if_neg (by simp)]
  have h1 : pArc (wArc cl).2 (wArc cl).1 = .ok (cl, []) := by
    have := hb (wArc cl).2 [] (List.prefix_refl _) (by omega)
    rw [List.append_nil] at this
    rw [e1]
    exact this
  simp only [h1]
  rw [if_pos ⟨trivial, hr⟩]
end Go.Proofs.YtlhkndjloeoodaaGreat
namespace Go.Proofs.YtlhkndjloeoodaaGreat
open Go.Ev Go.Ev.Wk
variable {O : Old}
section
variable {T : Tab} {X : List Nat} {H0 : Heap} {E : Env}
theorem step_call_fz {o : Oper} {f : Operand} {xa : Array Operand} {ts : Array TypeId} {g : Nat} {a b : Array Value} {l : List Value} {R : Value → Atoms → Prop} {k : Value → Atoms → Prop} (Bx F Z : Atoms) (ho : o.op = .call { callee := .value f, args := xa, argTypes := ts })
    (hf : lk E f = some (.func (.func g) a b)) (hx : args (lk E) xa.toList = some l)
    (h : ∀ H, St X H0 H (F ++ (Bx ++ Z)) → St (blksOf F) H H F → FpC T O g (a.toList ++ l ++ b.toList) H F R)
    (hk : ∀ v F', R v F' → k v (Bx ++ (F' ++ Z))) : StepS T O X H0 E (Bx ++ (F ++ Z)) o k :=
  (step_call_fp (k := fun v L' => ∃ F', R v F' ∧ L' = F' ++ (Bx ++ Z)) F (Bx ++ Z) ho hf hx (List.perm_append_comm_assoc _ _ _) h (fun v F' hr => ⟨F', hr, rfl⟩)).monoP fun v L1 ⟨F', hr, e⟩ => ⟨Bx ++ (F' ++ Z), fun H hs => (e ▸ hs).perm (List.perm_append_comm_assoc _ _ _), hk v F' hr⟩
theorem step_call_fz1 {o : Oper} {f : Operand} {xa : Array Operand} {ts : Array TypeId} {g : Nat} {a b : Array Value} {l : List Value} {R : Value → Atoms → Prop} {k : Value → Atoms → Prop} {x1 : Option Nat × Cont} {F Z : Atoms} (ho : o.op = .call { callee := .value f, args := xa, argTypes := ts })
    (hf : lk E f = some (.func (.func g) a b)) (hx : args (lk E) xa.toList = some l)
    (h : ∀ H, St X H0 H (F ++ (x1 :: Z)) → St (blksOf F) H H F → FpC T O g (a.toList ++ l ++ b.toList) H F R)
    (hk : ∀ v F', R v F' → k v (x1 :: (F' ++ Z))) : StepS T O X H0 E (x1 :: (F ++ Z)) o k := step_call_fz [x1] F Z ho hf hx h hk
theorem step_call_fz2 {o : Oper} {f : Operand} {xa : Array Operand} {ts : Array TypeId} {g : Nat} {a b : Array Value} {l : List Value} {R : Value → Atoms → Prop} {k : Value → Atoms → Prop} {x1 x2 : Option Nat × Cont} {F Z : Atoms} (ho : o.op = .call { callee := .value f, args := xa, argTypes := ts })
    (hf : lk E f = some (.func (.func g) a b)) (hx : args (lk E) xa.toList = some l)
    (h : ∀ H, St X H0 H (F ++ (x1 :: x2 :: Z)) → St (blksOf F) H H F → FpC T O g (a.toList ++ l ++ b.toList) H F R)
    (hk : ∀ v F', R v F' → k v (x1 :: x2 :: (F' ++ Z))) : StepS T O X H0 E (x1 :: x2 :: (F ++ Z)) o k := step_call_fz [x1, x2] F Z ho hf hx h hk
theorem step_call_fz4 {o : Oper} {f : Operand} {xa : Array Operand} {ts : Array TypeId} {g : Nat} {a b : Array Value} {l : List Value} {R : Value → Atoms → Prop} {k : Value → Atoms → Prop} {x1 x2 x3 x4 : Option Nat × Cont} {F Z : Atoms} (ho : o.op = .call { callee := .value f, args := xa, argTypes := ts })
    (hf : lk E f = some (.func (.func g) a b)) (hx : args (lk E) xa.toList = some l)
    (h : ∀ H, St X H0 H (F ++ (x1 :: x2 :: x3 :: x4 :: Z)) → St (blksOf F) H H F → FpC T O g (a.toList ++ l ++ b.toList) H F R)
    (hk : ∀ v F', R v F' → k v (x1 :: x2 :: x3 :: x4 :: (F' ++ Z))) : StepS T O X H0 E (x1 :: x2 :: x3 :: x4 :: (F ++ Z)) o k := step_call_fz [x1, x2, x3, x4] F Z ho hf hx h hk
end
theorem perm_tail {a b c : Atoms} : ((a ++ b) ++ c).Perm (a ++ (c ++ b)) := by rw [List.append_assoc]; exact List.perm_append_comm.append_left a
theorem errZ_no {e : Int} (h : NoZ (.error e)) : (errZ (.error e) == 0) = false := by
  have := h e rfl; simpa [errZ] using this
theorem sig_noZ (nn : Bool) (s : US) : NoZ (sig nn s) := by
  intro e he
  cases nn
  · by_cases h : s.2 = 0
    · simp [sig, h] at he
    · simp [sig, h] at he; rw [← he]; exact h
  · simp [sig] at he; rw [← he]; decide
theorem RdF.noZ {Bv : Value} {N : Nat} {bs : List UInt8} {xb rb pb : Nat} {ts : List (List UInt8)} {σ : RSt} {ok : Bool} {F : Atoms} (h : RdF O Bv N bs xb rb pb ts σ ok F) : NoZ σ := by
  obtain ⟨s, nn, ct, Fp, -, -, -, rfl⟩ := h
  exact sig_noZ nn s
def Sofar {α : Type} (p : Pr α) (n : Nat) (σ0 : RSt) (done : List α) (q : Nat) (σ : RSt) : Prop :=
  (∃ e, σ = .error e ∧ ∀ l, σ0 = .ok l → pRep p n l = .error e) ∧ (∀ e, σ0 = .error e → σ = .error e) ∨ ∃ l l0, σ = .ok l ∧ σ0 = .ok l0 ∧ pRep p n l0 = match pRep p q l with | .ok (xs, l') => .ok (done ++ xs, l') | .error e => .error e
theorem Sofar.start {α : Type} (p : Pr α) (n : Nat) (σ0 : RSt) : Sofar p n σ0 [] n σ0 := by
  cases σ0 with
  | error e => exact .inl ⟨⟨e, rfl, fun l h => by cases h⟩, fun e' h => h⟩
  | ok l =>
    refine .inr ⟨l, l, rfl, rfl, ?_⟩
    cases pRep p n l with
    | error e => rfl
    | ok x => rfl
theorem Sofar.next {α : Type} {p : Pr α} {n q : Nat} {l : List UInt8} {σ0 σ' : RSt} {done : List α} {x : α} (h : Sofar p n σ0 done (q + 1) (.ok l)) (g : Goes p (.ok l) x σ') : Sofar p n σ0 (done ++ [x]) q σ' := by
  rcases h with ⟨⟨e, he, _⟩, _⟩ | ⟨l1, l0, hl, h0, h⟩
  · cases he
  · cases hl
    subst h0
    rcases g.ok with ⟨l', hp, rfl⟩ | ⟨e, hp, rfl⟩
    · refine .inr ⟨l', l0, rfl, rfl, ?_⟩
      rw [h]
      simp only [pRep, pBind, hp, pRet]
      cases pRep p q l' with
      | error e => rfl
      | ok y => simp
    · refine .inl ⟨⟨e, rfl, fun l2 h2 => ?_⟩, fun e' h' => by cases h'⟩
      cases h2
      rw [h]
      simp only [pRep, pBind, hp]
theorem Sofar.done {α : Type} {p : Pr α} {n q : Nat} {σ0 σ : RSt} {done : List α} (h : Sofar p n σ0 done q σ) (hq : q = 0 ∨ ∃ e, σ = .error e) : Goes (pRep p n) σ0 done σ := by
  rcases h with ⟨⟨e, rfl, h1⟩, h2⟩ | ⟨l, l0, rfl, rfl, h⟩
  · cases σ0 with
    | error e' => exact h2 e' rfl
    | ok l => simp only [Goes]; rw [h1 l rfl]
  · rcases hq with rfl | ⟨e, he⟩
    · simp only [Goes]
      rw [h]
      simp [pRep, pRet]
    · cases he
theorem uNum_range {most : Nat} (s : US) : 0 ≤ (uNum (most : Int) s).1 ∧ (uNum (most : Int) s).1 ≤ most := by
  unfold uNum
  split
  · simp
  · rcases numR_cases s.1 (most : Int) with ⟨x, k, h1, h2, h3, h4⟩ | ⟨e, h1, h2, h3⟩
    · rw [h1]; simp only; omega
    · rw [h3]; simp only; omega
set_option maxHeartbeats 8000000 in
set_option maxRecDepth 100000 in
theorem listS_ok {H : Heap} {xb rb pb N g most : Nat} {Bv : Value} {bs : List UInt8} {ts : List (List UInt8)} {σ : RSt} {ok : Bool} {F : Atoms} {β : Type} {pr : List UInt8 → β} {p : Pr β} {W : List UInt8 → Prop} {okx : List UInt8 → Bool} {OwnX : List UInt8 → Atoms → Prop} (hst : St (blksOf F) H H F) (hF : RdF O Bv N bs xb rb pb ts σ ok F) (hB : RdK O H F Bv N bs) (hm : most ≤ 1000000)
    (hone : ∀ H' σ' ok' F', St (blksOf F') H' H' F' → RdF O Bv N bs xb rb pb ts σ' ok' F' → RdK O H' F' Bv N bs → FpC TT O g [ptr xb] H' F' fun v F'' => ∃ (x : List UInt8) (σ'' : RSt) (Fr Zx : Atoms), v = str x ∧ F'' = Fr ++ Zx ∧ W x ∧ OwnX x Zx ∧ RdF O Bv N bs xb rb pb ts σ'' (ok' && okx x) Fr ∧ Goes p σ' (pr x) σ'') :
    FpC TT O 101 [ptr xb, .int .i64 (most : Int), .func (.func g) #[ptr xb] #[]] H F fun v F' => ∃ (xs : List (List UInt8)) (a : Option Addr) (c : Nat) (q : Option Nat × Cont) (Fr Z : Atoms) (σ' : RSt), v = .slice a xs.length c ∧ F' = Fr ++ (q :: Z) ∧ OwnA 1 9 a xs.length c (xs.map str) q ∧ OwnL OwnX xs Z ∧ (∀ x ∈ xs, W x) ∧ xs.length ≤ most ∧ RdF O Bv N bs xb rb pb ts σ' (ok && xs.all okx) Fr ∧ Goes (pList (most : Int) p) σ (xs.map pr) σ' := by
  obtain ⟨s, nn, ct, Fp, rfl, hct, hP, rfl⟩ := hF
  refine call_fp rfl rfl rfl rfl rfl hst ?_
  refine ExecS.ghost ?_
  repeat (first | refine zr ?_ | (refine zn ?_; intro _))
  refine ops_step rfl rfl rfl (step_call_mut 2 rfl rfl rfl rfl (fun H hs hh hlt => uNum_ok (most := (most : Int)) hh hlt hct (hB.rb hs (i := 2) rfl)) (fun v ct h => ?_))
  obtain ⟨hct1, rfl⟩ := h
  have g1 := goes_num (most := (most : Int)) nn s
  have hr := uNum_range (most := most) s
  revert hct1 g1 hr
  generalize uNum (most : Int) s = u
  obtain ⟨z1, s1⟩ := u
  intro hct1 g1 hr
  obtain ⟨n, rfl⟩ : ∃ n : Nat, z1 = (n : Int) := ⟨z1.toNat, by omega⟩
  have hF1 : RdF O Bv N bs xb rb pb ts (sig nn s1) ok (xrA xb rb pb ok nn :: (some rb, ct) :: Fp) := ⟨s1, nn, ct, Fp, rfl, hct1, hP, rfl⟩
  repeat (first | refine zr ?_ | (refine zn ?_; intro _))
  refine ExecS.weak (E' := [(0, ptr xb), (2, .func (.func g) #[ptr xb] #[]), (7, .slice none 0 0), (8, .int .i64 (n : Int))]) (L' := (none, .map []) :: (xrA xb rb pb ok nn :: (some rb, ct) :: Fp)) ⟨rfl, rfl, rfl, rfl, trivial⟩ (.refl _) ?_
  refine ExecS.perm (L' := (none, .map []) :: ((xrA xb rb pb ok nn :: (some rb, ct) :: Fp) ++ [])) (List.Perm.of_eq (by rw [List.append_nil])) ?_
  revert hF1
  generalize (xrA xb rb pb ok nn :: (some rb, ct) :: Fp) = F1
  intro hF1
  have hnm : n ≤ most := by omega
  refine exec_loop (fun k E L => ∃ (xs : List (List UInt8)) (a : Option Addr) (c : Nat) (q : Option Nat × Cont) (Fr Z : Atoms) (σ' : RSt), xs.length + k = n ∧ OwnA 1 9 a xs.length c (xs.map str) q ∧ OwnL OwnX xs Z ∧ (∀ x ∈ xs, W x) ∧ RdF O Bv N bs xb rb pb ts σ' (ok && xs.all okx) Fr ∧ Sofar p n (sig nn s1) (xs.map pr) k σ' ∧ E = [(0, ptr xb), (2, .func (.func g) #[ptr xb] #[]), (7, .slice a xs.length c), (8, .int .i64 (k : Int))] ∧ L = q :: (Fr ++ Z)) ?_ n _ _ ⟨[], none, 0, (none, .map []), F1, [], _, by simp, .nil _, rfl, by simp, by simpa using hF1, Sofar.start _ _ _, rfl, rfl⟩
  clear hF1 F1 hct1
  rintro k E L ⟨xs, a, c, q, Fr, Z, σ', hxk, own, ownZ, hW, hFr, hsf, rfl, rfl⟩
  have fin : (k = 0 ∨ ∃ e, σ' = .error e) → ∃ (xs : List (List UInt8)) (a' : Option Addr) (c' : Nat) (q' : Option Nat × Cont) (Fr' Z' : Atoms) (σ'' : RSt), (Value.slice a xs.length c) = .slice a' xs.length c' ∧ q :: (Fr ++ Z) = q' :: (Fr' ++ Z') ∧ True := fun _ => ⟨xs, a, c, q, Fr, Z, σ', rfl, rfl, trivial⟩
  clear fin
  by_cases hk0 : k = 0
  · subst hk0
    repeat (first | refine zr ?_ | (refine zn ?_; intro _))
    refine ⟨trivial, _, rfl, Fr ++ (q :: Z), [], (List.perm_middle.symm).trans (List.Perm.of_eq (List.append_nil _).symm), xs, a, c, q, Fr, Z, σ', rfl, rfl, own, ownZ, hW, by omega, hFr, ?_⟩
    exact g1.bind (by rw [Int.toNat_natCast]; exact hsf.done (.inl rfl))
  · obtain ⟨k', rfl⟩ : ∃ k', k = k' + 1 := ⟨k - 1, by omega⟩
    repeat (first | refine zr ?_ | (refine zn ?_; intro _))
    rw [show decide (((k' + 1 : Nat) : Int) > 0) = true from decide_eq_true (by omega)]
    repeat (first | refine zr ?_ | (refine zn ?_; intro _))
    refine ops_step rfl rfl rfl (step_call_fz1 rfl rfl rfl (fun H hs hst => rerr_ok hst hFr) (fun v F2 h => ?_))
    obtain ⟨rfl, rfl⟩ := h
    repeat (first | refine zr ?_ | (refine zn ?_; intro _))
    cases hσ : σ' with
    | error e =>
      subst hσ
      rw [errZ_no hFr.noZ]
      repeat (first | refine zr ?_ | (refine zn ?_; intro _))
      refine ⟨trivial, _, rfl, F2 ++ (q :: Z), [], (List.perm_middle.symm).trans (List.Perm.of_eq (List.append_nil _).symm), xs, a, c, q, F2, Z, .error e, rfl, rfl, own, ownZ, hW, by omega, hFr, ?_⟩
      exact g1.bind (by rw [Int.toNat_natCast]; exact hsf.done (.inr ⟨e, rfl⟩))
    | ok l =>
      subst hσ
      repeat (first | refine zr ?_ | (refine zn ?_; intro _))
      refine ops_step rfl rfl rfl (step_call_fz1 rfl rfl rfl (fun H hs hst => hone H _ _ _ hst hFr ⟨hB.1, hB.2.base hs⟩) (fun v F3 h => ?_))
      obtain ⟨x, σ3, Fr3, Zx, rfl, rfl, hWx, ownX, hF3, g3⟩ := h
      refine OpsS.perm (List.Perm.cons q perm_tail) ?_
      repeat (first | refine zr ?_ | (refine zn ?_; intro _))
      refine ops_step rfl rfl rfl (step_append 1 1 rfl rfl rfl rfl rfl rfl rfl rfl own (fun H hs => src_own (j := 0) hs rfl rfl 1) rfl (by first | rfl | exact allCell_map (fun _ => rfl) _) (by first | rfl | (simp; done) | (simp; omega)) (by omega) (fun a2 c2 p2 own2 => ?_))
      repeat (first | refine zr ?_ | (refine zn ?_; intro _))
      refine ⟨k', by omega, _, _, ?_, .cons _ (.refl _), xs ++ [x], a2, c2, p2, Fr3, Z ++ Zx, σ3, ?_, ?_, ownZ.snoc ownX, ?_, ?_, ?_, rfl, rfl⟩
      · refine ⟨rfl, rfl, ?_, ?_, trivial⟩
        · rw [List.length_append]; rfl
        · show some (Value.int .i64 (((k' + 1 : Nat) : Int) - 1)) = some (Value.int .i64 (k' : Int))
          congr 2
          omega
      · rw [List.length_append, List.length_singleton]; omega
      · rw [List.length_append, List.length_singleton, (show (xs ++ [x]).map str = xs.map str ++ [str x] by rw [List.map_append]; rfl)]; exact own2
      · intro y hy
        rcases List.mem_append.1 hy with h | h
        · exact hW y h
        · cases List.mem_singleton.1 h; exact hWx
      · rw [List.all_append, ← Bool.and_assoc]; simpa using hF3
      · rw [List.map_append]; exact hsf.next g3
set_option maxHeartbeats 8000000 in
set_option maxRecDepth 100000 in
theorem listF_ok {H : Heap} {xb rb pb N g most : Nat} {Bv : Value} {bs : List UInt8} {ts : List (List UInt8)} {σ : RSt} {ok : Bool} {F : Atoms} {β : Type} {pr : FV → β} {p : Pr β} {W : FV → Prop} {okx : FV → Bool} {OwnX : FV → Atoms → Prop} (hst : St (blksOf F) H H F) (hF : RdF O Bv N bs xb rb pb ts σ ok F) (hB : RdK O H F Bv N bs) (hm : most ≤ 1000000)
    (hone : ∀ H' σ' ok' F', St (blksOf F') H' H' F' → RdF O Bv N bs xb rb pb ts σ' ok' F' → RdK O H' F' Bv N bs → FpC TT O g [ptr xb] H' F' fun v F'' => ∃ (x : FV) (σ'' : RSt) (Fr Zx : Atoms), v = x.val ∧ F'' = Fr ++ Zx ∧ W x ∧ OwnX x Zx ∧ RdF O Bv N bs xb rb pb ts σ'' (ok' && okx x) Fr ∧ Goes p σ' (pr x) σ'') :
    FpC TT O 102 [ptr xb, .int .i64 (most : Int), .func (.func g) #[ptr xb] #[]] H F fun v F' => ∃ (xs : List (FV)) (a : Option Addr) (c : Nat) (q : Option Nat × Cont) (Fr Z : Atoms) (σ' : RSt), v = .slice a xs.length c ∧ F' = Fr ++ (q :: Z) ∧ OwnA 4 63 a xs.length c (xs.flatMap FV.cells) q ∧ OwnL OwnX xs Z ∧ (∀ x ∈ xs, W x) ∧ xs.length ≤ most ∧ RdF O Bv N bs xb rb pb ts σ' (ok && xs.all okx) Fr ∧ Goes (pList (most : Int) p) σ (xs.map pr) σ' := by
  obtain ⟨s, nn, ct, Fp, rfl, hct, hP, rfl⟩ := hF
  refine call_fp rfl rfl rfl rfl rfl hst ?_
  refine ExecS.ghost ?_
  repeat (first | refine zr ?_ | (refine zn ?_; intro _))
  refine ops_step rfl rfl rfl (step_call_mut 2 rfl rfl rfl rfl (fun H hs hh hlt => uNum_ok (most := (most : Int)) hh hlt hct (hB.rb hs (i := 2) rfl)) (fun v ct h => ?_))
  obtain ⟨hct1, rfl⟩ := h
  have g1 := goes_num (most := (most : Int)) nn s
  have hr := uNum_range (most := most) s
  revert hct1 g1 hr
  generalize uNum (most : Int) s = u
  obtain ⟨z1, s1⟩ := u
  intro hct1 g1 hr
  obtain ⟨n, rfl⟩ : ∃ n : Nat, z1 = (n : Int) := ⟨z1.toNat, by omega⟩
  have hF1 : RdF O Bv N bs xb rb pb ts (sig nn s1) ok (xrA xb rb pb ok nn :: (some rb, ct) :: Fp) := ⟨s1, nn, ct, Fp, rfl, hct1, hP, rfl⟩
  repeat (first | refine zr ?_ | (refine zn ?_; intro _))
  refine ExecS.weak (E' := [(0, ptr xb), (2, .func (.func g) #[ptr xb] #[]), (7, .slice none 0 0), (8, .int .i64 (n : Int))]) (L' := (none, .map []) :: (xrA xb rb pb ok nn :: (some rb, ct) :: Fp)) ⟨rfl, rfl, rfl, rfl, trivial⟩ (.refl _) ?_
  refine ExecS.perm (L' := (none, .map []) :: ((xrA xb rb pb ok nn :: (some rb, ct) :: Fp) ++ [])) (List.Perm.of_eq (by rw [List.append_nil])) ?_
  revert hF1
  generalize (xrA xb rb pb ok nn :: (some rb, ct) :: Fp) = F1
  intro hF1
  have hnm : n ≤ most := by omega
  refine exec_loop (fun k E L => ∃ (xs : List (FV)) (a : Option Addr) (c : Nat) (q : Option Nat × Cont) (Fr Z : Atoms) (σ' : RSt), xs.length + k = n ∧ OwnA 4 63 a xs.length c (xs.flatMap FV.cells) q ∧ OwnL OwnX xs Z ∧ (∀ x ∈ xs, W x) ∧ RdF O Bv N bs xb rb pb ts σ' (ok && xs.all okx) Fr ∧ Sofar p n (sig nn s1) (xs.map pr) k σ' ∧ E = [(0, ptr xb), (2, .func (.func g) #[ptr xb] #[]), (7, .slice a xs.length c), (8, .int .i64 (k : Int))] ∧ L = q :: (Fr ++ Z)) ?_ n _ _ ⟨[], none, 0, (none, .map []), F1, [], _, by simp, .nil _, rfl, by simp, by simpa using hF1, Sofar.start _ _ _, rfl, rfl⟩
  clear hF1 F1 hct1
  rintro k E L ⟨xs, a, c, q, Fr, Z, σ', hxk, own, ownZ, hW, hFr, hsf, rfl, rfl⟩
  have fin : (k = 0 ∨ ∃ e, σ' = .error e) → ∃ (xs : List (FV)) (a' : Option Addr) (c' : Nat) (q' : Option Nat × Cont) (Fr' Z' : Atoms) (σ'' : RSt), (Value.slice a xs.length c) = .slice a' xs.length c' ∧ q :: (Fr ++ Z) = q' :: (Fr' ++ Z') ∧ True := fun _ => ⟨xs, a, c, q, Fr, Z, σ', rfl, rfl, trivial⟩
  clear fin
  by_cases hk0 : k = 0
  · subst hk0
    repeat (first | refine zr ?_ | (refine zn ?_; intro _))
    refine ⟨trivial, _, rfl, Fr ++ (q :: Z), [], (List.perm_middle.symm).trans (List.Perm.of_eq (List.append_nil _).symm), xs, a, c, q, Fr, Z, σ', rfl, rfl, own, ownZ, hW, by omega, hFr, ?_⟩
    exact g1.bind (by rw [Int.toNat_natCast]; exact hsf.done (.inl rfl))
  · obtain ⟨k', rfl⟩ : ∃ k', k = k' + 1 := ⟨k - 1, by omega⟩
    repeat (first | refine zr ?_ | (refine zn ?_; intro _))
    rw [show decide (((k' + 1 : Nat) : Int) > 0) = true from decide_eq_true (by omega)]
    repeat (first | refine zr ?_ | (refine zn ?_; intro _))
    refine ops_step rfl rfl rfl (step_call_fz1 rfl rfl rfl (fun H hs hst => rerr_ok hst hFr) (fun v F2 h => ?_))
    obtain ⟨rfl, rfl⟩ := h
    repeat (first | refine zr ?_ | (refine zn ?_; intro _))
    cases hσ : σ' with
    | error e =>
      subst hσ
      rw [errZ_no hFr.noZ]
      repeat (first | refine zr ?_ | (refine zn ?_; intro _))
      refine ⟨trivial, _, rfl, F2 ++ (q :: Z), [], (List.perm_middle.symm).trans (List.Perm.of_eq (List.append_nil _).symm), xs, a, c, q, F2, Z, .error e, rfl, rfl, own, ownZ, hW, by omega, hFr, ?_⟩
      exact g1.bind (by rw [Int.toNat_natCast]; exact hsf.done (.inr ⟨e, rfl⟩))
    | ok l =>
      subst hσ
      repeat (first | refine zr ?_ | (refine zn ?_; intro _))
      refine ops_step rfl rfl rfl (step_call_fz1 rfl rfl rfl (fun H hs hst => hone H _ _ _ hst hFr ⟨hB.1, hB.2.base hs⟩) (fun v F3 h => ?_))
      obtain ⟨x, σ3, Fr3, Zx, rfl, rfl, hWx, ownX, hF3, g3⟩ := h
      refine OpsS.perm (List.Perm.cons q perm_tail) ?_
      repeat (first | refine zr ?_ | (refine zn ?_; intro _))
      refine ops_step rfl rfl rfl (step_append 1 4 rfl rfl rfl rfl rfl rfl rfl rfl own (fun H hs => src_own (j := 0) hs rfl rfl 1) rfl (by first | rfl | exact allCell_map (fun _ => rfl) _) (by first | rfl | (simp; done) | (simp; omega)) (by omega) (fun a2 c2 p2 own2 => ?_))
      repeat (first | refine zr ?_ | (refine zn ?_; intro _))
      refine ⟨k', by omega, _, _, ?_, .cons _ (.refl _), xs ++ [x], a2, c2, p2, Fr3, Z ++ Zx, σ3, ?_, ?_, ownZ.snoc ownX, ?_, ?_, ?_, rfl, rfl⟩
      · refine ⟨rfl, rfl, ?_, ?_, trivial⟩
        · rw [List.length_append]; rfl
        · show some (Value.int .i64 (((k' + 1 : Nat) : Int) - 1)) = some (Value.int .i64 (k' : Int))
          congr 2
          omega
      · rw [List.length_append, List.length_singleton]; omega
      · rw [List.length_append, List.length_singleton, (flat_one (f := FV.cells) xs x)]; exact own2
      · intro y hy
        rcases List.mem_append.1 hy with h | h
        · exact hW y h
        · cases List.mem_singleton.1 h; exact hWx
      · rw [List.all_append, ← Bool.and_assoc]; simpa using hF3
      · rw [List.map_append]; exact hsf.next g3
set_option maxHeartbeats 8000000 in
set_option maxRecDepth 100000 in
theorem listI_ok {H : Heap} {xb rb pb N g most : Nat} {Bv : Value} {bs : List UInt8} {ts : List (List UInt8)} {σ : RSt} {ok : Bool} {F : Atoms} {β : Type} {pr : Ins → β} {p : Pr β} {W : Ins → Prop} {okx : Ins → Bool} {OwnX : Ins → Atoms → Prop} (hst : St (blksOf F) H H F) (hF : RdF O Bv N bs xb rb pb ts σ ok F) (hB : RdK O H F Bv N bs) (hm : most ≤ 1000000)
    (hone : ∀ H' σ' ok' F', St (blksOf F') H' H' F' → RdF O Bv N bs xb rb pb ts σ' ok' F' → RdK O H' F' Bv N bs → FpC TT O g [ptr xb] H' F' fun v F'' => ∃ (x : Ins) (σ'' : RSt) (Fr Zx : Atoms), v = insV x ∧ F'' = Fr ++ Zx ∧ W x ∧ OwnX x Zx ∧ RdF O Bv N bs xb rb pb ts σ'' (ok' && okx x) Fr ∧ Goes p σ' (pr x) σ'') :
    FpC TT O 140 [ptr xb, .int .i64 (most : Int), .func (.func g) #[ptr xb] #[]] H F fun v F' => ∃ (xs : List (Ins)) (a : Option Addr) (c : Nat) (q : Option Nat × Cont) (Fr Z : Atoms) (σ' : RSt), v = .slice a xs.length c ∧ F' = Fr ++ (q :: Z) ∧ OwnA 7 61 a xs.length c (xs.flatMap insL) q ∧ OwnL OwnX xs Z ∧ (∀ x ∈ xs, W x) ∧ xs.length ≤ most ∧ RdF O Bv N bs xb rb pb ts σ' (ok && xs.all okx) Fr ∧ Goes (pList (most : Int) p) σ (xs.map pr) σ' := by
  obtain ⟨s, nn, ct, Fp, rfl, hct, hP, rfl⟩ := hF
  refine call_fp rfl rfl rfl rfl rfl hst ?_
  refine ExecS.ghost ?_
  repeat (first | refine zr ?_ | (refine zn ?_; intro _))
  refine ops_step rfl rfl rfl (step_call_mut 2 rfl rfl rfl rfl (fun H hs hh hlt => uNum_ok (most := (most : Int)) hh hlt hct (hB.rb hs (i := 2) rfl)) (fun v ct h => ?_))
  obtain ⟨hct1, rfl⟩ := h
  have g1 := goes_num (most := (most : Int)) nn s
  have hr := uNum_range (most := most) s
  revert hct1 g1 hr
  generalize uNum (most : Int) s = u
  obtain ⟨z1, s1⟩ := u
  intro hct1 g1 hr
  obtain ⟨n, rfl⟩ : ∃ n : Nat, z1 = (n : Int) := ⟨z1.toNat, by omega⟩
  have hF1 : RdF O Bv N bs xb rb pb ts (sig nn s1) ok (xrA xb rb pb ok nn :: (some rb, ct) :: Fp) := ⟨s1, nn, ct, Fp, rfl, hct1, hP, rfl⟩
  repeat (first | refine zr ?_ | (refine zn ?_; intro _))
  refine ExecS.weak (E' := [(0, ptr xb), (2, .func (.func g) #[ptr xb] #[]), (7, .slice none 0 0), (8, .int .i64 (n : Int))]) (L' := (none, .map []) :: (xrA xb rb pb ok nn :: (some rb, ct) :: Fp)) ⟨rfl, rfl, rfl, rfl, trivial⟩ (.refl _) ?_
  refine ExecS.perm (L' := (none, .map []) :: ((xrA xb rb pb ok nn :: (some rb, ct) :: Fp) ++ [])) (List.Perm.of_eq (by rw [List.append_nil])) ?_
  revert hF1
  generalize (xrA xb rb pb ok nn :: (some rb, ct) :: Fp) = F1
  intro hF1
  have hnm : n ≤ most := by omega
  refine exec_loop (fun k E L => ∃ (xs : List (Ins)) (a : Option Addr) (c : Nat) (q : Option Nat × Cont) (Fr Z : Atoms) (σ' : RSt), xs.length + k = n ∧ OwnA 7 61 a xs.length c (xs.flatMap insL) q ∧ OwnL OwnX xs Z ∧ (∀ x ∈ xs, W x) ∧ RdF O Bv N bs xb rb pb ts σ' (ok && xs.all okx) Fr ∧ Sofar p n (sig nn s1) (xs.map pr) k σ' ∧ E = [(0, ptr xb), (2, .func (.func g) #[ptr xb] #[]), (7, .slice a xs.length c), (8, .int .i64 (k : Int))] ∧ L = q :: (Fr ++ Z)) ?_ n _ _ ⟨[], none, 0, (none, .map []), F1, [], _, by simp, .nil _, rfl, by simp, by simpa using hF1, Sofar.start _ _ _, rfl, rfl⟩
  clear hF1 F1 hct1
  rintro k E L ⟨xs, a, c, q, Fr, Z, σ', hxk, own, ownZ, hW, hFr, hsf, rfl, rfl⟩
  have fin : (k = 0 ∨ ∃ e, σ' = .error e) → ∃ (xs : List (Ins)) (a' : Option Addr) (c' : Nat) (q' : Option Nat × Cont) (Fr' Z' : Atoms) (σ'' : RSt), (Value.slice a xs.length c) = .slice a' xs.length c' ∧ q :: (Fr ++ Z) = q' :: (Fr' ++ Z') ∧ True := fun _ => ⟨xs, a, c, q, Fr, Z, σ', rfl, rfl, trivial⟩
  clear fin
  by_cases hk0 : k = 0
  · subst hk0
    repeat (first | refine zr ?_ | (refine zn ?_; intro _))
    refine ⟨trivial, _, rfl, Fr ++ (q :: Z), [], (List.perm_middle.symm).trans (List.Perm.of_eq (List.append_nil _).symm), xs, a, c, q, Fr, Z, σ', rfl, rfl, own, ownZ, hW, by omega, hFr, ?_⟩
    exact g1.bind (by rw [Int.toNat_natCast]; exact hsf.done (.inl rfl))
  · obtain ⟨k', rfl⟩ : ∃ k', k = k' + 1 := ⟨k - 1, by omega⟩
    repeat (first | refine zr ?_ | (refine zn ?_; intro _))
    rw [show decide (((k' + 1 : Nat) : Int) > 0) = true from decide_eq_true (by omega)]
    repeat (first | refine zr ?_ | (refine zn ?_; intro _))
    refine ops_step rfl rfl rfl (step_call_fz1 rfl rfl rfl (fun H hs hst => rerr_ok hst hFr) (fun v F2 h => ?_))
    obtain ⟨rfl, rfl⟩ := h
    repeat (first | refine zr ?_ | (refine zn ?_; intro _))
    cases hσ : σ' with
    | error e =>
      subst hσ
      rw [errZ_no hFr.noZ]
      repeat (first | refine zr ?_ | (refine zn ?_; intro _))
      refine ⟨trivial, _, rfl, F2 ++ (q :: Z), [], (List.perm_middle.symm).trans (List.Perm.of_eq (List.append_nil _).symm), xs, a, c, q, F2, Z, .error e, rfl, rfl, own, ownZ, hW, by omega, hFr, ?_⟩
      exact g1.bind (by rw [Int.toNat_natCast]; exact hsf.done (.inr ⟨e, rfl⟩))
    | ok l =>
      subst hσ
      repeat (first | refine zr ?_ | (refine zn ?_; intro _))
      refine ops_step rfl rfl rfl (step_call_fz1 rfl rfl rfl (fun H hs hst => hone H _ _ _ hst hFr ⟨hB.1, hB.2.base hs⟩) (fun v F3 h => ?_))
      obtain ⟨x, σ3, Fr3, Zx, rfl, rfl, hWx, ownX, hF3, g3⟩ := h
      refine OpsS.perm (List.Perm.cons q perm_tail) ?_
      repeat (first | refine zr ?_ | (refine zn ?_; intro _))
      refine ops_step rfl rfl rfl (step_append 1 7 rfl rfl rfl rfl rfl rfl rfl rfl own (fun H hs => src_own (j := 0) hs rfl rfl 1) rfl (by first | rfl | exact allCell_map (fun _ => rfl) _) (by first | rfl | (simp; done) | (simp; omega)) (by omega) (fun a2 c2 p2 own2 => ?_))
      repeat (first | refine zr ?_ | (refine zn ?_; intro _))
      refine ⟨k', by omega, _, _, ?_, .cons _ (.refl _), xs ++ [x], a2, c2, p2, Fr3, Z ++ Zx, σ3, ?_, ?_, ownZ.snoc ownX, ?_, ?_, ?_, rfl, rfl⟩
      · refine ⟨rfl, rfl, ?_, ?_, trivial⟩
        · rw [List.length_append]; rfl
        · show some (Value.int .i64 (((k' + 1 : Nat) : Int) - 1)) = some (Value.int .i64 (k' : Int))
          congr 2
          omega
      · rw [List.length_append, List.length_singleton]; omega
      · rw [List.length_append, List.length_singleton, (flat_one (f := insL) xs x)]; exact own2
      · intro y hy
        rcases List.mem_append.1 hy with h | h
        · exact hW y h
        · cases List.mem_singleton.1 h; exact hWx
      · rw [List.all_append, ← Bool.and_assoc]; simpa using hF3
      · rw [List.map_append]; exact hsf.next g3
set_option maxHeartbeats 8000000 in
set_option maxRecDepth 100000 in
theorem listH_ok {H : Heap} {xb rb pb N g most : Nat} {Bv : Value} {bs : List UInt8} {ts : List (List UInt8)} {σ : RSt} {ok : Bool} {F : Atoms} {β : Type} {pr : HV → β} {p : Pr β} {W : HV → Prop} {okx : HV → Bool} {OwnX : HV → Atoms → Prop} (hst : St (blksOf F) H H F) (hF : RdF O Bv N bs xb rb pb ts σ ok F) (hB : RdK O H F Bv N bs) (hm : most ≤ 1000000)
    (hone : ∀ H' σ' ok' F', St (blksOf F') H' H' F' → RdF O Bv N bs xb rb pb ts σ' ok' F' → RdK O H' F' Bv N bs → FpC TT O g [ptr xb] H' F' fun v F'' => ∃ (x : HV) (σ'' : RSt) (Fr Zx : Atoms), v = x.val ∧ F'' = Fr ++ Zx ∧ W x ∧ OwnX x Zx ∧ RdF O Bv N bs xb rb pb ts σ'' (ok' && okx x) Fr ∧ Goes p σ' (pr x) σ'') :
    FpC TT O 142 [ptr xb, .int .i64 (most : Int), .func (.func g) #[ptr xb] #[]] H F fun v F' => ∃ (xs : List (HV)) (a : Option Addr) (c : Nat) (q : Option Nat × Cont) (Fr Z : Atoms) (σ' : RSt), v = .slice a xs.length c ∧ F' = Fr ++ (q :: Z) ∧ OwnA 4 66 a xs.length c (xs.flatMap HV.cells) q ∧ OwnL OwnX xs Z ∧ (∀ x ∈ xs, W x) ∧ xs.length ≤ most ∧ RdF O Bv N bs xb rb pb ts σ' (ok && xs.all okx) Fr ∧ Goes (pList (most : Int) p) σ (xs.map pr) σ' := by
  obtain ⟨s, nn, ct, Fp, rfl, hct, hP, rfl⟩ := hF
  refine call_fp rfl rfl rfl rfl rfl hst ?_
  refine ExecS.ghost ?_
  repeat (first | refine zr ?_ | (refine zn ?_; intro _))
  refine ops_step rfl rfl rfl (step_call_mut 2 rfl rfl rfl rfl (fun H hs hh hlt => uNum_ok (most := (most : Int)) hh hlt hct (hB.rb hs (i := 2) rfl)) (fun v ct h => ?_))
  obtain ⟨hct1, rfl⟩ := h
  have g1 := goes_num (most := (most : Int)) nn s
  have hr := uNum_range (most := most) s
  revert hct1 g1 hr
  generalize uNum (most : Int) s = u
  obtain ⟨z1, s1⟩ := u
  intro hct1 g1 hr
  obtain ⟨n, rfl⟩ : ∃ n : Nat, z1 = (n : Int) := ⟨z1.toNat, by omega⟩
  have hF1 : RdF O Bv N bs xb rb pb ts (sig nn s1) ok (xrA xb rb pb ok nn :: (some rb, ct) :: Fp) := ⟨s1, nn, ct, Fp, rfl, hct1, hP, rfl⟩
  repeat (first | refine zr ?_ | (refine zn ?_; intro _))
  refine ExecS.weak (E' := [(0, ptr xb), (2, .func (.func g) #[ptr xb] #[]), (7, .slice none 0 0), (8, .int .i64 (n : Int))]) (L' := (none, .map []) :: (xrA xb rb pb ok nn :: (some rb, ct) :: Fp)) ⟨rfl, rfl, rfl, rfl, trivial⟩ (.refl _) ?_
  refine ExecS.perm (L' := (none, .map []) :: ((xrA xb rb pb ok nn :: (some rb, ct) :: Fp) ++ [])) (List.Perm.of_eq (by rw [List.append_nil])) ?_
  revert hF1
  generalize (xrA xb rb pb ok nn :: (some rb, ct) :: Fp) = F1
  intro hF1
  have hnm : n ≤ most := by omega
  refine exec_loop (fun k E L => ∃ (xs : List (HV)) (a : Option Addr) (c : Nat) (q : Option Nat × Cont) (Fr Z : Atoms) (σ' : RSt), xs.length + k = n ∧ OwnA 4 66 a xs.length c (xs.flatMap HV.cells) q ∧ OwnL OwnX xs Z ∧ (∀ x ∈ xs, W x) ∧ RdF O Bv N bs xb rb pb ts σ' (ok && xs.all okx) Fr ∧ Sofar p n (sig nn s1) (xs.map pr) k σ' ∧ E = [(0, ptr xb), (2, .func (.func g) #[ptr xb] #[]), (7, .slice a xs.length c), (8, .int .i64 (k : Int))] ∧ L = q :: (Fr ++ Z)) ?_ n _ _ ⟨[], none, 0, (none, .map []), F1, [], _, by simp, .nil _, rfl, by simp, by simpa using hF1, Sofar.start _ _ _, rfl, rfl⟩
  clear hF1 F1 hct1
  rintro k E L ⟨xs, a, c, q, Fr, Z, σ', hxk, own, ownZ, hW, hFr, hsf, rfl, rfl⟩
  have fin : (k = 0 ∨ ∃ e, σ' = .error e) → ∃ (xs : List (HV)) (a' : Option Addr) (c' : Nat) (q' : Option Nat × Cont) (Fr' Z' : Atoms) (σ'' : RSt), (Value.slice a xs.length c) = .slice a' xs.length c' ∧ q :: (Fr ++ Z) = q' :: (Fr' ++ Z') ∧ True := fun _ => ⟨xs, a, c, q, Fr, Z, σ', rfl, rfl, trivial⟩
  clear fin
  by_cases hk0 : k = 0
  · subst hk0
    repeat (first | refine zr ?_ | (refine zn ?_; intro _))
    refine ⟨trivial, _, rfl, Fr ++ (q :: Z), [], (List.perm_middle.symm).trans (List.Perm.of_eq (List.append_nil _).symm), xs, a, c, q, Fr, Z, σ', rfl, rfl, own, ownZ, hW, by omega, hFr, ?_⟩
    exact g1.bind (by rw [Int.toNat_natCast]; exact hsf.done (.inl rfl))
  · obtain ⟨k', rfl⟩ : ∃ k', k = k' + 1 := ⟨k - 1, by omega⟩
    repeat (first | refine zr ?_ | (refine zn ?_; intro _))
    rw [show decide (((k' + 1 : Nat) : Int) > 0) = true from decide_eq_true (by omega)]
    repeat (first | refine zr ?_ | (refine zn ?_; intro _))
    refine ops_step rfl rfl rfl (step_call_fz1 rfl rfl rfl (fun H hs hst => rerr_ok hst hFr) (fun v F2 h => ?_))
    obtain ⟨rfl, rfl⟩ := h
    repeat (first | refine zr ?_ | (refine zn ?_; intro _))
    cases hσ : σ' with
    | error e =>
      subst hσ
      rw [errZ_no hFr.noZ]
      repeat (first | refine zr ?_ | (refine zn ?_; intro _))
      refine ⟨trivial, _, rfl, F2 ++ (q :: Z), [], (List.perm_middle.symm).trans (List.Perm.of_eq (List.append_nil _).symm), xs, a, c, q, F2, Z, .error e, rfl, rfl, own, ownZ, hW, by omega, hFr, ?_⟩
      exact g1.bind (by rw [Int.toNat_natCast]; exact hsf.done (.inr ⟨e, rfl⟩))
    | ok l =>
      subst hσ
      repeat (first | refine zr ?_ | (refine zn ?_; intro _))
      refine ops_step rfl rfl rfl (step_call_fz1 rfl rfl rfl (fun H hs hst => hone H _ _ _ hst hFr ⟨hB.1, hB.2.base hs⟩) (fun v F3 h => ?_))
      obtain ⟨x, σ3, Fr3, Zx, rfl, rfl, hWx, ownX, hF3, g3⟩ := h
      refine OpsS.perm (List.Perm.cons q perm_tail) ?_
      repeat (first | refine zr ?_ | (refine zn ?_; intro _))
      refine ops_step rfl rfl rfl (step_append 1 4 rfl rfl rfl rfl rfl rfl rfl rfl own (fun H hs => src_own (j := 0) hs rfl rfl 1) rfl (by first | rfl | exact allCell_map (fun _ => rfl) _) (by first | rfl | (simp; done) | (simp; omega)) (by omega) (fun a2 c2 p2 own2 => ?_))
      repeat (first | refine zr ?_ | (refine zn ?_; intro _))
      refine ⟨k', by omega, _, _, ?_, .cons _ (.refl _), xs ++ [x], a2, c2, p2, Fr3, Z ++ Zx, σ3, ?_, ?_, ownZ.snoc ownX, ?_, ?_, ?_, rfl, rfl⟩
      · refine ⟨rfl, rfl, ?_, ?_, trivial⟩
        · rw [List.length_append]; rfl
        · show some (Value.int .i64 (((k' + 1 : Nat) : Int) - 1)) = some (Value.int .i64 (k' : Int))
          congr 2
          omega
      · rw [List.length_append, List.length_singleton]; omega
      · rw [List.length_append, List.length_singleton, (flat_one (f := HV.cells) xs x)]; exact own2
      · intro y hy
        rcases List.mem_append.1 hy with h | h
        · exact hW y h
        · cases List.mem_singleton.1 h; exact hWx
      · rw [List.all_append, ← Bool.and_assoc]; simpa using hF3
      · rw [List.map_append]; exact hsf.next g3
set_option maxHeartbeats 8000000 in
set_option maxRecDepth 100000 in
theorem listM_ok {H : Heap} {xb rb pb N g most : Nat} {Bv : Value} {bs : List UInt8} {ts : List (List UInt8)} {σ : RSt} {ok : Bool} {F : Atoms} {β : Type} {pr : MV → β} {p : Pr β} {W : MV → Prop} {okx : MV → Bool} {OwnX : MV → Atoms → Prop} (hst : St (blksOf F) H H F) (hF : RdF O Bv N bs xb rb pb ts σ ok F) (hB : RdK O H F Bv N bs) (hm : most ≤ 1000000)
    (hone : ∀ H' σ' ok' F', St (blksOf F') H' H' F' → RdF O Bv N bs xb rb pb ts σ' ok' F' → RdK O H' F' Bv N bs → FpC TT O g [ptr xb] H' F' fun v F'' => ∃ (x : MV) (σ'' : RSt) (Fr Zx : Atoms), v = x.val ∧ F'' = Fr ++ Zx ∧ W x ∧ OwnX x Zx ∧ RdF O Bv N bs xb rb pb ts σ'' (ok' && okx x) Fr ∧ Goes p σ' (pr x) σ'') :
    FpC TT O 104 [ptr xb, .int .i64 (most : Int), .func (.func g) #[ptr xb] #[]] H F fun v F' => ∃ (xs : List (MV)) (a : Option Addr) (c : Nat) (q : Option Nat × Cont) (Fr Z : Atoms) (σ' : RSt), v = .slice a xs.length c ∧ F' = Fr ++ (q :: Z) ∧ OwnA 9 59 a xs.length c (xs.flatMap MV.cells) q ∧ OwnL OwnX xs Z ∧ (∀ x ∈ xs, W x) ∧ xs.length ≤ most ∧ RdF O Bv N bs xb rb pb ts σ' (ok && xs.all okx) Fr ∧ Goes (pList (most : Int) p) σ (xs.map pr) σ' := by
  obtain ⟨s, nn, ct, Fp, rfl, hct, hP, rfl⟩ := hF
  refine call_fp rfl rfl rfl rfl rfl hst ?_
  refine ExecS.ghost ?_
  repeat (first | refine zr ?_ | (refine zn ?_; intro _))
  refine ops_step rfl rfl rfl (step_call_mut 2 rfl rfl rfl rfl (fun H hs hh hlt => uNum_ok (most := (most : Int)) hh hlt hct (hB.rb hs (i := 2) rfl)) (fun v ct h => ?_))
  obtain ⟨hct1, rfl⟩ := h
  have g1 := goes_num (most := (most : Int)) nn s
  have hr := uNum_range (most := most) s
  revert hct1 g1 hr
  generalize uNum (most : Int) s = u
  obtain ⟨z1, s1⟩ := u
  intro hct1 g1 hr
  obtain ⟨n, rfl⟩ : ∃ n : Nat, z1 = (n : Int) := ⟨z1.toNat, by omega⟩
  have hF1 : RdF O Bv N bs xb rb pb ts (sig nn s1) ok (xrA xb rb pb ok nn :: (some rb, ct) :: Fp) := ⟨s1, nn, ct, Fp, rfl, hct1, hP, rfl⟩
  repeat (first | refine zr ?_ | (refine zn ?_; intro _))
  refine ExecS.weak (E' := [(0, ptr xb), (2, .func (.func g) #[ptr xb] #[]), (7, .slice none 0 0), (8, .int .i64 (n : Int))]) (L' := (none, .map []) :: (xrA xb rb pb ok nn :: (some rb, ct) :: Fp)) ⟨rfl, rfl, rfl, rfl, trivial⟩ (.refl _) ?_
  refine ExecS.perm (L' := (none, .map []) :: ((xrA xb rb pb ok nn :: (some rb, ct) :: Fp) ++ [])) (List.Perm.of_eq (by rw [List.append_nil])) ?_
  revert hF1
  generalize (xrA xb rb pb ok nn :: (some rb, ct) :: Fp) = F1
  intro hF1
  have hnm : n ≤ most := by omega
  refine exec_loop (fun k E L => ∃ (xs : List (MV)) (a : Option Addr) (c : Nat) (q : Option Nat × Cont) (Fr Z : Atoms) (σ' : RSt), xs.length + k = n ∧ OwnA 9 59 a xs.length c (xs.flatMap MV.cells) q ∧ OwnL OwnX xs Z ∧ (∀ x ∈ xs, W x) ∧ RdF O Bv N bs xb rb pb ts σ' (ok && xs.all okx) Fr ∧ Sofar p n (sig nn s1) (xs.map pr) k σ' ∧ E = [(0, ptr xb), (2, .func (.func g) #[ptr xb] #[]), (7, .slice a xs.length c), (8, .int .i64 (k : Int))] ∧ L = q :: (Fr ++ Z)) ?_ n _ _ ⟨[], none, 0, (none, .map []), F1, [], _, by simp, .nil _, rfl, by simp, by simpa using hF1, Sofar.start _ _ _, rfl, rfl⟩
  clear hF1 F1 hct1
  rintro k E L ⟨xs, a, c, q, Fr, Z, σ', hxk, own, ownZ, hW, hFr, hsf, rfl, rfl⟩
  have fin : (k = 0 ∨ ∃ e, σ' = .error e) → ∃ (xs : List (MV)) (a' : Option Addr) (c' : Nat) (q' : Option Nat × Cont) (Fr' Z' : Atoms) (σ'' : RSt), (Value.slice a xs.length c) = .slice a' xs.length c' ∧ q :: (Fr ++ Z) = q' :: (Fr' ++ Z') ∧ True := fun _ => ⟨xs, a, c, q, Fr, Z, σ', rfl, rfl, trivial⟩
  clear fin
  by_cases hk0 : k = 0
  · subst hk0
    repeat (first | refine zr ?_ | (refine zn ?_; intro _))
    refine ⟨trivial, _, rfl, Fr ++ (q :: Z), [], (List.perm_middle.symm).trans (List.Perm.of_eq (List.append_nil _).symm), xs, a, c, q, Fr, Z, σ', rfl, rfl, own, ownZ, hW, by omega, hFr, ?_⟩
    exact g1.bind (by rw [Int.toNat_natCast]; exact hsf.done (.inl rfl))
  · obtain ⟨k', rfl⟩ : ∃ k', k = k' + 1 := ⟨k - 1, by omega⟩
    repeat (first | refine zr ?_ | (refine zn ?_; intro _))
    rw [show decide (((k' + 1 : Nat) : Int) > 0) = true from decide_eq_true (by omega)]
    repeat (first | refine zr ?_ | (refine zn ?_; intro _))
    refine ops_step rfl rfl rfl (step_call_fz1 rfl rfl rfl (fun H hs hst => rerr_ok hst hFr) (fun v F2 h => ?_))
    obtain ⟨rfl, rfl⟩ := h
    repeat (first | refine zr ?_ | (refine zn ?_; intro _))
    cases hσ : σ' with
    | error e =>
      subst hσ
      rw [errZ_no hFr.noZ]
      repeat (first | refine zr ?_ | (refine zn ?_; intro _))
      refine ⟨trivial, _, rfl, F2 ++ (q :: Z), [], (List.perm_middle.symm).trans (List.Perm.of_eq (List.append_nil _).symm), xs, a, c, q, F2, Z, .error e, rfl, rfl, own, ownZ, hW, by omega, hFr, ?_⟩
      exact g1.bind (by rw [Int.toNat_natCast]; exact hsf.done (.inr ⟨e, rfl⟩))
    | ok l =>
      subst hσ
      repeat (first | refine zr ?_ | (refine zn ?_; intro _))
      refine ops_step rfl rfl rfl (step_call_fz1 rfl rfl rfl (fun H hs hst => hone H _ _ _ hst hFr ⟨hB.1, hB.2.base hs⟩) (fun v F3 h => ?_))
      obtain ⟨x, σ3, Fr3, Zx, rfl, rfl, hWx, ownX, hF3, g3⟩ := h
      refine OpsS.perm (List.Perm.cons q perm_tail) ?_
      repeat (first | refine zr ?_ | (refine zn ?_; intro _))
      refine ops_step rfl rfl rfl (step_append 1 9 rfl rfl rfl rfl rfl rfl rfl rfl own (fun H hs => src_own (j := 0) hs rfl rfl 1) rfl (by first | rfl | exact allCell_map (fun _ => rfl) _) (by first | rfl | (simp; done) | (simp; omega)) (by omega) (fun a2 c2 p2 own2 => ?_))
      repeat (first | refine zr ?_ | (refine zn ?_; intro _))
      refine ⟨k', by omega, _, _, ?_, .cons _ (.refl _), xs ++ [x], a2, c2, p2, Fr3, Z ++ Zx, σ3, ?_, ?_, ownZ.snoc ownX, ?_, ?_, ?_, rfl, rfl⟩
      · refine ⟨rfl, rfl, ?_, ?_, trivial⟩
        · rw [List.length_append]; rfl
        · show some (Value.int .i64 (((k' + 1 : Nat) : Int) - 1)) = some (Value.int .i64 (k' : Int))
          congr 2
          omega
      · rw [List.length_append, List.length_singleton]; omega
      · rw [List.length_append, List.length_singleton, (flat_one (f := MV.cells) xs x)]; exact own2
      · intro y hy
        rcases List.mem_append.1 hy with h | h
        · exact hW y h
        · cases List.mem_singleton.1 h; exact hWx
      · rw [List.all_append, ← Bool.and_assoc]; simpa using hF3
      · rw [List.map_append]; exact hsf.next g3
set_option maxHeartbeats 8000000 in
set_option maxRecDepth 100000 in
theorem listC_ok {H : Heap} {xb rb pb N g most : Nat} {Bv : Value} {bs : List UInt8} {ts : List (List UInt8)} {σ : RSt} {ok : Bool} {F : Atoms} {β : Type} {pr : CV → β} {p : Pr β} {W : CV → Prop} {okx : CV → Bool} {OwnX : CV → Atoms → Prop} (hst : St (blksOf F) H H F) (hF : RdF O Bv N bs xb rb pb ts σ ok F) (hB : RdK O H F Bv N bs) (hm : most ≤ 1000000)
    (hone : ∀ H' σ' ok' F', St (blksOf F') H' H' F' → RdF O Bv N bs xb rb pb ts σ' ok' F' → RdK O H' F' Bv N bs → FpC TT O g [ptr xb] H' F' fun v F'' => ∃ (x : CV) (σ'' : RSt) (Fr Zx : Atoms), v = x.val ∧ F'' = Fr ++ Zx ∧ W x ∧ OwnX x Zx ∧ RdF O Bv N bs xb rb pb ts σ'' (ok' && okx x) Fr ∧ Goes p σ' (pr x) σ'') :
    FpC TT O 58 [ptr xb, .int .i64 (most : Int), .func (.func g) #[ptr xb] #[]] H F fun v F' => ∃ (xs : List (CV)) (a : Option Addr) (c : Nat) (q : Option Nat × Cont) (Fr Z : Atoms) (σ' : RSt), v = .slice a xs.length c ∧ F' = Fr ++ (q :: Z) ∧ OwnA 6 52 a xs.length c (xs.flatMap CV.cells) q ∧ OwnL OwnX xs Z ∧ (∀ x ∈ xs, W x) ∧ xs.length ≤ most ∧ RdF O Bv N bs xb rb pb ts σ' (ok && xs.all okx) Fr ∧ Goes (pList (most : Int) p) σ (xs.map pr) σ' := by
  obtain ⟨s, nn, ct, Fp, rfl, hct, hP, rfl⟩ := hF
  refine call_fp rfl rfl rfl rfl rfl hst ?_
  refine ExecS.ghost ?_
  repeat (first | refine zr ?_ | (refine zn ?_; intro _))
  refine ops_step rfl rfl rfl (step_call_mut 2 rfl rfl rfl rfl (fun H hs hh hlt => uNum_ok (most := (most : Int)) hh hlt hct (hB.rb hs (i := 2) rfl)) (fun v ct h => ?_))
  obtain ⟨hct1, rfl⟩ := h
  have g1 := goes_num (most := (most : Int)) nn s
  have hr := uNum_range (most := most) s
  revert hct1 g1 hr
  generalize uNum (most : Int) s = u
  obtain ⟨z1, s1⟩ := u
  intro hct1 g1 hr
  obtain ⟨n, rfl⟩ : ∃ n : Nat, z1 = (n : Int) := ⟨z1.toNat, by omega⟩
  have hF1 : RdF O Bv N bs xb rb pb ts (sig nn s1) ok (xrA xb rb pb ok nn :: (some rb, ct) :: Fp) := ⟨s1, nn, ct, Fp, rfl, hct1, hP, rfl⟩
  repeat (first | refine zr ?_ | (refine zn ?_; intro _))
  refine ExecS.weak (E' := [(0, ptr xb), (2, .func (.func g) #[ptr xb] #[]), (7, .slice none 0 0), (8, .int .i64 (n : Int))]) (L' := (none, .map []) :: (xrA xb rb pb ok nn :: (some rb, ct) :: Fp)) ⟨rfl, rfl, rfl, rfl, trivial⟩ (.refl _) ?_
  refine ExecS.perm (L' := (none, .map []) :: ((xrA xb rb pb ok nn :: (some rb, ct) :: Fp) ++ [])) (List.Perm.of_eq (by rw [List.append_nil])) ?_
  revert hF1
  generalize (xrA xb rb pb ok nn :: (some rb, ct) :: Fp) = F1
  intro hF1
  have hnm : n ≤ most := by omega
  refine exec_loop (fun k E L => ∃ (xs : List (CV)) (a : Option Addr) (c : Nat) (q : Option Nat × Cont) (Fr Z : Atoms) (σ' : RSt), xs.length + k = n ∧ OwnA 6 52 a xs.length c (xs.flatMap CV.cells) q ∧ OwnL OwnX xs Z ∧ (∀ x ∈ xs, W x) ∧ RdF O Bv N bs xb rb pb ts σ' (ok && xs.all okx) Fr ∧ Sofar p n (sig nn s1) (xs.map pr) k σ' ∧ E = [(0, ptr xb), (2, .func (.func g) #[ptr xb] #[]), (7, .slice a xs.length c), (8, .int .i64 (k : Int))] ∧ L = q :: (Fr ++ Z)) ?_ n _ _ ⟨[], none, 0, (none, .map []), F1, [], _, by simp, .nil _, rfl, by simp, by simpa using hF1, Sofar.start _ _ _, rfl, rfl⟩
  clear hF1 F1 hct1
  rintro k E L ⟨xs, a, c, q, Fr, Z, σ', hxk, own, ownZ, hW, hFr, hsf, rfl, rfl⟩
  have fin : (k = 0 ∨ ∃ e, σ' = .error e) → ∃ (xs : List (CV)) (a' : Option Addr) (c' : Nat) (q' : Option Nat × Cont) (Fr' Z' : Atoms) (σ'' : RSt), (Value.slice a xs.length c) = .slice a' xs.length c' ∧ q :: (Fr ++ Z) = q' :: (Fr' ++ Z') ∧ True := fun _ => ⟨xs, a, c, q, Fr, Z, σ', rfl, rfl, trivial⟩
  clear fin
  by_cases hk0 : k = 0
  · subst hk0
    repeat (first | refine zr ?_ | (refine zn ?_; intro _))
    refine ⟨trivial, _, rfl, Fr ++ (q :: Z), [], (List.perm_middle.symm).trans (List.Perm.of_eq (List.append_nil _).symm), xs, a, c, q, Fr, Z, σ', rfl, rfl, own, ownZ, hW, by omega, hFr, ?_⟩
    exact g1.bind (by rw [Int.toNat_natCast]; exact hsf.done (.inl rfl))
  · obtain ⟨k', rfl⟩ : ∃ k', k = k' + 1 := ⟨k - 1, by omega⟩
    repeat (first | refine zr ?_ | (refine zn ?_; intro _))
    rw [show decide (((k' + 1 : Nat) : Int) > 0) = true from decide_eq_true (by omega)]
    repeat (first | refine zr ?_ | (refine zn ?_; intro _))
    refine ops_step rfl rfl rfl (step_call_fz1 rfl rfl rfl (fun H hs hst => rerr_ok hst hFr) (fun v F2 h => ?_))
    obtain ⟨rfl, rfl⟩ := h
    repeat (first | refine zr ?_ | (refine zn ?_; intro _))
    cases hσ : σ' with
    | error e =>
      subst hσ
      rw [errZ_no hFr.noZ]
      repeat (first | refine zr ?_ | (refine zn ?_; intro _))
      refine ⟨trivial, _, rfl, F2 ++ (q :: Z), [], (List.perm_middle.symm).trans (List.Perm.of_eq (List.append_nil _).symm), xs, a, c, q, F2, Z, .error e, rfl, rfl, own, ownZ, hW, by omega, hFr, ?_⟩
      exact g1.bind (by rw [Int.toNat_natCast]; exact hsf.done (.inr ⟨e, rfl⟩))
    | ok l =>
      subst hσ
      repeat (first | refine zr ?_ | (refine zn ?_; intro _))
      refine ops_step rfl rfl rfl (step_call_fz1 rfl rfl rfl (fun H hs hst => hone H _ _ _ hst hFr ⟨hB.1, hB.2.base hs⟩) (fun v F3 h => ?_))
      obtain ⟨x, σ3, Fr3, Zx, rfl, rfl, hWx, ownX, hF3, g3⟩ := h
      refine OpsS.perm (List.Perm.cons q perm_tail) ?_
      repeat (first | refine zr ?_ | (refine zn ?_; intro _))
      refine ops_step rfl rfl rfl (step_append 1 6 rfl rfl rfl rfl rfl rfl rfl rfl own (fun H hs => src_own (j := 0) hs rfl rfl 1) rfl (by first | rfl | exact allCell_map (fun _ => rfl) _) (by first | rfl | (simp; done) | (simp; omega)) (by omega) (fun a2 c2 p2 own2 => ?_))
      repeat (first | refine zr ?_ | (refine zn ?_; intro _))
      refine ⟨k', by omega, _, _, ?_, .cons _ (.refl _), xs ++ [x], a2, c2, p2, Fr3, Z ++ Zx, σ3, ?_, ?_, ownZ.snoc ownX, ?_, ?_, ?_, rfl, rfl⟩
      · refine ⟨rfl, rfl, ?_, ?_, trivial⟩
        · rw [List.length_append]; rfl
        · show some (Value.int .i64 (((k' + 1 : Nat) : Int) - 1)) = some (Value.int .i64 (k' : Int))
          congr 2
          omega
      · rw [List.length_append, List.length_singleton]; omega
      · rw [List.length_append, List.length_singleton, (flat_one (f := CV.cells) xs x)]; exact own2
      · intro y hy
        rcases List.mem_append.1 hy with h | h
        · exact hW y h
        · cases List.mem_singleton.1 h; exact hWx
      · rw [List.all_append, ← Bool.and_assoc]; simpa using hF3
      · rw [List.map_append]; exact hsf.next g3
end Go.Proofs.YtlhkndjloeoodaaGreat
namespace Go.Proofs.YtlhkndjloeoodaaGreat
open Go.Ev Go.Ev.Wk
variable {O : Old}
theorem parseC_kind (t : List UInt8) : (parseC t).2.2 = decide ((parseC t).2.1.1 ≠ 0) := by
  unfold parseC
  split
  · rename_i h
    have := oneC_kind (cpL (goC 9 [] (t.drop 1)).2.1 41)
    rw [h.2.2.2] at this
    exact this
  · simp
def okM (m : PM) : Bool := decide (m.rk ≠ 0)
theorem and1_4 {n : Nat} (h : n ≤ 3) : IntKind.i64.wrap ((BitVec.ofInt IntKind.i64.bits (n : Int) &&& BitVec.ofInt IntKind.i64.bits 1).toNat : Int) = ((n % 2 : Nat) : Int) := by
  rcases (by omega : n = 0 ∨ n = 1 ∨ n = 2 ∨ n = 3) with rfl | rfl | rfl | rfl <;> decide
theorem and2_4 {n : Nat} (h : n ≤ 3) : IntKind.i64.wrap ((BitVec.ofInt IntKind.i64.bits (n : Int) &&& BitVec.ofInt IntKind.i64.bits 2).toNat : Int) = ((n / 2 % 2 * 2 : Nat) : Int) := by
  rcases (by omega : n = 0 ∨ n = 1 ∨ n = 2 ∨ n = 3) with rfl | rfl | rfl | rfl <;> decide
theorem bit1_4 (n : Nat) : (((n % 2 : Nat) : Int) == 1) = decide ((n : Int).toNat % 2 = 1) := by
  rw [Int.toNat_natCast, Bool.eq_iff_iff]; simp; omega
theorem bit2_4 (n : Nat) : (((n / 2 % 2 * 2 : Nat) : Int) == 2) = decide ((n : Int).toNat / 2 % 2 = 1) := by
  rw [Int.toNat_natCast, Bool.eq_iff_iff]; simp; omega
theorem ownL_nil {α : Type} : ∀ {l : List α} {Z : Atoms}, OwnL (fun _ Z => Z = []) l Z → Z = []
  | [], _, h => h
  | _ :: l, _, ⟨Z1, Z2, e, h1, h2⟩ => by
    have h1 : Z1 = [] := h1
    rw [e, h1, ownL_nil h2]; rfl
theorem perm_end {b1 b2 b3 q : Option Nat × Cont} {Fr Q : Atoms} : ([b1, q, b2, b3] ++ (Fr ++ Q)).Perm ((Fr ++ (q :: Q)) ++ [b1, b2, b3]) := by
  refine ((List.Perm.swap q b1 [b2, b3]).append_right (Fr ++ Q)).trans ?_
  refine ((List.perm_append_comm (l₁ := [b1, b2, b3]) (l₂ := Fr ++ Q)).cons q).trans ?_
  exact (List.perm_middle.symm).append_right [b1, b2, b3]
section
variable {H : Heap} {xb rb pb N : Nat} {Bv : Value} {bs : List UInt8} {ts : List (List UInt8)} {σ : RSt} {ok : Bool} {F : Atoms}
theorem lins_ok (hst : St (blksOf F) H H F) (hF : RdF O Bv N bs xb rb pb ts σ ok F) (hB : RdK O H F Bv N bs) (hts : ∀ t ∈ ts, t.length ≤ 1000) (htn : ts.length ≤ 10000) :
    FpC TT O 140 [ptr xb, .int .i64 2000, .func (.func 141) #[ptr xb] #[]] H F fun v F' => ∃ (xs : List Ins) (a : Option Addr) (c : Nat) (q : Option Nat × Cont) (Fr : Atoms) (σ' : RSt), v = .slice a xs.length c ∧ F' = Fr ++ [q] ∧ OwnA 7 61 a xs.length c (xs.flatMap insL) q ∧ (∀ x ∈ xs, WfI x) ∧ xs.length ≤ 2000 ∧ RdF O Bv N bs xb rb pb ts σ' ok Fr ∧ Goes (pList 2000 (pIns ts)) σ xs σ' := by
  refine (listI_ok (most := 2000) (pr := id) (p := pIns ts) (W := WfI) (okx := fun _ => true) (OwnX := fun _ Z => Z = []) hst hF hB (by omega) ?_).mono ?_
  · intro H' σ' ok' F' hst' hF' hB'
    refine (rins_ok hst' hF' hB' hts htn).mono ?_
    rintro v F'' ⟨x, σ'', rfl, h1, h2, h3⟩
    exact ⟨x, σ'', F'', [], rfl, (List.append_nil _).symm, h1, rfl, by simpa using h2, h3⟩
  · rintro v F' ⟨xs, a, c, q, Fr, Z, σ', rfl, rfl, h1, h2, h3, h4, h5, h6⟩
    obtain rfl := ownL_nil h2
    exact ⟨xs, a, c, q, Fr, σ', rfl, rfl, h1, h3, h4, by rwa [List.all_eq_true.2 (fun _ _ => rfl), Bool.and_true] at h5, by simpa using h6⟩
theorem lhan_ok (hst : St (blksOf F) H H F) (hF : RdF O Bv N bs xb rb pb ts σ ok F) (hB : RdK O H F Bv N bs) (hts : ∀ t ∈ ts, t.length ≤ 1000) (htn : ts.length ≤ 10000) :
    FpC TT O 142 [ptr xb, .int .i64 50, .func (.func 143) #[ptr xb] #[]] H F fun v F' => ∃ (xs : List HV) (a : Option Addr) (c : Nat) (q : Option Nat × Cont) (Fr : Atoms) (σ' : RSt), v = .slice a xs.length c ∧ F' = Fr ++ [q] ∧ OwnA 4 66 a xs.length c (xs.flatMap HV.cells) q ∧ (∀ x ∈ xs, x.ct.length ≤ 1000) ∧ xs.length ≤ 50 ∧ RdF O Bv N bs xb rb pb ts σ' ok Fr ∧ Goes (pList 50 (pHan ts)) σ xs σ' := by
  refine (listH_ok (most := 50) (pr := id) (p := pHan ts) (W := fun x => x.ct.length ≤ 1000) (okx := fun _ => true) (OwnX := fun _ Z => Z = []) hst hF hB (by omega) ?_).mono ?_
  · intro H' σ' ok' F' hst' hF' hB'
    refine (rhan_ok hst' hF' hB' hts htn).mono ?_
    rintro v F'' ⟨x, σ'', rfl, h1, h2, h3⟩
    exact ⟨x, σ'', F'', [], rfl, (List.append_nil _).symm, h1, rfl, by simpa using h2, h3⟩
  · rintro v F' ⟨xs, a, c, q, Fr, Z, σ', rfl, rfl, h1, h2, h3, h4, h5, h6⟩
    obtain rfl := ownL_nil h2
    exact ⟨xs, a, c, q, Fr, σ', rfl, rfl, h1, h3, h4, by rwa [List.all_eq_true.2 (fun _ _ => rfl), Bool.and_true] at h5, by simpa using h6⟩
set_option maxHeartbeats 8000000 in
set_option maxRecDepth 100000 in
theorem rmeth_ok (hst : St (blksOf F) H H F) (hF : RdF O Bv N bs xb rb pb ts σ ok F) (hB : RdK O H F Bv N bs) (hts : ∀ t ∈ ts, t.length ≤ 1000) (htn : ts.length ≤ 10000) :
    FpC TT O 105 [ptr xb] H F fun v F' => ∃ (x : MV) (σ' : RSt) (Fr Z : Atoms), v = x.val ∧ F' = Fr ++ Z ∧ WfM x.toPM ∧ OwnM x Z ∧ RdF O Bv N bs xb rb pb ts σ' (ok && okM x.toPM) Fr ∧ Goes (pMeth ts) σ x.toPM σ' := by
  refine call_fpM rfl rfl rfl rfl rfl hst ?_
  repeat (first | refine zrb ?_ | (refine zn ?_; intro _))
  rename_i b2
  refine ops_step rfl rfl rfl (step_call_fp1 rfl rfl rfl (fun H hs hst => rtext_ok hst hF ⟨hB.1, hB.2.base hs⟩ hts htn) (fun v2 F2 h2 => ?_))
  obtain ⟨x2, σ2, rfl, hx2, hF2, g2⟩ := h2
  repeat (first | refine zrb ?_ | (refine zn ?_; intro _))
  rename_i b3
  refine ops_step rfl rfl rfl (step_call_fp2 rfl rfl rfl (fun H hs hst => rtext_ok hst hF2 ⟨hB.1, hB.2.base hs⟩ hts htn) (fun v3 F3 h3 => ?_))
  obtain ⟨x3, σ3, rfl, hx3, hF3, g3⟩ := h3
  repeat (first | refine zrb ?_ | (refine zn ?_; intro _))
  refine ops_step rfl rfl rfl (step_call_fp [] _ rfl rfl rfl (List.Perm.refl _) (fun H hs hst => parse_ok (s := x3) hst (by omega)) (fun v4 F4 h4 => ?_))
  obtain ⟨pa, pn, pc, qa, rfl, ownP, rfl⟩ := h4
  have hpn : (parseC x3).1.length = pn := by have := ownP.len; rw [typC_length] at this; omega
  have hk := parseC_kind x3
  have hcl := parse_cls hx3
  subst hpn
  obtain ⟨s, nn, ct, Fp, rfl, hct, hP, rfl⟩ := hF3
  repeat (first | refine zrb ?_ | (refine zn ?_; intro _))
  rename_i bt
  refine OpsS.mono (Q := fun E L => SubE [(0, ptr xb), (2, ptr b2), (3, ptr b3), (4, .slice pa (parseC x3).1.length pc), (5, ptr bt)] E ∧ L = [(some bt, .cells 0 [.int .i64 (parseC x3).2.1.1, str (parseC x3).2.1.2] 0 55), qa, (some b3, .cells 0 [str x2, .slice none 0 0, .int .i64 0, str [], .bool false, .bool false, .int .i64 0, .slice none 0 0, .slice none 0 0] 0 59), (some b2, .cells 0 [str [], .slice none 0 0, .int .i64 0, str [], .bool false, .bool false, .int .i64 0, .slice none 0 0, .slice none 0 0] 0 59), xrA xb rb pb (ok && (parseC x3).2.2) nn, (some rb, ct)] ++ Fp) ?_ ?_
  · cases ok
    · repeat (first | refine zob ?_ | (refine zn ?_; intro _))
      exact ops_nil ⟨⟨rfl, rfl, rfl, rfl, rfl, trivial⟩, rfl⟩
    · repeat (first | refine zob ?_ | (refine zn ?_; intro _))
      exact ops_nil ⟨⟨rfl, rfl, rfl, rfl, rfl, trivial⟩, rfl⟩
  rintro E L ⟨hE, rfl⟩
  refine ExecS.weak hE (.refl _) ?_
  clear hE
  repeat (first | refine zrb ?_ | (refine zn ?_; intro _))
  refine ops_step rfl rfl rfl (step_call_mut 5 rfl rfl rfl rfl (fun H hs hh hlt => uNum_ok (most := 3) hh hlt hct (hB.rb hs (i := 5) rfl)) (fun v ct h => ?_))
  obtain ⟨hct4, rfl⟩ := h
  have g4 := goes_num (most := 3) nn s
  have hr4 := uNum_range (most := 3) s
  revert hct4 g4 hr4
  rw [show ((3 : Nat) : Int) = 3 from rfl]
  generalize uNum 3 s = u
  obtain ⟨z4, s4⟩ := u
  intro hct4 g4 hr4
  obtain ⟨n4, rfl⟩ : ∃ n : Nat, z4 = (n : Int) := ⟨z4.toNat, by omega⟩
  have hn4 : n4 ≤ 3 := by omega
  repeat (first | refine zrb ?_ | (refine zn ?_; intro _))
  refine exec_draw (lst := [(0, 0), (1, 0), (2, 0), (3, 4), (4, 12), (5, 0), (6, 32), (7, 96), (8, 0), (9, 256), (10, 768), (11, 1792), (13, 1), (12, 3840), (14, 16129), (15, 32515), (16, 65283), (17, 130847), (18, 261919), (19, 524287), (20, 1048575), (21, 2097151), (22, 4194303)]) (full := 8388607) (by kernel_rfl) (by kernel_rfl) (by kernel_rfl) (by kernel_rfl) ?_
  repeat (first | refine zdb ?_)
  try refine draw_nil ?_
  rw [and1_4 hn4, and2_4 hn4, bit1_4, bit2_4]
  refine draw_w rfl rfl rfl rfl rfl rfl (step_call_mut 5 rfl rfl rfl rfl (fun H hs hh hlt => uNum_ok (most := 200) hh hlt hct4 (hB.rb hs (i := 5) rfl)) (fun v ct h => ?_))
  obtain ⟨hct5, rfl⟩ := h
  refine (zst ?_)
  have g5 := goes_num (most := 200) nn s4
  revert hct5 g5
  generalize uNum 200 s4 = u
  obtain ⟨z5, s5⟩ := u
  intro hct5 g5
  repeat (first | refine zdb ?_)
  try refine draw_nil ?_
  refine draw_w rfl rfl rfl rfl rfl rfl (step_storeZ 2 rfl rfl rfl rfl rfl rfl rfl rfl rfl (zst ?_))
  repeat (first | refine zdb ?_)
  try refine draw_nil ?_
  refine draw_w rfl rfl rfl rfl rfl rfl (step_storeZ 2 rfl rfl rfl rfl rfl rfl rfl rfl rfl (zst ?_))
  repeat (first | refine zdb ?_)
  try refine draw_nil ?_
  refine draw_w rfl rfl rfl rfl rfl rfl (step_storeZ 2 rfl rfl rfl rfl rfl rfl rfl rfl rfl (zst ?_))
  repeat (first | refine zdb ?_)
  try refine draw_nil ?_
  refine draw_w rfl rfl rfl rfl rfl rfl (step_storeZ 2 rfl rfl rfl rfl rfl rfl rfl rfl rfl (zst ?_))
  repeat (first | refine zdb ?_)
  try refine draw_nil ?_
  refine draw_w rfl rfl rfl rfl rfl rfl (step_storeZ 2 rfl rfl rfl rfl rfl rfl rfl rfl rfl (zst ?_))
  refine draw_nil ?_
  have hF5 : RdF O Bv N bs xb rb pb ts (sig nn s5) (ok && (parseC x3).2.2) (xrA xb rb pb (ok && (parseC x3).2.2) nn :: (some rb, ct) :: Fp) := ⟨s5, nn, ct, Fp, rfl, hct5, hP, rfl⟩
  refine ExecS.perm (L' := [_, qa, _, _] ++ ((xrA xb rb pb (ok && (parseC x3).2.2) nn :: (some rb, ct) :: Fp) ++ [])) (List.Perm.of_eq (by rw [List.append_nil]; rfl)) ?_
  clear hct4 hct5 hct hr4 hP
  revert hF5
  generalize (xrA xb rb pb (ok && (parseC x3).2.2) nn :: (some rb, ct) :: Fp) = F5
  intro hF5
  refine ExecS.weak (pickE_sub (ks := [0, 2, 3]) rfl) (List.Sublist.refl _) ?_
  repeat (first | refine zrb ?_ | (refine zn ?_; intro _))
  refine ops_step rfl rfl rfl (step_call_fz4 (F := F5) (Z := []) rfl rfl rfl (fun H hs hst => lins_ok hst hF5 ⟨hB.1, hB.2.base hs⟩ hts htn) (fun v F6 h => ?_))
  obtain ⟨cl, ca, cc, q1, Fr, σ6, rfl, rfl, ownC, hWc, hcn, hF6, g6⟩ := h
  refine OpsS.perm ((((perm_tail (a := Fr) (b := [q1]) (c := [])).cons _).cons _).cons _ |>.cons _) ?_
  repeat (first | refine zrb ?_ | (refine zn ?_; intro _))
  refine ops_step rfl rfl rfl (step_call_fz4 (F := Fr) (Z := [] ++ [q1]) rfl rfl rfl (fun H hs hst => lhan_ok hst hF6 ⟨hB.1, hB.2.base hs⟩ hts htn) (fun v F7 h => ?_))
  obtain ⟨hl, ha, hc, q2, Fr2, σ7, rfl, rfl, ownH, hWh, hhn, hF7, g7⟩ := h
  refine OpsS.perm ((((perm_tail (a := Fr2) (b := [q2]) (c := [] ++ [q1])).cons _).cons _).cons _ |>.cons _) ?_
  repeat (first | refine zrb ?_ | (refine zn ?_; intro _))
  refine ⟨trivial, [_], ⟨look_agg 3 rfl rfl rfl rfl, trivial⟩, Fr2 ++ [qa, q1, q2], _, perm_end (Q := [q1, q2]), ⟨⟨x2, (parseC x3).1, (parseC x3).2.1.1, (parseC x3).2.1.2, decide ((n4 : Int).toNat % 2 = 1), decide ((n4 : Int).toNat / 2 % 2 = 1), z5, cl, hl⟩, pa, pc, ca, cc, ha, hc⟩, σ7, Fr2, [qa, q1, q2], rfl, rfl, ?_, ⟨qa, q1, q2, rfl, .inl ownP, .inl ownC, .inl ownH⟩, ?_, g2.bind (g3.bind (g4.bind (g5.bind (g6.bind g7.bindR))))⟩
  · exact ⟨hx2, hcl.1, hcl.2.2, hWc, hWh, Nat.le_trans hcl.2.1 (by decide), Nat.le_trans hcn (by decide), Nat.le_trans hhn (by decide)⟩
  · rw [okM, ← hk]; exact hF7
end
end Go.Proofs.YtlhkndjloeoodaaGreat
namespace Go.Proofs.YtlhkndjloeoodaaGreat
open Go.Ev Go.Ev.Wk
variable {O : Old}
def okC (c : PC) : Bool := c.fl.all okF && c.ml.all okM
section
variable {H : Heap} {xb rb pb N : Nat} {Bv : Value} {bs : List UInt8} {ts : List (List UInt8)} {σ : RSt} {ok : Bool} {F : Atoms}
theorem lstr_ok (hst : St (blksOf F) H H F) (hF : RdF O Bv N bs xb rb pb ts σ ok F) (hB : RdK O H F Bv N bs) (hts : ∀ t ∈ ts, t.length ≤ 1000) (htn : ts.length ≤ 10000) :
    FpC TT O 101 [ptr xb, .int .i64 20, .func (.func 100) #[ptr xb] #[]] H F fun v F' => ∃ (xs : List (List UInt8)) (a : Option Addr) (c : Nat) (q : Option Nat × Cont) (Fr : Atoms) (σ' : RSt), v = .slice a xs.length c ∧ F' = Fr ++ [q] ∧ OwnA 1 9 a xs.length c (xs.map str) q ∧ (∀ x ∈ xs, x.length ≤ 1000) ∧ xs.length ≤ 20 ∧ RdF O Bv N bs xb rb pb ts σ' ok Fr ∧ Goes (pList 20 (pText ts)) σ xs σ' := by
  refine (listS_ok (most := 20) (pr := id) (p := pText ts) (W := fun x => x.length ≤ 1000) (okx := fun _ => true) (OwnX := fun _ Z => Z = []) hst hF hB (by omega) ?_).mono ?_
  · intro H' σ' ok' F' hst' hF' hB'
    refine (rtext_ok hst' hF' hB' hts htn).mono ?_
    rintro v F'' ⟨x, σ'', rfl, h1, h2, h3⟩
    exact ⟨x, σ'', F'', [], rfl, (List.append_nil _).symm, h1, rfl, by simpa using h2, h3⟩
  · rintro v F' ⟨xs, a, c, q, Fr, Z, σ', rfl, rfl, h1, h2, h3, h4, h5, h6⟩
    obtain rfl := ownL_nil h2
    exact ⟨xs, a, c, q, Fr, σ', rfl, rfl, h1, h3, h4, by rwa [List.all_eq_true.2 (fun _ _ => rfl), Bool.and_true] at h5, by simpa using h6⟩
theorem lfld_ok (hst : St (blksOf F) H H F) (hF : RdF O Bv N bs xb rb pb ts σ ok F) (hB : RdK O H F Bv N bs) (hts : ∀ t ∈ ts, t.length ≤ 1000) (htn : ts.length ≤ 10000) :
    FpC TT O 102 [ptr xb, .int .i64 100, .func (.func 103) #[ptr xb] #[]] H F fun v F' => ∃ (xs : List FV) (a : Option Addr) (c : Nat) (q : Option Nat × Cont) (Fr : Atoms) (σ' : RSt), v = .slice a xs.length c ∧ F' = Fr ++ [q] ∧ OwnA 4 63 a xs.length c (xs.flatMap FV.cells) q ∧ (∀ x ∈ xs, x.nm.length ≤ 1000 ∧ x.tc.length ≤ 1000) ∧ xs.length ≤ 100 ∧ RdF O Bv N bs xb rb pb ts σ' (ok && xs.all okF) Fr ∧ Goes (pList 100 (pField ts)) σ xs σ' := by
  refine (listF_ok (most := 100) (pr := id) (p := pField ts) (W := fun x => x.nm.length ≤ 1000 ∧ x.tc.length ≤ 1000) (okx := okF) (OwnX := fun _ Z => Z = []) hst hF hB (by omega) ?_).mono ?_
  · intro H' σ' ok' F' hst' hF' hB'
    refine (rfld_ok hst' hF' hB' hts htn).mono ?_
    rintro v F'' ⟨x, σ'', rfl, h1, h2, h3⟩
    exact ⟨x, σ'', F'', [], rfl, (List.append_nil _).symm, h1, rfl, h2, h3⟩
  · rintro v F' ⟨xs, a, c, q, Fr, Z, σ', rfl, rfl, h1, h2, h3, h4, h5, h6⟩
    obtain rfl := ownL_nil h2
    exact ⟨xs, a, c, q, Fr, σ', rfl, rfl, h1, h3, h4, h5, by simpa using h6⟩
theorem lmeth_ok (hst : St (blksOf F) H H F) (hF : RdF O Bv N bs xb rb pb ts σ ok F) (hB : RdK O H F Bv N bs) (hts : ∀ t ∈ ts, t.length ≤ 1000) (htn : ts.length ≤ 10000) :
    FpC TT O 104 [ptr xb, .int .i64 100, .func (.func 105) #[ptr xb] #[]] H F fun v F' => ∃ (xs : List MV) (a : Option Addr) (c : Nat) (q : Option Nat × Cont) (Fr Z : Atoms) (σ' : RSt), v = .slice a xs.length c ∧ F' = Fr ++ (q :: Z) ∧ OwnA 9 59 a xs.length c (xs.flatMap MV.cells) q ∧ OwnL OwnM xs Z ∧ (∀ x ∈ xs, WfM x.toPM) ∧ xs.length ≤ 100 ∧ RdF O Bv N bs xb rb pb ts σ' (ok && xs.all fun m => okM m.toPM) Fr ∧ Goes (pList 100 (pMeth ts)) σ (xs.map MV.toPM) σ' := by
  refine (listM_ok (most := 100) (pr := MV.toPM) (p := pMeth ts) (W := fun x => WfM x.toPM) (okx := fun m => okM m.toPM) (OwnX := OwnM) hst hF hB (by omega) ?_)
  intro H' σ' ok' F' hst' hF' hB'
  refine (rmeth_ok hst' hF' hB' hts htn).mono ?_
  rintro v F'' ⟨x, σ'', Fr, Z, rfl, rfl, h1, h2, h3, h4⟩
  exact ⟨x, σ'', Fr, Z, rfl, rfl, h1, h2, h3, h4⟩
set_option maxHeartbeats 8000000 in
set_option maxRecDepth 100000 in
theorem rcls_ok (hst : St (blksOf F) H H F) (hF : RdF O Bv N bs xb rb pb ts σ ok F) (hB : RdK O H F Bv N bs) (hts : ∀ t ∈ ts, t.length ≤ 1000) (htn : ts.length ≤ 10000) :
    FpC TT O 59 [ptr xb] H F fun v F' => ∃ (x : CV) (σ' : RSt) (Fr Z : Atoms), v = x.val ∧ F' = Fr ++ Z ∧ WfC x.pc ∧ OwnK x Z ∧ RdF O Bv N bs xb rb pb ts σ' (ok && okC x.pc) Fr ∧ Goes (pCls ts) σ x.pc σ' := by
  refine call_fpM rfl rfl rfl rfl rfl hst ?_
  refine ExecS.perm (L' := F ++ []) (List.Perm.of_eq (List.append_nil _).symm) ?_
  obtain ⟨s, nn, ct, Fp, rfl, hct, hP, rfl⟩ := hF
  repeat (first | refine zrb ?_ | (refine zn ?_; intro _))
  rename_i b2
  refine exec_draw (lst := [(0, 0), (2, 0), (4, 0), (5, 0), (6, 32), (8, 0), (9, 256), (10, 768), (11, 1792), (14, 0), (1, 1), (3, 7), (7, 127), (12, 4095), (13, 8191), (15, 32767)]) (full := 65535) (by kernel_rfl) (by kernel_rfl) (by kernel_rfl) (by kernel_rfl) ?_
  repeat (first | refine zdb ?_)
  try refine draw_nil ?_
  refine draw_a rfl rfl rfl rfl rfl (step_alloc rfl rfl rfl rfl (fun b3 => (zst ?_)))
  refine draw_w rfl rfl rfl rfl rfl rfl (step_call_fz2 (F := xrA xb rb pb ok nn :: (some rb, ct) :: Fp) (Z := []) rfl rfl rfl (fun H hs hst => rtext_ok hst ⟨s, nn, ct, Fp, rfl, hct, hP, rfl⟩ ⟨hB.1, hB.2.base hs⟩ hts htn) (fun v2 F2 h2 => ?_))
  obtain ⟨x2, σ2, rfl, hx2, hF2, g2⟩ := h2
  obtain ⟨s2, n2, ct2, Fp2, rfl, hct2, hP2, rfl⟩ := hF2
  refine (zst ?_)
  repeat (first | refine zdb ?_)
  try refine draw_nil ?_
  refine draw_w rfl rfl rfl rfl rfl rfl (step_call_fz2 (F := xrA xb rb pb ok n2 :: (some rb, ct2) :: Fp2) (Z := []) rfl rfl rfl (fun H hs hst => rtext_ok hst ⟨s2, n2, ct2, Fp2, rfl, hct2, hP2, rfl⟩ ⟨hB.1, hB.2.base hs⟩ hts htn) (fun v3 F3 h3 => ?_))
  obtain ⟨x3, σ3, rfl, hx3, hF3, g3⟩ := h3
  obtain ⟨s3, n3, ct3, Fp3, rfl, hct3, hP3, rfl⟩ := hF3
  refine (zst ?_)
  repeat (first | refine zdb ?_)
  try refine draw_nil ?_
  refine draw_w rfl rfl rfl rfl rfl rfl (step_call_fz2 (F := xrA xb rb pb ok n3 :: (some rb, ct3) :: Fp3) (Z := []) rfl rfl rfl (fun H hs hst => lstr_ok hst ⟨s3, n3, ct3, Fp3, rfl, hct3, hP3, rfl⟩ ⟨hB.1, hB.2.base hs⟩ hts htn) (fun v4 F4 h4 => ?_))
  obtain ⟨ifs, ia, ic, q4, Fr4, σ4, rfl, rfl, ownI, hWi, hin, hF4, g4⟩ := h4
  obtain ⟨s4, n4, ct4, Fp4, rfl, hct4, hP4, rfl⟩ := hF4
  refine (zst ?_)
  refine DrawS.perm (((perm_tail (a := xrA xb rb pb ok n4 :: (some rb, ct4) :: Fp4) (b := [q4]) (c := [])).cons _).cons _) ?_
  repeat (first | refine zdb ?_)
  try refine draw_nil ?_
  refine draw_w rfl rfl rfl rfl rfl rfl (step_call_mut 3 rfl rfl rfl rfl (fun H hs hh hlt => uNum_ok (most := 4) hh hlt hct4 (hB.rb hs (i := 3) rfl)) (fun v ct h => ?_))
  obtain ⟨hct5, rfl⟩ := h
  refine (zst ?_)
  have g5 := goes_num (most := 4) n4 s4
  revert hct5 g5
  generalize uNum 4 s4 = u
  obtain ⟨z5, s5⟩ := u
  intro hct5 g5
  repeat (first | refine zdb ?_)
  try refine draw_nil ?_
  refine draw_w rfl rfl rfl rfl rfl rfl (step_storeZ 0 rfl rfl rfl rfl rfl rfl rfl rfl rfl (zst ?_))
  refine draw_nil ?_
  have hF5 : RdF O Bv N bs xb rb pb ts (sig n4 s5) ok (xrA xb rb pb ok n4 :: (some rb, ct) :: Fp4) := ⟨s5, n4, ct, Fp4, rfl, hct5, hP4, rfl⟩
  refine ExecS.perm (L' := [_, _] ++ ((xrA xb rb pb ok n4 :: (some rb, ct) :: Fp4) ++ ([] ++ [q4]))) (List.Perm.refl _) ?_
  clear hct5 hct4 hP4
  revert hF5
  generalize (xrA xb rb pb ok n4 :: (some rb, ct) :: Fp4) = F5
  intro hF5
  repeat (first | refine zrb ?_ | (refine zn ?_; intro _))
  refine ops_step rfl rfl rfl (step_call_fz2 (F := F5) (Z := [] ++ [q4]) rfl rfl rfl (fun H hs hst => lfld_ok hst hF5 ⟨hB.1, hB.2.base hs⟩ hts htn) (fun v6 F6 h6 => ?_))
  obtain ⟨fl, fa, fc, q6, Fr6, σ6, rfl, rfl, ownF, hWf, hfn, hF6, g6⟩ := h6
  refine OpsS.perm (((perm_tail (a := Fr6) (b := [q6]) (c := [] ++ [q4])).cons _).cons _) ?_
  repeat (first | refine zrb ?_ | (refine zn ?_; intro _))
  refine ops_step rfl rfl rfl (step_call_fz2 (F := Fr6) (Z := ([] ++ [q4]) ++ [q6]) rfl rfl rfl (fun H hs hst => lmeth_ok hst hF6 ⟨hB.1, hB.2.base hs⟩ hts htn) (fun v7 F7 h7 => ?_))
  obtain ⟨ml, ma, mc, q7, Fr7, Z7, σ7, rfl, rfl, ownM, ownZ, hWm, hmn, hF7, g7⟩ := h7
  refine OpsS.perm (((perm_tail (a := Fr7) (b := q7 :: Z7) (c := ([] ++ [q4]) ++ [q6])).cons _).cons _) ?_
  repeat (first | refine zrb ?_ | (refine zn ?_; intro _))
  refine ⟨trivial, [_], ⟨look_agg 1 rfl rfl rfl rfl, trivial⟩, Fr7 ++ (q4 :: q6 :: q7 :: Z7), _, List.perm_append_comm (l₁ := [_, _]), ⟨x2, x3, ifs, z5, fl, ml, ia, ic, fa, fc, ma, mc⟩, σ7, Fr7, q4 :: q6 :: q7 :: Z7, rfl, rfl, ?_, ⟨q4, q6, q7, Z7, rfl, .inl ownI, .inl ownF, .inl ownM, ownZ⟩, ?_, g2.bind (g3.bind (g4.bind (g5.bind (g6.bind g7.bindR))))⟩
  · refine ⟨hx2, hx3, hWi, hWf, fun m hm => ?_, Nat.le_trans hin (by decide), Nat.le_trans hfn (by decide), by rw [List.length_map]; exact Nat.le_trans hmn (by decide)⟩
    obtain ⟨m', h1, rfl⟩ := List.mem_map.1 hm
    exact hWm m' h1
  · have e : (ok && okC ⟨x2, x3, ifs, z5, fl, ml.map MV.toPM⟩) = (ok && fl.all okF && ml.all fun m => okM m.toPM) := by
      simp [okC, List.all_map, Function.comp_def, Bool.and_assoc]
    rw [e]; exact hF7
theorem lcls_ok (hst : St (blksOf F) H H F) (hF : RdF O Bv N bs xb rb pb ts σ ok F) (hB : RdK O H F Bv N bs) (hts : ∀ t ∈ ts, t.length ≤ 1000) (htn : ts.length ≤ 10000) :
    FpC TT O 58 [ptr xb, .int .i64 400, .func (.func 59) #[ptr xb] #[]] H F fun v F' => ∃ (xs : List CV) (a : Option Addr) (c : Nat) (q : Option Nat × Cont) (Fr Z : Atoms) (σ' : RSt), v = .slice a xs.length c ∧ F' = Fr ++ (q :: Z) ∧ OwnA 6 52 a xs.length c (xs.flatMap CV.cells) q ∧ OwnL OwnK xs Z ∧ (∀ x ∈ xs, WfC x.pc) ∧ xs.length ≤ 400 ∧ RdF O Bv N bs xb rb pb ts σ' (ok && xs.all fun m => okC m.pc) Fr ∧ Goes (pArc ts) σ (xs.map CV.pc) σ' := by
  refine (listC_ok (most := 400) (pr := CV.pc) (p := pCls ts) (W := fun x => WfC x.pc) (okx := fun m => okC m.pc) (OwnX := OwnK) hst hF hB (by omega) ?_)
  intro H' σ' ok' F' hst' hF' hB'
  refine (rcls_ok hst' hF' hB' hts htn).mono ?_
  rintro v F'' ⟨x, σ'', Fr, Z, rfl, rfl, h1, h2, h3, h4⟩
  exact ⟨x, σ'', Fr, Z, rfl, rfl, h1, h2, h3, h4⟩
end
end Go.Proofs.YtlhkndjloeoodaaGreat
namespace Go.Proofs.YtlhkndjloeoodaaGreat
open Go.Ev Go.Ev.Wk
variable {O : Old}
def pTx : Pr (List UInt8) := fun l => if (textR l 1000).2.2 ≠ 0 then .error (textR l 1000).2.2 else .ok ((textR l 1000).1, l.drop (textR l 1000).2.1)
def uText (most : Int) (s : US) : List UInt8 × US := if s.2 ≠ 0 then ([], s) else ((textR s.1 most).1, (s.1.drop (textR s.1 most).2.1, (textR s.1 most).2.2))
theorem goes_tx (s : US) : Goes pTx (sig false s) (uText 1000 s).1 (sig false (uText 1000 s).2) := by
  by_cases h : s.2 = 0
  · by_cases h2 : (textR s.1 1000).2.2 = 0 <;> simp [sig, h, Goes, pTx, uText, h2]
  · simp [sig, h, Goes, uText]
theorem uText_len (s : US) : (uText 1000 s).1.length ≤ 1000 := by
  unfold uText
  split
  · simp
  · rcases textR_cases s.1 1000 with ⟨x, k, h1, h2, h3, h4, h5⟩ | ⟨x, k, h1, h2, h3, h4, h5⟩ | ⟨e, h1, h2, h3, h4⟩
    · rw [h5]; simp only [List.length_take]; omega
    · rw [h5]; simp
    · rw [h4]; simp
theorem uText_ok {H : Heap} {rb N : Nat} {Bv : Value} {bs : List UInt8} {s : US} {ct : Cont} {most : Int} (hh : Has H rb ct) (hlt : rb < H.next) (hct : RbC O Bv N bs s ct) (hB : RbK O H rb Bv N bs) :
    CallC TT O 99 [ptr rb, .int .i64 most] H fun v H' => ∃ ct', ExtBut [rb] H H' ∧ Has H' rb ct' ∧ (RbC O Bv N bs (uText most s).2 ct' ∧ v = str (uText most s).1) := by
  obtain ⟨l, e⟩ := s
  obtain ⟨a, n, c, rfl, hp⟩ := hct
  by_cases he : e = 0
  · subst he
    have hp := hp rfl
    have hs0 : SlX [rb] O H (.slice a n c) 1 n (l.map by8) := fun H' e => hp.2 H' (hB.2 H' e)
    have hln : l.length = n := by have := (hs0 H (ExtBut.refl _ _)).1; simpa using this
    have hn := Nat.le_trans hp.1 hB.1
    rcases textR_cases l most with ⟨x, k, h1, h2, h3, h4, h5⟩ | ⟨x, k, h1, h2, h3, h4, h5⟩ | ⟨e, h1, h2, h3, h4⟩
    · refine (textM_ok hh hlt hs0 hn h1 (by omega)).mono ?_
      rintro v H' ⟨ct', g1, g2, g3, g4⟩
      refine ⟨ct', g1, g2, ⟨cutAddr a 1 c (k + x), n - (k + x), cutCap' a c (k + x), ?_, fun _ => ?_⟩, ?_⟩
      · rw [g3]; simp only [uText, h5, ne_eq, not_true_eq_false, if_false]
      · simp only [uText, h5, ne_eq, not_true_eq_false, if_false]; exact hp.cut hln (by omega)
      · rw [g4]; simp only [uText, h5, ne_eq, not_true_eq_false, if_false]
    · refine (textShort_ok hh hlt hs0 hn h1 (by omega) (by omega)).mono ?_
      rintro v H' ⟨ct', g1, g2, g3, g4⟩
      refine ⟨ct', g1, g2, ⟨a, n, c, ?_, fun h => ?_⟩, ?_⟩
      · rw [g3]; simp only [uText, h5, ne_eq, not_true_eq_false, if_false]
      · simp only [uText, h5, ne_eq, not_true_eq_false, if_false] at h; exact absurd h (by decide)
      · rw [g4]; simp only [uText, h5, ne_eq, not_true_eq_false, if_false]
    · refine (textE_ok hh hlt hs0 hn h3 (by omega)).mono ?_
      rintro v H' ⟨ct', g1, g2, g3, g4⟩
      refine ⟨ct', g1, g2, ⟨a, n, c, ?_, fun h => ?_⟩, ?_⟩
      · rw [g3]; simp only [uText, h4, ne_eq, not_true_eq_false, if_false]
      · simp only [uText, h4, ne_eq, not_true_eq_false, if_false] at h; omega
      · rw [g4]; simp only [uText, h4, ne_eq, not_true_eq_false, if_false]
  · refine (textErr_ok hh hlt he).mono ?_
    rintro v H' ⟨ct', g1, g2, g3, g4⟩
    refine ⟨ct', g1, g2, ⟨a, n, c, ?_, fun h => ?_⟩, ?_⟩
    · rw [g3]; simp only [uText, ne_eq, he, not_false_eq_true, if_true]
    · simp only [uText, ne_eq, he, not_false_eq_true, if_true] at h
    · rw [g4]; simp only [uText, ne_eq, he, not_false_eq_true, if_true]
theorem readTs_rep : ∀ (n : Nat) (l : List UInt8), match pRep pTx n l with
    | .ok (xs, l') => readTs n l = (0, xs, l')
    | .error e => e ≠ 0 ∧ (readTs n l).1 = e
  | 0, l => by simp [pRep, pRet, readTs]
  | n + 1, l => by
    by_cases h : (textR l 1000).2.2 = 0
    · have ih := readTs_rep n (l.drop (textR l 1000).2.1)
      simp only [pRep, pBind, pTx, h, ne_eq, not_true_eq_false, if_false, readTs]
      cases hp : pRep pTx n (l.drop (textR l 1000).2.1) with
      | error e => rw [hp] at ih; exact ih
      | ok x =>
        obtain ⟨xs, l'⟩ := x
        rw [hp] at ih
        simp only [pRet]
        simp only at ih
        rw [ih]
    · simp only [pRep, pBind, pTx, ne_eq, h, not_false_eq_true, if_true, readTs]
      first | exact ⟨h, trivial⟩ | exact ⟨trivial, h⟩ | simp [h]
def pPool : Pr (List (List UInt8)) := pList 10000 pTx
theorem poolR_rep (l : List UInt8) : match pPool l with
    | .ok (xs, l') => poolR l = (0, xs, l')
    | .error e => e ≠ 0 ∧ (poolR l).1 = e := by
  by_cases h : (numR l 10000).2.2 = 0
  · have ih := readTs_rep (numR l 10000).1.toNat (l.drop (numR l 10000).2.1.toNat)
    simp only [pPool, pList, pBind, pNum, h, ne_eq, not_true_eq_false, if_false, poolR]
    exact ih
  · simp only [pPool, pList, pBind, pNum, ne_eq, h, not_false_eq_true, if_true, poolR]
    first | exact ⟨h, trivial⟩ | exact ⟨trivial, h⟩ | simp [h]
set_option maxHeartbeats 8000000 in
set_option maxRecDepth 100000 in
theorem poolReadP_ok {H : Heap} {rb N : Nat} {Bv : Value} {bs l : List UInt8} {ct : Cont} (hst : St (blksOf [(some rb, ct)]) H H [(some rb, ct)]) (hct : RbC O Bv N bs (l, 0) ct) (hB : RdK O H [(some rb, ct)] Bv N bs) :
    FpC TT O 56 [ptr rb] H [(some rb, ct)] fun v F' => ∃ (ct' : Cont) (F1 : Atoms) (s' : US) (ts : List (List UInt8)), F' = (some rb, ct') :: F1 ∧ RbC O Bv N bs s' ct' ∧ Goes pPool (.ok l) ts (sig false s') ∧ ts.length ≤ 10000 ∧ (∀ t ∈ ts, t.length ≤ 1000) ∧ (s'.2 ≠ 0 ∧ v = .tuple #[.pointer none, .bool false] ∨ s'.2 = 0 ∧ ∃ pb, v = .tuple #[ptr pb, .bool true] ∧ PoolF pb ts F1) := by
  refine call_fp rfl rfl rfl rfl rfl hst ?_
  repeat (first | refine zrb ?_ | (refine zn ?_; intro _))
  refine ops_step rfl rfl rfl (step_call_fp [] [_] rfl rfl rfl (List.Perm.refl _) (fun H hs hst => poolNew_ok hst) (fun v F' h => ?_))
  obtain ⟨pb, rfl, hP⟩ := h
  refine OpsS.perm (L' := (some rb, ct) :: F') (List.perm_append_comm (l₁ := F') (l₂ := [_])) ?_
  repeat (first | refine zrb ?_ | (refine zn ?_; intro _))
  refine ops_step rfl rfl rfl (step_call_mut 0 rfl rfl rfl rfl (fun H hs hh hlt => uNum_ok (most := 10000) hh hlt hct (hB.rb hs (i := 0) rfl)) (fun v ct h => ?_))
  obtain ⟨hct1, rfl⟩ := h
  have g1 := goes_num (most := 10000) false (l, 0)
  have hr := uNum_range (most := 10000) (l, 0)
  revert hct1 g1 hr
  rw [show ((10000 : Nat) : Int) = 10000 from rfl, show sig false (l, 0) = .ok l from rfl]
  generalize uNum 10000 (l, 0) = u
  obtain ⟨z1, s1⟩ := u
  intro hct1 g1 hr
  obtain ⟨n, rfl⟩ : ∃ n : Nat, z1 = (n : Int) := ⟨z1.toNat, by omega⟩
  have hn : n ≤ 10000 := by omega
  repeat (first | refine zrb ?_ | (refine zn ?_; intro _))
  refine ExecS.weak (E' := [(0, ptr rb), (4, ptr pb), (5, .int .i64 (n : Int))]) (L' := (some rb, ct) :: F') ⟨rfl, rfl, rfl, trivial⟩ (.refl _) ?_
  have fin : ∀ (s' : US) (ct' : Cont) (ts : List (List UInt8)) (k : Nat) (F1 : Atoms), ts.length + k = n → (∀ t ∈ ts, t.length ≤ 1000) → PoolF pb ts F1 → RbC O Bv N bs s' ct' → Sofar pTx n (sig false s1) ts k (sig false s') → (k = 0 ∨ s'.2 ≠ 0) → Goes pPool (.ok l) ts (sig false s') ∧ ts.length ≤ 10000 := by
    intro s' ct' ts k F1 h1 h2 h3 h4 h5 h6
    refine ⟨g1.bind ?_, by omega⟩
    rw [Int.toNat_natCast]
    refine h5.done (h6.imp id fun h => ⟨s'.2, ?_⟩)
    simp [sig, h]
  refine exec_loop (fun k E L => ∃ (s' : US) (ct' : Cont) (ts : List (List UInt8)) (F1 : Atoms), ts.length + k = n ∧ (∀ t ∈ ts, t.length ≤ 1000) ∧ PoolF pb ts F1 ∧ RbC O Bv N bs s' ct' ∧ Sofar pTx n (sig false s1) ts k (sig false s') ∧ E = [(0, ptr rb), (4, ptr pb), (5, .int .i64 (k : Int))] ∧ L = (some rb, ct') :: F1) ?_ n _ _ ⟨s1, ct, [], F', by simp, by simp, hP, hct1, Sofar.start _ _ _, rfl, rfl⟩
  clear hct1 hP hct
  rintro k E L ⟨s', ct', ts, F1, hk, hts, hP, hct, hsf, rfl, rfl⟩
  have hfin := fin s' ct' ts k F1 hk hts hP hct hsf
  obtain ⟨a, nn, c, rfl, hp⟩ := hct
  by_cases hk0 : k = 0
  · subst hk0
    repeat (first | refine zrb ?_ | (refine zn ?_; intro _))
    refine ops_step rfl rfl rfl (step_call_mut 0 rfl rfl rfl rfl (fun H hs hh hlt => err_ok hh hlt) (fun v ct h => ?_))
    obtain ⟨rfl, rfl⟩ := h
    repeat (first | refine zrb ?_ | (refine zn ?_; intro _))
    obtain ⟨f1, f2⟩ := hfin (.inl rfl)
    by_cases he : s'.2 = 0
    · rw [show (s'.2 != 0) = false from by simpa using he]
      repeat (first | refine zrb ?_ | (refine zn ?_; intro _))
      exact ⟨trivial, _, rfl, _, [], List.Perm.of_eq (List.append_nil _).symm, _, F1, s', ts, rfl, ⟨a, nn, c, rfl, hp⟩, f1, f2, hts, .inr ⟨he, pb, rfl, hP⟩⟩
    · rw [show (s'.2 != 0) = true from by simpa using he]
      repeat (first | refine zrb ?_ | (refine zn ?_; intro _))
      exact ⟨trivial, _, rfl, _, [], List.Perm.of_eq (List.append_nil _).symm, _, F1, s', ts, rfl, ⟨a, nn, c, rfl, hp⟩, f1, f2, hts, .inl ⟨he, rfl⟩⟩
  obtain ⟨k', rfl⟩ : ∃ k', k = k' + 1 := ⟨k - 1, by omega⟩
  repeat (first | refine zrb ?_ | (refine zn ?_; intro _))
  rw [show decide (((k' + 1 : Nat) : Int) > 0) = true from decide_eq_true (by omega)]
  repeat (first | refine zrb ?_ | (refine zn ?_; intro _))
  refine ops_step rfl rfl rfl (step_call_mut 0 rfl rfl rfl rfl (fun H hs hh hlt => err_ok hh hlt) (fun v ct h => ?_))
  obtain ⟨rfl, rfl⟩ := h
  repeat (first | refine zrb ?_ | (refine zn ?_; intro _))
  by_cases he : s'.2 = 0
  · rw [show (s'.2 == 0) = true from by simpa using he]
    repeat (first | refine zrb ?_ | (refine zn ?_; intro _))
    refine ops_step rfl rfl rfl (step_call_mut 0 rfl rfl rfl rfl (fun H hs hh hlt => uText_ok (s := s') (most := 1000) hh hlt ⟨a, nn, c, rfl, hp⟩ (hB.rb hs (i := 0) rfl)) (fun v ct h => ?_))
    obtain ⟨hct2, rfl⟩ := h
    repeat (first | refine zrb ?_ | (refine zn ?_; intro _))
    refine ops_step rfl rfl rfl (step_call_fp1 rfl rfl rfl (fun H hs hst => poolAdd_ok (s := (uText 1000 s').1) hst hP (by omega)) (fun v F2 h => ?_))
    repeat (first | refine zrb ?_ | (refine zn ?_; intro _))
    refine ⟨k', by omega, _, _, ?_, .refl _, (uText 1000 s').2, _, ts ++ [(uText 1000 s').1], F2, ?_, ?_, h, hct2, ?_, rfl, rfl⟩
    · refine ⟨rfl, rfl, ?_, trivial⟩
      show some (Value.int .i64 (((k' + 1 : Nat) : Int) - 1)) = some (Value.int .i64 (k' : Int))
      congr 2
      omega
    · rw [List.length_append, List.length_singleton]; omega
    · intro t ht
      rcases List.mem_append.1 ht with h | h
      · exact hts t h
      · cases List.mem_singleton.1 h; exact uText_len s'
    · have hg := goes_tx s'
      have e : sig false s' = .ok s'.1 := by simp [sig, he]
      rw [e] at hg hsf
      exact hsf.next hg
  · rw [show (s'.2 == 0) = false from by simpa using he]
    repeat (first | refine zrb ?_ | (refine zn ?_; intro _))
    refine ops_step rfl rfl rfl (step_call_mut 0 rfl rfl rfl rfl (fun H hs hh hlt => err_ok hh hlt) (fun v ct h => ?_))
    obtain ⟨rfl, rfl⟩ := h
    repeat (first | refine zrb ?_ | (refine zn ?_; intro _))
    rw [show (s'.2 != 0) = true from by simpa using he]
    repeat (first | refine zrb ?_ | (refine zn ?_; intro _))
    obtain ⟨f1, f2⟩ := hfin (.inr he)
    exact ⟨trivial, _, rfl, _, [], List.Perm.of_eq (List.append_nil _).symm, _, F1, s', ts, rfl, ⟨a, nn, c, rfl, hp⟩, f1, f2, hts, .inl ⟨he, rfl⟩⟩
end Go.Proofs.YtlhkndjloeoodaaGreat
namespace Go.Proofs.YtlhkndjloeoodaaGreat
open Go.Ev Go.Ev.Wk
variable {O : Old}
theorem HV.eq_iff (a b : HV) : a = b ↔ a.fr = b.fr ∧ a.to = b.to ∧ a.at_ = b.at_ ∧ a.ct = b.ct := by cases a; cases b; simp
theorem FV.eq_iff (a b : FV) : a = b ↔ a.nm = b.nm ∧ a.tk = b.tk ∧ a.tc = b.tc ∧ a.st = b.st := by cases a; cases b; simp
theorem PM.eq_iff (a b : PM) : a = b ↔ a.nm = b.nm ∧ a.ps = b.ps ∧ a.rk = b.rk ∧ a.rc = b.rc ∧ a.st = b.st ∧ a.ab = b.ab ∧ a.lo = b.lo ∧ a.cl = b.cl ∧ a.hl = b.hl := by cases a; cases b; simp
theorem PC.eq_iff (a b : PC) : a = b ↔ a.nm = b.nm ∧ a.su = b.su ∧ a.ifs = b.ifs ∧ a.kd = b.kd ∧ a.fl = b.fl ∧ a.ml = b.ml := by cases a; cases b; simp
theorem eqV_han (a b : HV) : eqV TT 66 a.val b.val = some (decide (a = b)) := by
  have h : eqV TT 66 a.val b.val = (match some (a.fr == b.fr) with | some true => (match some (a.to == b.to) with | some true => (match some (a.at_ == b.at_) with | some true => (match some (a.ct == b.ct) with | some true => some true | some false => some false | none => none) | some false => some false | none => none) | some false => some false | none => none) | some false => some false | none => none) := rfl
  rw [h]
  simp only [HV.eq_iff]
  cases h0 : (a.fr == b.fr)
  · have := beq_eq_false_iff_ne.1 h0; simp [this]
  have h0 := eq_of_beq h0
  cases h1 : (a.to == b.to)
  · have := beq_eq_false_iff_ne.1 h1; simp [this]
  have h1 := eq_of_beq h1
  cases h2 : (a.at_ == b.at_)
  · have := beq_eq_false_iff_ne.1 h2; simp [this]
  have h2 := eq_of_beq h2
  cases h3 : (a.ct == b.ct)
  · have := beq_eq_false_iff_ne.1 h3; simp [this]
  have h3 := eq_of_beq h3
  simp [h0, h1, h2, h3]
theorem eqV_fld (a b : FV) : eqV TT 63 a.val b.val = some (decide (a = b)) := by
  have h : eqV TT 63 a.val b.val = (match some (a.nm == b.nm) with | some true => (match (match some (a.tk == b.tk) with | some true => (match some (a.tc == b.tc) with | some true => some true | some false => some false | none => none) | some false => some false | none => none) with | some true => (match some (a.st == b.st) with | some true => some true | some false => some false | none => none) | some false => some false | none => none) | some false => some false | none => none) := rfl
  rw [h]
  simp only [FV.eq_iff]
  cases h0 : (a.nm == b.nm)
  · have := beq_eq_false_iff_ne.1 h0; simp [this]
  have h0 := eq_of_beq h0
  cases h1 : (a.tk == b.tk)
  · have := beq_eq_false_iff_ne.1 h1; simp [this]
  have h1 := eq_of_beq h1
  cases h2 : (a.tc == b.tc)
  · have := beq_eq_false_iff_ne.1 h2; simp [this]
  have h2 := eq_of_beq h2
  cases h3 : (a.st == b.st)
  · have := beq_eq_false_iff_ne.1 h3; simp [this]
  have h3 := eq_of_beq h3
  simp [h0, h1, h2, h3]
theorem PL.neqHan {X : List Nat} {H0 : Heap} {E : Env} {L : Atoms} {o : Oper} {x y : Operand} {yt : Nat} {a b : HV} (ho : o.op = .binOp .neq 66 x y yt) (hx : lk E x = some a.val) (hy : lk E y = some b.val) : PL TT O X H0 E L o (.bool (!decide (a = b))) := by
  refine .p (by rw [ho]; rfl) ?_
  rw [ho]
  simp only [opP, hx, hy]
  show (match eqV TT 66 a.val b.val with | some b => some (Value.bool (!b)) | none => none) = _
  rw [eqV_han]
theorem PL.neqFld {X : List Nat} {H0 : Heap} {E : Env} {L : Atoms} {o : Oper} {x y : Operand} {yt : Nat} {a b : FV} (ho : o.op = .binOp .neq 63 x y yt) (hx : lk E x = some a.val) (hy : lk E y = some b.val) : PL TT O X H0 E L o (.bool (!decide (a = b))) := by
  refine .p (by rw [ho]; rfl) ?_
  rw [ho]
  simp only [opP, hx, hy]
  show (match eqV TT 63 a.val b.val with | some b => some (Value.bool (!b)) | none => none) = _
  rw [eqV_fld]
theorem PL.neqStrs {X : List Nat} {H0 : Heap} {E : Env} {L : Atoms} {o : Oper} {t yt : Nat} {x y : Operand} {a b : List UInt8} (ho : o.op = .binOp .neq t x y yt) (hx : lk E x = some (str a)) (hy : lk E y = some (str b)) : PL TT O X H0 E L o (.bool (!decide (a = b))) := by
  refine .p (by rw [ho]; rfl) ?_
  rw [ho]
  simp only [opP, hx, hy, binV, strOp]
  by_cases h : a = b
  · subst h; simp
  · rw [decide_eq_false h, show (a == b) = false from beq_eq_false_iff_ne.2 h]
theorem PL.eqlTyp {X : List Nat} {H0 : Heap} {E : Env} {L : Atoms} {o : Oper} {x y : Operand} {yt : Nat} {a b : Int × List UInt8} (ho : o.op = .binOp .eql 55 x y yt) (hx : lk E x = some (typV a)) (hy : lk E y = some (typV b)) : PL TT O X H0 E L o (.bool (decide (a = b))) := by
  refine .p (by rw [ho]; rfl) ?_
  rw [ho]
  simp only [opP, hx, hy]
  show (match eqV TT 55 (typV a) (typV b) with | some b => some (Value.bool b) | none => none) = _
  rw [eqV_typ]
theorem ext_len {α : Type} {la lb : List α} {n : Nat} (h1 : la.length = n) (h2 : lb.length = n) (h : ∀ j, j < n → la[j]? = lb[j]?) : la = lb := by
  apply List.ext_getElem?
  intro j
  by_cases hj : j < n
  · exact h j hj
  · rw [List.getElem?_eq_none (by omega), List.getElem?_eq_none (by omega)]
set_option maxHeartbeats 8000000 in
set_option maxRecDepth 100000 in
theorem equalS_ok {H : Heap} {aa ab : Option Addr} {ca cb : Nat} {la lb : List (List UInt8)} (ha : Sl O H (.slice aa la.length ca) 1 la.length (la.map str)) (hb : Sl O H (.slice ab lb.length cb) 1 lb.length (lb.map str)) (hn : la.length ≤ 1073741824) :
    CallC TT O 90 [.slice aa la.length ca, .slice ab lb.length cb] H fun v H' => v = .bool (decide (la = lb)) ∧ Ext H H' := by
  refine call_pure rfl rfl rfl rfl rfl ?_
  obtain ⟨n, hla⟩ : ∃ n, n = la.length := ⟨_, rfl⟩
  obtain ⟨m, hlb⟩ : ∃ m, m = lb.length := ⟨_, rfl⟩
  rw [← hla] at ha hn
  rw [← hlb] at hb
  rw [← hla, ← hlb]
  repeat (first | refine zr ?_ | (refine zn ?_; intro _))
  refine exec_cond rfl (fun hne => ?_) (fun heq => ?_)
  · repeat (first | refine zr ?_ | (refine zn ?_; intro _))
    refine ⟨trivial, _, rfl, ?_⟩
    have : la ≠ lb := by
      rintro rfl
      simp at hne
      omega
    rw [decide_eq_false this]; rfl
  have hnm : n = m := by simp at heq; omega
  clear heq
  subst hnm
  repeat (first | refine zr ?_ | (refine zn ?_; intro _))
  refine ExecS.weak (E' := [(0, .slice aa n ca), (1, .slice ab n cb), (12, .int .i64 (n : Int)), (13, .int .i64 ((0 : Nat) : Int))]) ⟨rfl, rfl, rfl, rfl, trivial⟩ (List.Sublist.refl _) ?_
  refine exec_loop (fun k E L => ∃ i : Nat, i + k = n ∧ (∀ j, j < i → la[j]? = lb[j]?) ∧ E = [(0, .slice aa n ca), (1, .slice ab n cb), (12, .int .i64 (n : Int)), (13, .int .i64 (i : Int))] ∧ L = []) ?_ n _ _ ⟨0, by omega, fun j hj => by omega, rfl, rfl⟩
  rintro k E L ⟨i, hik, hpre, rfl, rfl⟩
  repeat (first | refine zr ?_ | (refine zn ?_; intro _))
  refine exec_cond rfl (fun hlt => ?_) (fun hge => ?_)
  · have hi : i < n := by simp at hlt; omega
    obtain ⟨x, hx⟩ : ∃ x, la[i]? = some x := ⟨_, List.getElem?_eq_getElem (by omega)⟩
    obtain ⟨y, hy⟩ : ∃ y, lb[i]? = some y := ⟨_, List.getElem?_eq_getElem (by omega)⟩
    repeat (first | refine zr ?_ | (refine zn ?_; intro _))
    refine exec_draw (lst := [(0, 0), (1, 0), (2, 3), (3, 7), (4, 0), (5, 0), (6, 48), (7, 112), (8, 255)]) (full := 511) (by kernel_rfl) (by kernel_rfl) (by kernel_rfl) (by kernel_rfl) ?_
    repeat (first | refine zd ?_)
    try refine draw_nil ?_
    (first | apply ops_pl rfl rfl rfl ?_ rfl ?_ | apply draw_pl rfl rfl rfl rfl ?_ rfl rfl ?_); rotate_left; focus exact (.p rfl (opP_idx rfl rfl ha rfl rfl (by omega) (by omega)))
    (first | apply ops_pl rfl rfl rfl ?_ rfl ?_ | apply draw_pl rfl rfl rfl rfl ?_ rfl rfl ?_); rotate_left; focus exact (.l rfl (fun H hs => opL_load rfl ((ha.at hs).ld rfl (str_get hx))))
    repeat (first | refine zd ?_)
    try refine draw_nil ?_
    (first | apply ops_pl rfl rfl rfl ?_ rfl ?_ | apply draw_pl rfl rfl rfl rfl ?_ rfl rfl ?_); rotate_left; focus exact (.p rfl (opP_idx rfl rfl hb rfl rfl (by omega) (by omega)))
    (first | apply ops_pl rfl rfl rfl ?_ rfl ?_ | apply draw_pl rfl rfl rfl rfl ?_ rfl rfl ?_); rotate_left; focus exact (.l rfl (fun H hs => opL_load rfl ((hb.at hs).ld rfl (str_get hy))))
    first | refine ops_pl rfl rfl rfl (PL.neqStrs (a := x) (b := y) rfl rfl rfl) rfl ?_ | refine draw_pl rfl rfl rfl rfl (PL.neqStrs (a := x) (b := y) rfl rfl rfl) rfl rfl ?_
    repeat (first | refine zd ?_)
    try refine draw_nil ?_
    cases hxy : decide (x = y)
    · repeat (first | refine zr ?_ | (refine zn ?_; intro _))
      refine ⟨trivial, _, rfl, ?_⟩
      have : la ≠ lb := by
        rintro rfl
        rw [hx] at hy
        exact of_decide_eq_false hxy (Option.some.inj hy)
      rw [decide_eq_false this]; rfl
    · repeat (first | refine zr ?_ | (refine zn ?_; intro _))
      refine ⟨k - 1, by omega, _, _, ?_, List.Sublist.refl _, i + 1, by omega, fun j hj => ?_, rfl, rfl⟩
      · exact ⟨rfl, rfl, rfl, rfl, trivial⟩
      · by_cases hji : j = i
        · subst hji
          rw [hx, hy, of_decide_eq_true hxy]
        · exact hpre j (by omega)
  · have hi : i = n := by simp at hge; omega
    subst hi
    repeat (first | refine zr ?_ | (refine zn ?_; intro _))
    refine ⟨trivial, _, rfl, ?_⟩
    rw [decide_eq_true (ext_len hla.symm hlb.symm hpre)]; rfl
set_option maxHeartbeats 8000000 in
set_option maxRecDepth 100000 in
theorem equalF_ok {H : Heap} {aa ab : Option Addr} {ca cb : Nat} {la lb : List FV} (ha : Sl O H (.slice aa la.length ca) 4 la.length (la.flatMap FV.cells)) (hb : Sl O H (.slice ab lb.length cb) 4 lb.length (lb.flatMap FV.cells)) (hn : la.length ≤ 1073741824) :
    CallC TT O 91 [.slice aa la.length ca, .slice ab lb.length cb] H fun v H' => v = .bool (decide (la = lb)) ∧ Ext H H' := by
  refine call_pure rfl rfl rfl rfl rfl ?_
  obtain ⟨n, hla⟩ : ∃ n, n = la.length := ⟨_, rfl⟩
  obtain ⟨m, hlb⟩ : ∃ m, m = lb.length := ⟨_, rfl⟩
  rw [← hla] at ha hn
  rw [← hlb] at hb
  rw [← hla, ← hlb]
  repeat (first | refine zr ?_ | (refine zn ?_; intro _))
  refine exec_cond rfl (fun hne => ?_) (fun heq => ?_)
  · repeat (first | refine zr ?_ | (refine zn ?_; intro _))
    refine ⟨trivial, _, rfl, ?_⟩
    have : la ≠ lb := by
      rintro rfl
      simp at hne
      omega
    rw [decide_eq_false this]; rfl
  have hnm : n = m := by simp at heq; omega
  clear heq
  subst hnm
  repeat (first | refine zr ?_ | (refine zn ?_; intro _))
  refine ExecS.weak (E' := [(0, .slice aa n ca), (1, .slice ab n cb), (12, .int .i64 (n : Int)), (13, .int .i64 ((0 : Nat) : Int))]) ⟨rfl, rfl, rfl, rfl, trivial⟩ (List.Sublist.refl _) ?_
  refine exec_loop (fun k E L => ∃ i : Nat, i + k = n ∧ (∀ j, j < i → la[j]? = lb[j]?) ∧ E = [(0, .slice aa n ca), (1, .slice ab n cb), (12, .int .i64 (n : Int)), (13, .int .i64 (i : Int))] ∧ L = []) ?_ n _ _ ⟨0, by omega, fun j hj => by omega, rfl, rfl⟩
  rintro k E L ⟨i, hik, hpre, rfl, rfl⟩
  repeat (first | refine zr ?_ | (refine zn ?_; intro _))
  refine exec_cond rfl (fun hlt => ?_) (fun hge => ?_)
  · have hi : i < n := by simp at hlt; omega
    obtain ⟨x, hx⟩ : ∃ x, la[i]? = some x := ⟨_, List.getElem?_eq_getElem (by omega)⟩
    obtain ⟨y, hy⟩ : ∃ y, lb[i]? = some y := ⟨_, List.getElem?_eq_getElem (by omega)⟩
    repeat (first | refine zr ?_ | (refine zn ?_; intro _))
    refine exec_draw (lst := [(0, 0), (1, 0), (2, 3), (3, 7), (4, 0), (5, 0), (6, 48), (7, 112), (8, 255)]) (full := 511) (by kernel_rfl) (by kernel_rfl) (by kernel_rfl) (by kernel_rfl) ?_
    repeat (first | refine zd ?_)
    try refine draw_nil ?_
    (first | apply ops_pl rfl rfl rfl ?_ rfl ?_ | apply draw_pl rfl rfl rfl rfl ?_ rfl rfl ?_); rotate_left; focus exact (.p rfl (opP_idx rfl rfl ha rfl rfl (by omega) (by omega)))
    (first | apply ops_pl rfl rfl rfl ?_ rfl ?_ | apply draw_pl rfl rfl rfl rfl ?_ rfl rfl ?_); rotate_left; focus exact (.l rfl (fun H hs => opL_load rfl ((ha.at hs).ldF (fun _ => rfl) rfl rfl hx)))
    repeat (first | refine zd ?_)
    try refine draw_nil ?_
    (first | apply ops_pl rfl rfl rfl ?_ rfl ?_ | apply draw_pl rfl rfl rfl rfl ?_ rfl rfl ?_); rotate_left; focus exact (.p rfl (opP_idx rfl rfl hb rfl rfl (by omega) (by omega)))
    (first | apply ops_pl rfl rfl rfl ?_ rfl ?_ | apply draw_pl rfl rfl rfl rfl ?_ rfl rfl ?_); rotate_left; focus exact (.l rfl (fun H hs => opL_load rfl ((hb.at hs).ldF (fun _ => rfl) rfl rfl hy)))
    first | refine ops_pl rfl rfl rfl (PL.neqFld (a := x) (b := y) rfl rfl rfl) rfl ?_ | refine draw_pl rfl rfl rfl rfl (PL.neqFld (a := x) (b := y) rfl rfl rfl) rfl rfl ?_
    repeat (first | refine zd ?_)
    try refine draw_nil ?_
    cases hxy : decide (x = y)
    · repeat (first | refine zr ?_ | (refine zn ?_; intro _))
      refine ⟨trivial, _, rfl, ?_⟩
      have : la ≠ lb := by
        rintro rfl
        rw [hx] at hy
        exact of_decide_eq_false hxy (Option.some.inj hy)
      rw [decide_eq_false this]; rfl
    · repeat (first | refine zr ?_ | (refine zn ?_; intro _))
      refine ⟨k - 1, by omega, _, _, ?_, List.Sublist.refl _, i + 1, by omega, fun j hj => ?_, rfl, rfl⟩
      · exact ⟨rfl, rfl, rfl, rfl, trivial⟩
      · by_cases hji : j = i
        · subst hji
          rw [hx, hy, of_decide_eq_true hxy]
        · exact hpre j (by omega)
  · have hi : i = n := by simp at hge; omega
    subst hi
    repeat (first | refine zr ?_ | (refine zn ?_; intro _))
    refine ⟨trivial, _, rfl, ?_⟩
    rw [decide_eq_true (ext_len hla.symm hlb.symm hpre)]; rfl
set_option maxHeartbeats 8000000 in
set_option maxRecDepth 100000 in
theorem equalI_ok {H : Heap} {aa ab : Option Addr} {ca cb : Nat} {la lb : List Ins} (ha : Sl O H (.slice aa la.length ca) 7 la.length (la.flatMap insL)) (hb : Sl O H (.slice ab lb.length cb) 7 lb.length (lb.flatMap insL)) (hn : la.length ≤ 1073741824) :
    CallC TT O 132 [.slice aa la.length ca, .slice ab lb.length cb] H fun v H' => v = .bool (decide (la = lb)) ∧ Ext H H' := by
  refine call_pure rfl rfl rfl rfl rfl ?_
  obtain ⟨n, hla⟩ : ∃ n, n = la.length := ⟨_, rfl⟩
  obtain ⟨m, hlb⟩ : ∃ m, m = lb.length := ⟨_, rfl⟩
  rw [← hla] at ha hn
  rw [← hlb] at hb
  rw [← hla, ← hlb]
  repeat (first | refine zr ?_ | (refine zn ?_; intro _))
  refine exec_cond rfl (fun hne => ?_) (fun heq => ?_)
  · repeat (first | refine zr ?_ | (refine zn ?_; intro _))
    refine ⟨trivial, _, rfl, ?_⟩
    have : la ≠ lb := by
      rintro rfl
      simp at hne
      omega
    rw [decide_eq_false this]; rfl
  have hnm : n = m := by simp at heq; omega
  clear heq
  subst hnm
  repeat (first | refine zr ?_ | (refine zn ?_; intro _))
  refine ExecS.weak (E' := [(0, .slice aa n ca), (1, .slice ab n cb), (12, .int .i64 (n : Int)), (13, .int .i64 ((0 : Nat) : Int))]) ⟨rfl, rfl, rfl, rfl, trivial⟩ (List.Sublist.refl _) ?_
  refine exec_loop (fun k E L => ∃ i : Nat, i + k = n ∧ (∀ j, j < i → la[j]? = lb[j]?) ∧ E = [(0, .slice aa n ca), (1, .slice ab n cb), (12, .int .i64 (n : Int)), (13, .int .i64 (i : Int))] ∧ L = []) ?_ n _ _ ⟨0, by omega, fun j hj => by omega, rfl, rfl⟩
  rintro k E L ⟨i, hik, hpre, rfl, rfl⟩
  repeat (first | refine zr ?_ | (refine zn ?_; intro _))
  refine exec_cond rfl (fun hlt => ?_) (fun hge => ?_)
  · have hi : i < n := by simp at hlt; omega
    obtain ⟨x, hx⟩ : ∃ x, la[i]? = some x := ⟨_, List.getElem?_eq_getElem (by omega)⟩
    obtain ⟨y, hy⟩ : ∃ y, lb[i]? = some y := ⟨_, List.getElem?_eq_getElem (by omega)⟩
    repeat (first | refine zr ?_ | (refine zn ?_; intro _))
    refine exec_draw (lst := [(0, 0), (1, 0), (2, 3), (3, 7), (4, 0), (5, 0), (6, 48), (7, 112), (8, 255)]) (full := 511) (by kernel_rfl) (by kernel_rfl) (by kernel_rfl) (by kernel_rfl) ?_
    repeat (first | refine zd ?_)
    try refine draw_nil ?_
    (first | apply ops_pl rfl rfl rfl ?_ rfl ?_ | apply draw_pl rfl rfl rfl rfl ?_ rfl rfl ?_); rotate_left; focus exact (.p rfl (opP_idx rfl rfl ha rfl rfl (by omega) (by omega)))
    (first | apply ops_pl rfl rfl rfl ?_ rfl ?_ | apply draw_pl rfl rfl rfl rfl ?_ rfl rfl ?_); rotate_left; focus exact (.l rfl (fun H hs => opL_load rfl ((ha.at hs).ldF (fun _ => rfl) rfl rfl hx)))
    repeat (first | refine zd ?_)
    try refine draw_nil ?_
    (first | apply ops_pl rfl rfl rfl ?_ rfl ?_ | apply draw_pl rfl rfl rfl rfl ?_ rfl rfl ?_); rotate_left; focus exact (.p rfl (opP_idx rfl rfl hb rfl rfl (by omega) (by omega)))
    (first | apply ops_pl rfl rfl rfl ?_ rfl ?_ | apply draw_pl rfl rfl rfl rfl ?_ rfl rfl ?_); rotate_left; focus exact (.l rfl (fun H hs => opL_load rfl ((hb.at hs).ldF (fun _ => rfl) rfl rfl hy)))
    first | refine ops_pl rfl rfl rfl (PL.neqIns (a := x) (b := y) rfl rfl rfl) rfl ?_ | refine draw_pl rfl rfl rfl rfl (PL.neqIns (a := x) (b := y) rfl rfl rfl) rfl rfl ?_
    repeat (first | refine zd ?_)
    try refine draw_nil ?_
    cases hxy : decide (x = y)
    · repeat (first | refine zr ?_ | (refine zn ?_; intro _))
      refine ⟨trivial, _, rfl, ?_⟩
      have : la ≠ lb := by
        rintro rfl
        rw [hx] at hy
        exact of_decide_eq_false hxy (Option.some.inj hy)
      rw [decide_eq_false this]; rfl
    · repeat (first | refine zr ?_ | (refine zn ?_; intro _))
      refine ⟨k - 1, by omega, _, _, ?_, List.Sublist.refl _, i + 1, by omega, fun j hj => ?_, rfl, rfl⟩
      · exact ⟨rfl, rfl, rfl, rfl, trivial⟩
      · by_cases hji : j = i
        · subst hji
          rw [hx, hy, of_decide_eq_true hxy]
        · exact hpre j (by omega)
  · have hi : i = n := by simp at hge; omega
    subst hi
    repeat (first | refine zr ?_ | (refine zn ?_; intro _))
    refine ⟨trivial, _, rfl, ?_⟩
    rw [decide_eq_true (ext_len hla.symm hlb.symm hpre)]; rfl
set_option maxHeartbeats 8000000 in
set_option maxRecDepth 100000 in
theorem equalH_ok {H : Heap} {aa ab : Option Addr} {ca cb : Nat} {la lb : List HV} (ha : Sl O H (.slice aa la.length ca) 4 la.length (la.flatMap HV.cells)) (hb : Sl O H (.slice ab lb.length cb) 4 lb.length (lb.flatMap HV.cells)) (hn : la.length ≤ 1073741824) :
    CallC TT O 133 [.slice aa la.length ca, .slice ab lb.length cb] H fun v H' => v = .bool (decide (la = lb)) ∧ Ext H H' := by
  refine call_pure rfl rfl rfl rfl rfl ?_
  obtain ⟨n, hla⟩ : ∃ n, n = la.length := ⟨_, rfl⟩
  obtain ⟨m, hlb⟩ : ∃ m, m = lb.length := ⟨_, rfl⟩
  rw [← hla] at ha hn
  rw [← hlb] at hb
  rw [← hla, ← hlb]
  repeat (first | refine zr ?_ | (refine zn ?_; intro _))
  refine exec_cond rfl (fun hne => ?_) (fun heq => ?_)
  · repeat (first | refine zr ?_ | (refine zn ?_; intro _))
    refine ⟨trivial, _, rfl, ?_⟩
    have : la ≠ lb := by
      rintro rfl
      simp at hne
      omega
    rw [decide_eq_false this]; rfl
  have hnm : n = m := by simp at heq; omega
  clear heq
  subst hnm
  repeat (first | refine zr ?_ | (refine zn ?_; intro _))
  refine ExecS.weak (E' := [(0, .slice aa n ca), (1, .slice ab n cb), (12, .int .i64 (n : Int)), (13, .int .i64 ((0 : Nat) : Int))]) ⟨rfl, rfl, rfl, rfl, trivial⟩ (List.Sublist.refl _) ?_
  refine exec_loop (fun k E L => ∃ i : Nat, i + k = n ∧ (∀ j, j < i → la[j]? = lb[j]?) ∧ E = [(0, .slice aa n ca), (1, .slice ab n cb), (12, .int .i64 (n : Int)), (13, .int .i64 (i : Int))] ∧ L = []) ?_ n _ _ ⟨0, by omega, fun j hj => by omega, rfl, rfl⟩
  rintro k E L ⟨i, hik, hpre, rfl, rfl⟩
  repeat (first | refine zr ?_ | (refine zn ?_; intro _))
  refine exec_cond rfl (fun hlt => ?_) (fun hge => ?_)
  · have hi : i < n := by simp at hlt; omega
    obtain ⟨x, hx⟩ : ∃ x, la[i]? = some x := ⟨_, List.getElem?_eq_getElem (by omega)⟩
    obtain ⟨y, hy⟩ : ∃ y, lb[i]? = some y := ⟨_, List.getElem?_eq_getElem (by omega)⟩
    repeat (first | refine zr ?_ | (refine zn ?_; intro _))
    refine exec_draw (lst := [(0, 0), (1, 0), (2, 3), (3, 7), (4, 0), (5, 0), (6, 48), (7, 112), (8, 255)]) (full := 511) (by kernel_rfl) (by kernel_rfl) (by kernel_rfl) (by kernel_rfl) ?_
    repeat (first | refine zd ?_)
    try refine draw_nil ?_
    (first | apply ops_pl rfl rfl rfl ?_ rfl ?_ | apply draw_pl rfl rfl rfl rfl ?_ rfl rfl ?_); rotate_left; focus exact (.p rfl (opP_idx rfl rfl ha rfl rfl (by omega) (by omega)))
    (first | apply ops_pl rfl rfl rfl ?_ rfl ?_ | apply draw_pl rfl rfl rfl rfl ?_ rfl rfl ?_); rotate_left; focus exact (.l rfl (fun H hs => opL_load rfl ((ha.at hs).ldF (fun _ => rfl) rfl rfl hx)))
    repeat (first | refine zd ?_)
    try refine draw_nil ?_
    (first | apply ops_pl rfl rfl rfl ?_ rfl ?_ | apply draw_pl rfl rfl rfl rfl ?_ rfl rfl ?_); rotate_left; focus exact (.p rfl (opP_idx rfl rfl hb rfl rfl (by omega) (by omega)))
    (first | apply ops_pl rfl rfl rfl ?_ rfl ?_ | apply draw_pl rfl rfl rfl rfl ?_ rfl rfl ?_); rotate_left; focus exact (.l rfl (fun H hs => opL_load rfl ((hb.at hs).ldF (fun _ => rfl) rfl rfl hy)))
    first | refine ops_pl rfl rfl rfl (PL.neqHan (a := x) (b := y) rfl rfl rfl) rfl ?_ | refine draw_pl rfl rfl rfl rfl (PL.neqHan (a := x) (b := y) rfl rfl rfl) rfl rfl ?_
    repeat (first | refine zd ?_)
    try refine draw_nil ?_
    cases hxy : decide (x = y)
    · repeat (first | refine zr ?_ | (refine zn ?_; intro _))
      refine ⟨trivial, _, rfl, ?_⟩
      have : la ≠ lb := by
        rintro rfl
        rw [hx] at hy
        exact of_decide_eq_false hxy (Option.some.inj hy)
      rw [decide_eq_false this]; rfl
    · repeat (first | refine zr ?_ | (refine zn ?_; intro _))
      refine ⟨k - 1, by omega, _, _, ?_, List.Sublist.refl _, i + 1, by omega, fun j hj => ?_, rfl, rfl⟩
      · exact ⟨rfl, rfl, rfl, rfl, trivial⟩
      · by_cases hji : j = i
        · subst hji
          rw [hx, hy, of_decide_eq_true hxy]
        · exact hpre j (by omega)
  · have hi : i = n := by simp at hge; omega
    subst hi
    repeat (first | refine zr ?_ | (refine zn ?_; intro _))
    refine ⟨trivial, _, rfl, ?_⟩
    rw [decide_eq_true (ext_len hla.symm hlb.symm hpre)]; rfl
set_option maxHeartbeats 8000000 in
set_option maxRecDepth 100000 in
theorem eqfM_ok {H : Heap} {aa ab : Option Addr} {ca cb g : Nat} {la lb : List MV} (ha : Sl O H (.slice aa la.length ca) 9 la.length (la.flatMap MV.cells)) (hb : Sl O H (.slice ab lb.length cb) 9 lb.length (lb.flatMap MV.cells)) (hn : la.length ≤ 1073741824)
    (hc : ∀ x ∈ la, ∀ y ∈ lb, ∀ H', Ext H H' → CallC TT O g [x.val, y.val] H' fun v H'' => v = .bool (decide (x.toPM = y.toPM)) ∧ Ext H' H'') :
    CallC TT O 92 [.slice aa la.length ca, .slice ab lb.length cb, fnV g] H fun v H' => v = .bool (decide (la.map MV.toPM = lb.map MV.toPM)) ∧ Ext H H' := by
  refine call_pure rfl rfl rfl rfl rfl ?_
  obtain ⟨n, hla⟩ : ∃ n, n = la.length := ⟨_, rfl⟩
  obtain ⟨m, hlb⟩ : ∃ m, m = lb.length := ⟨_, rfl⟩
  rw [← hla] at ha hn
  rw [← hlb] at hb
  rw [← hla, ← hlb]
  repeat (first | refine zr ?_ | (refine zn ?_; intro _))
  refine exec_cond rfl (fun hne => ?_) (fun heq => ?_)
  · repeat (first | refine zr ?_ | (refine zn ?_; intro _))
    refine ⟨trivial, _, rfl, ?_⟩
    have : la.map MV.toPM ≠ lb.map MV.toPM := by
      intro e
      have := congrArg List.length e
      simp only [List.length_map] at this
      simp at hne
      omega
    rw [decide_eq_false this]; rfl
  have hnm : n = m := by simp at heq; omega
  clear heq
  subst hnm
  repeat (first | refine zr ?_ | (refine zn ?_; intro _))
  refine ExecS.weak (E' := [(1, .slice ab n cb), (2, fnV g), (15, .slice aa n ca), (16, .int .i64 (n : Int)), (17, .int .i64 ((0 : Nat) : Int))]) ⟨rfl, rfl, rfl, rfl, rfl, trivial⟩ (List.Sublist.refl _) ?_
  refine exec_loop (fun k E L => ∃ i : Nat, i + k = n ∧ (∀ j, j < i → (la.map MV.toPM)[j]? = (lb.map MV.toPM)[j]?) ∧ E = [(1, .slice ab n cb), (2, fnV g), (15, .slice aa n ca), (16, .int .i64 (n : Int)), (17, .int .i64 (i : Int))] ∧ L = []) ?_ n _ _ ⟨0, by omega, fun j hj => by omega, rfl, rfl⟩
  rintro k E L ⟨i, hik, hpre, rfl, rfl⟩
  repeat (first | refine zr ?_ | (refine zn ?_; intro _))
  refine exec_cond rfl (fun hlt => ?_) (fun hge => ?_)
  · have hi : i < n := by simp at hlt; omega
    obtain ⟨x, hx⟩ : ∃ x, la[i]? = some x := ⟨_, List.getElem?_eq_getElem (by omega)⟩
    obtain ⟨y, hy⟩ : ∃ y, lb[i]? = some y := ⟨_, List.getElem?_eq_getElem (by omega)⟩
    repeat (first | refine zr ?_ | (refine zn ?_; intro _))
    (first | apply ops_pl rfl rfl rfl ?_ rfl ?_ | apply draw_pl rfl rfl rfl rfl ?_ rfl rfl ?_); rotate_left; focus exact (.p rfl (opP_idx rfl rfl ha rfl rfl (by omega) (by omega)))
    (first | apply ops_pl rfl rfl rfl ?_ rfl ?_ | apply draw_pl rfl rfl rfl rfl ?_ rfl rfl ?_); rotate_left; focus exact (.l rfl (fun H hs => opL_load rfl ((ha.at hs).ldF (fun _ => rfl) rfl rfl hx)))
    repeat (first | refine zr ?_ | (refine zn ?_; intro _))
    (first | apply ops_pl rfl rfl rfl ?_ rfl ?_ | apply draw_pl rfl rfl rfl rfl ?_ rfl rfl ?_); rotate_left; focus exact (.p rfl (opP_idx rfl rfl hb rfl rfl (by omega) (by omega)))
    (first | apply ops_pl rfl rfl rfl ?_ rfl ?_ | apply draw_pl rfl rfl rfl rfl ?_ rfl rfl ?_); rotate_left; focus exact (.l rfl (fun H hs => opL_load rfl ((hb.at hs).ldF (fun _ => rfl) rfl rfl hy)))
    repeat (first | refine zr ?_ | (refine zn ?_; intro _))
    refine ops_step rfl rfl rfl (step_call_bool rfl rfl rfl (fun H hs => hc x (List.mem_of_getElem? hx) y (List.mem_of_getElem? hy) H hs.ext) (fun h => ?_) (fun h => ?_))
    · repeat (first | refine zr ?_ | (refine zn ?_; intro _))
      refine ⟨k - 1, by omega, _, _, ?_, .cons _ (.cons _ (.refl _)), i + 1, by omega, fun j hj => ?_, rfl, rfl⟩
      · exact ⟨rfl, rfl, rfl, rfl, rfl, trivial⟩
      · by_cases hji : j = i
        · subst hji
          rw [List.getElem?_map, List.getElem?_map, hx, hy, Option.map_some, Option.map_some, of_decide_eq_true h]
        · exact hpre j (by omega)
    · repeat (first | refine zr ?_ | (refine zn ?_; intro _))
      refine ⟨trivial, _, rfl, ?_⟩
      have : la.map MV.toPM ≠ lb.map MV.toPM := by
        intro e
        have e2 : (la.map MV.toPM)[i]? = (lb.map MV.toPM)[i]? := by rw [e]
        rw [List.getElem?_map, List.getElem?_map, hx, hy] at e2
        exact of_decide_eq_false h (Option.some.inj e2)
      rw [decide_eq_false this]; rfl
  · have hi : i = n := by simp at hge; omega
    subst hi
    repeat (first | refine zr ?_ | (refine zn ?_; intro _))
    refine ⟨trivial, _, rfl, ?_⟩
    rw [decide_eq_true (ext_len (by rw [List.length_map, hla]) (by rw [List.length_map, hlb]) hpre)]; rfl
set_option maxHeartbeats 8000000 in
set_option maxRecDepth 100000 in
theorem sameMethod_ok {H : Heap} {x y : MV} (hx : MethF O H x) (hy : MethF O H y) (wx : WfM x.toPM) : CallC TT O 93 [x.val, y.val] H fun v H' => v = .bool (decide (x.toPM = y.toPM)) ∧ Ext H H' := by
  refine call_pure rfl rfl rfl rfl rfl ?_
  have e : decide (x.toPM = y.toPM) = ((x.nm == y.nm) && (decide (x.ps = y.ps) && (decide ((x.rk, x.rc) = (y.rk, y.rc)) && ((x.st == y.st) && ((x.ab == y.ab) && ((x.lo == y.lo) && (decide (x.cl = y.cl) && decide (x.hl = y.hl)))))))) := by
    rw [Bool.eq_iff_iff]
    simp [PM.eq_iff, and_assoc]
  rw [e]
  have w1 := wx.psn
  have w2 := wx.cln
  have w3 := wx.hln
  repeat (first | refine zr ?_ | (refine zn ?_; intro _))
  cases (x.nm == y.nm)
  · repeat (first | refine zr ?_ | (refine zn ?_; intro _))
    exact ⟨trivial, _, rfl, rfl⟩
  repeat (first | refine zr ?_ | (refine zn ?_; intro _))
  refine ops_step rfl rfl rfl (step_call_bool rfl rfl rfl (fun H hs => same_ok (hx.ext hs.ext).ps (hy.ext hs.ext).ps (by omega)) (fun h => ?_) (fun h => ?_)) <;> rw [h]
  rotate_left
  · repeat (first | refine zr ?_ | (refine zn ?_; intro _))
    exact ⟨trivial, _, rfl, rfl⟩
  repeat (first | refine zr ?_ | (refine zn ?_; intro _))
  (first | apply ops_pl rfl rfl rfl ?_ rfl ?_ | apply draw_pl rfl rfl rfl rfl ?_ rfl rfl ?_); rotate_left; focus exact (PL.eqlTyp (a := (x.rk, x.rc)) (b := (y.rk, y.rc)) rfl rfl rfl)
  cases decide ((x.rk, x.rc) = (y.rk, y.rc))
  · repeat (first | refine zr ?_ | (refine zn ?_; intro _))
    exact ⟨trivial, _, rfl, rfl⟩
  repeat (first | refine zr ?_ | (refine zn ?_; intro _))
  cases (x.st == y.st)
  · repeat (first | refine zr ?_ | (refine zn ?_; intro _))
    exact ⟨trivial, _, rfl, rfl⟩
  repeat (first | refine zr ?_ | (refine zn ?_; intro _))
  cases (x.ab == y.ab)
  · repeat (first | refine zr ?_ | (refine zn ?_; intro _))
    exact ⟨trivial, _, rfl, rfl⟩
  repeat (first | refine zr ?_ | (refine zn ?_; intro _))
  cases (x.lo == y.lo)
  · repeat (first | refine zr ?_ | (refine zn ?_; intro _))
    exact ⟨trivial, _, rfl, rfl⟩
  repeat (first | refine zr ?_ | (refine zn ?_; intro _))
  refine ops_step rfl rfl rfl (step_call_bool rfl rfl rfl (fun H hs => equalI_ok (hx.ext hs.ext).cl (hy.ext hs.ext).cl (by omega)) (fun h => ?_) (fun h => ?_)) <;> rw [h]
  rotate_left
  · repeat (first | refine zr ?_ | (refine zn ?_; intro _))
    exact ⟨trivial, _, rfl, rfl⟩
  repeat (first | refine zr ?_ | (refine zn ?_; intro _))
  refine ops_step rfl rfl rfl (step_call_pure rfl rfl rfl (fun H hs => equalH_ok (hx.ext hs.ext).hl (hy.ext hs.ext).hl (by omega)) ?_)
  repeat (first | refine zr ?_ | (refine zn ?_; intro _))
  exact ⟨trivial, _, rfl, rfl⟩
set_option maxHeartbeats 8000000 in
set_option maxRecDepth 100000 in
theorem eqfC_ok {H : Heap} {aa ab : Option Addr} {ca cb g : Nat} {la lb : List CV} (ha : Sl O H (.slice aa la.length ca) 6 la.length (la.flatMap CV.cells)) (hb : Sl O H (.slice ab lb.length cb) 6 lb.length (lb.flatMap CV.cells)) (hn : la.length ≤ 1073741824)
    (hc : ∀ x ∈ la, ∀ y ∈ lb, ∀ H', Ext H H' → CallC TT O g [x.val, y.val] H' fun v H'' => v = .bool (decide (x.pc = y.pc)) ∧ Ext H' H'') :
    CallC TT O 42 [.slice aa la.length ca, .slice ab lb.length cb, fnV g] H fun v H' => v = .bool (decide (la.map CV.pc = lb.map CV.pc)) ∧ Ext H H' := by
  refine call_pure rfl rfl rfl rfl rfl ?_
  obtain ⟨n, hla⟩ : ∃ n, n = la.length := ⟨_, rfl⟩
  obtain ⟨m, hlb⟩ : ∃ m, m = lb.length := ⟨_, rfl⟩
  rw [← hla] at ha hn
  rw [← hlb] at hb
  rw [← hla, ← hlb]
  repeat (first | refine zr ?_ | (refine zn ?_; intro _))
  refine exec_cond rfl (fun hne => ?_) (fun heq => ?_)
  · repeat (first | refine zr ?_ | (refine zn ?_; intro _))
    refine ⟨trivial, _, rfl, ?_⟩
    have : la.map CV.pc ≠ lb.map CV.pc := by
      intro e
      have := congrArg List.length e
      simp only [List.length_map] at this
      simp at hne
      omega
    rw [decide_eq_false this]; rfl
  have hnm : n = m := by simp at heq; omega
  clear heq
  subst hnm
  repeat (first | refine zr ?_ | (refine zn ?_; intro _))
  refine ExecS.weak (E' := [(1, .slice ab n cb), (2, fnV g), (15, .slice aa n ca), (16, .int .i64 (n : Int)), (17, .int .i64 ((0 : Nat) : Int))]) ⟨rfl, rfl, rfl, rfl, rfl, trivial⟩ (List.Sublist.refl _) ?_
  refine exec_loop (fun k E L => ∃ i : Nat, i + k = n ∧ (∀ j, j < i → (la.map CV.pc)[j]? = (lb.map CV.pc)[j]?) ∧ E = [(1, .slice ab n cb), (2, fnV g), (15, .slice aa n ca), (16, .int .i64 (n : Int)), (17, .int .i64 (i : Int))] ∧ L = []) ?_ n _ _ ⟨0, by omega, fun j hj => by omega, rfl, rfl⟩
  rintro k E L ⟨i, hik, hpre, rfl, rfl⟩
  repeat (first | refine zr ?_ | (refine zn ?_; intro _))
  refine exec_cond rfl (fun hlt => ?_) (fun hge => ?_)
  · have hi : i < n := by simp at hlt; omega
    obtain ⟨x, hx⟩ : ∃ x, la[i]? = some x := ⟨_, List.getElem?_eq_getElem (by omega)⟩
    obtain ⟨y, hy⟩ : ∃ y, lb[i]? = some y := ⟨_, List.getElem?_eq_getElem (by omega)⟩
    repeat (first | refine zr ?_ | (refine zn ?_; intro _))
    (first | apply ops_pl rfl rfl rfl ?_ rfl ?_ | apply draw_pl rfl rfl rfl rfl ?_ rfl rfl ?_); rotate_left; focus exact (.p rfl (opP_idx rfl rfl ha rfl rfl (by omega) (by omega)))
    (first | apply ops_pl rfl rfl rfl ?_ rfl ?_ | apply draw_pl rfl rfl rfl rfl ?_ rfl rfl ?_); rotate_left; focus exact (.l rfl (fun H hs => opL_load rfl ((ha.at hs).ldF (fun _ => rfl) rfl rfl hx)))
    repeat (first | refine zr ?_ | (refine zn ?_; intro _))
    (first | apply ops_pl rfl rfl rfl ?_ rfl ?_ | apply draw_pl rfl rfl rfl rfl ?_ rfl rfl ?_); rotate_left; focus exact (.p rfl (opP_idx rfl rfl hb rfl rfl (by omega) (by omega)))
    (first | apply ops_pl rfl rfl rfl ?_ rfl ?_ | apply draw_pl rfl rfl rfl rfl ?_ rfl rfl ?_); rotate_left; focus exact (.l rfl (fun H hs => opL_load rfl ((hb.at hs).ldF (fun _ => rfl) rfl rfl hy)))
    repeat (first | refine zr ?_ | (refine zn ?_; intro _))
    refine ops_step rfl rfl rfl (step_call_bool rfl rfl rfl (fun H hs => hc x (List.mem_of_getElem? hx) y (List.mem_of_getElem? hy) H hs.ext) (fun h => ?_) (fun h => ?_))
    · repeat (first | refine zr ?_ | (refine zn ?_; intro _))
      refine ⟨k - 1, by omega, _, _, ?_, .cons _ (.cons _ (.refl _)), i + 1, by omega, fun j hj => ?_, rfl, rfl⟩
      · exact ⟨rfl, rfl, rfl, rfl, rfl, trivial⟩
      · by_cases hji : j = i
        · subst hji
          rw [List.getElem?_map, List.getElem?_map, hx, hy, Option.map_some, Option.map_some, of_decide_eq_true h]
        · exact hpre j (by omega)
    · repeat (first | refine zr ?_ | (refine zn ?_; intro _))
      refine ⟨trivial, _, rfl, ?_⟩
      have : la.map CV.pc ≠ lb.map CV.pc := by
        intro e
        have e2 : (la.map CV.pc)[i]? = (lb.map CV.pc)[i]? := by rw [e]
        rw [List.getElem?_map, List.getElem?_map, hx, hy] at e2
        exact of_decide_eq_false h (Option.some.inj e2)
      rw [decide_eq_false this]; rfl
  · have hi : i = n := by simp at hge; omega
    subst hi
    repeat (first | refine zr ?_ | (refine zn ?_; intro _))
    refine ⟨trivial, _, rfl, ?_⟩
    rw [decide_eq_true (ext_len (by rw [List.length_map, hla]) (by rw [List.length_map, hlb]) hpre)]; rfl
set_option maxHeartbeats 8000000 in
set_option maxRecDepth 100000 in
theorem sameClass_ok {H : Heap} {x y : CV} (hx : ClsF O H x) (hy : ClsF O H y) (wx : WfC x.pc) : CallC TT O 43 [x.val, y.val] H fun v H' => v = .bool (decide (x.pc = y.pc)) ∧ Ext H H' := by
  refine call_pure rfl rfl rfl rfl rfl ?_
  have e : decide (x.pc = y.pc) = ((x.nm == y.nm) && ((x.su == y.su) && (decide (x.ifs = y.ifs) && ((x.kd == y.kd) && (decide (x.fl = y.fl) && decide (x.ml.map MV.toPM = y.ml.map MV.toPM)))))) := by
    rw [Bool.eq_iff_iff]
    simp [PC.eq_iff]
  rw [e]
  have w1 : x.ifs.length ≤ 1000000 := wx.ifn
  have w2 : x.fl.length ≤ 1000000 := wx.fln
  have w3 : x.ml.length ≤ 1000000 := by have := wx.mln; simpa using this
  repeat (first | refine zr ?_ | (refine zn ?_; intro _))
  cases (x.nm == y.nm)
  · repeat (first | refine zr ?_ | (refine zn ?_; intro _))
    exact ⟨trivial, _, rfl, rfl⟩
  repeat (first | refine zr ?_ | (refine zn ?_; intro _))
  cases (x.su == y.su)
  · repeat (first | refine zr ?_ | (refine zn ?_; intro _))
    exact ⟨trivial, _, rfl, rfl⟩
  repeat (first | refine zr ?_ | (refine zn ?_; intro _))
  refine ops_step rfl rfl rfl (step_call_bool rfl rfl rfl (fun H hs => equalS_ok (hx.ext hs.ext).ifs (hy.ext hs.ext).ifs (by omega)) (fun h => ?_) (fun h => ?_)) <;> rw [h]
  rotate_left
  · repeat (first | refine zr ?_ | (refine zn ?_; intro _))
    exact ⟨trivial, _, rfl, rfl⟩
  repeat (first | refine zr ?_ | (refine zn ?_; intro _))
  cases (x.kd == y.kd)
  · repeat (first | refine zr ?_ | (refine zn ?_; intro _))
    exact ⟨trivial, _, rfl, rfl⟩
  repeat (first | refine zr ?_ | (refine zn ?_; intro _))
  refine ops_step rfl rfl rfl (step_call_bool rfl rfl rfl (fun H hs => equalF_ok (hx.ext hs.ext).fl (hy.ext hs.ext).fl (by omega)) (fun h => ?_) (fun h => ?_)) <;> rw [h]
  rotate_left
  · repeat (first | refine zr ?_ | (refine zn ?_; intro _))
    exact ⟨trivial, _, rfl, rfl⟩
  repeat (first | refine zr ?_ | (refine zn ?_; intro _))
  refine ops_step rfl rfl rfl (step_call_pure rfl rfl rfl (fun H hs => eqfM_ok (hx.ext hs.ext).ml (hy.ext hs.ext).ml (by omega) (fun a ha b hb H' e' => sameMethod_ok ((hx.ms a ha).ext (hs.ext.trans e')) ((hy.ms b hb).ext (hs.ext.trans e')) (wx.ml _ (List.mem_map_of_mem ha)))) ?_)
  repeat (first | refine zr ?_ | (refine zn ?_; intro _))
  exact ⟨trivial, _, rfl, rfl⟩
set_option maxHeartbeats 8000000 in
set_option maxRecDepth 100000 in
theorem same_A_ok {H : Heap} {a b : Option Addr} {k j : Nat} {x y : List CV} (hx : ArcF O H a k x) (hy : ArcF O H b j y) (wx : ∀ c ∈ x, WfC c.pc) (hn : x.length ≤ 1000000) :
    CallC TT O 18 [arcV a x.length k, arcV b y.length j] H fun v H' => v = .bool (decide (x.map CV.pc = y.map CV.pc)) ∧ Ext H H' := by
  refine call_pure rfl rfl rfl rfl rfl ?_
  repeat (first | refine zr ?_ | (refine zn ?_; intro _))
  refine ops_step rfl rfl rfl (step_call_pure rfl rfl rfl (fun H hs => eqfC_ok (hx.ext hs.ext).sl (hy.ext hs.ext).sl (by omega) (fun c hc d hd H' e' => sameClass_ok ((hx.cs c hc).ext (hs.ext.trans e')) ((hy.cs d hd).ext (hs.ext.trans e')) (wx c hc))) ?_)
  repeat (first | refine zr ?_ | (refine zn ?_; intro _))
  exact ⟨trivial, _, rfl, rfl⟩
end Go.Proofs.YtlhkndjloeoodaaGreat
namespace Go.Proofs.YtlhkndjloeoodaaGreat
open Go.Ev Go.Ev.Wk
variable {O : Old}
theorem okC_wrong {c : PC} (h : okC c = false) : rightC c = false := by
  cases hr : rightC c with
  | false => rfl
  | true =>
    exfalso
    have hr := rightC_iff.1 hr
    have h1 : c.fl.all okF = true := List.all_eq_true.2 fun f hf => by
      have := hr.fl f hf
      simp only [rightF, typedB, Bool.and_eq_true] at this
      have := this.2.1
      unfold rightL at this
      simp only [okF, decide_eq_true_eq]
      intro e
      rw [e] at this
      simp at this
    have h2 : c.ml.all okM = true := List.all_eq_true.2 fun m hm => by
      have := (hr.ml m hm).rt
      unfold rightL at this
      simp only [okM, decide_eq_true_eq]
      intro e
      rw [e] at this
      simp at this
    rw [okC, h1, h2] at h
    cases h
theorem okCs_wrong {cl : List PC} (h : cl.all okC = false) : rightA cl = false := by
  cases hr : rightA cl with
  | false => rfl
  | true =>
    exfalso
    simp only [rightA, rightCs, Bool.and_eq_true, allB_iff] at hr
    have : cl.all okC = true := List.all_eq_true.2 fun c hc => by
      cases ho : okC c with
      | true => rfl
      | false => have := hr.1.2 c hc; rw [okC_wrong ho] at this; cases this
    rw [this] at h
    cases h
theorem partSelf {a : Option Addr} {n c k : Nat} {bs : List UInt8} (hb : bs.length = n) (hk : k ≤ n) : Part O (.slice a n c) n bs (cutAddr a 1 c k) (n - k) (cutCap' a c k) (bs.drop k) := by
  have : Part O (.slice a n c) n bs a n c bs := ⟨Nat.le_refl _, fun _ h => h⟩
  exact this.cut hb hk
theorem pTx_ok {x : List UInt8} {l l' : List UInt8} (h : pTx l = .ok (x, l')) : l'.length + 0 ≤ l.length := by
  unfold pTx at h
  split at h
  · cases h
  · cases h; rw [List.length_drop]; omega
theorem pool_goes {l : List UInt8} {ts : List (List UInt8)} {s : US} (g : Goes pPool (.ok l) ts (sig false s)) : (s.2 ≠ 0 → (poolR l).1 = s.2) ∧ (s.2 = 0 → poolR l = (0, ts, s.1) ∧ s.1.length ≤ l.length) := by
  have hp := poolR_rep l
  rcases g.ok with ⟨l', h1, h2⟩ | ⟨e, h1, h2⟩
  · rw [h1] at hp
    refine ⟨fun h => ?_, fun h => ?_⟩
    · simp [sig, h] at h2
    · simp [sig, h] at h2
      subst h2
      refine ⟨hp, ?_⟩
      have := pList_ok (m := fun _ => 0) (fun _ _ _ h => pTx_ok h) h1
      omega
  · rw [h1] at hp
    refine ⟨fun h => ?_, fun h => ?_⟩
    · simp [sig, h] at h2
      rw [h2]; exact hp.2
    · simp [sig, h] at h2
set_option maxHeartbeats 16000000 in
set_option maxRecDepth 100000 in
theorem read_A_ok {H : Heap} {a : Option Addr} {n c : Nat} {bs : List UInt8} (hB : Keep [] H fun H' => Sl O H' (.slice a n c) 1 n (bs.map by8)) (hn : n ≤ 1000000) :
    FpC TT O 22 [.slice a n c] H [] fun v F' => ∃ (cl : List CV) (a' : Option Addr) (k' : Nat), v = .tuple #[arcV a' cl.length k', .int .i64 (readA bs).2] ∧ cl.map CV.pc = (readA bs).1 ∧ (∀ c ∈ cl, WfC c.pc) ∧ cl.length ≤ 400 ∧ cntA (cl.map CV.pc) ≤ n ∧ Rd F' fun H => ArcF O H a' k' cl := by
  have hbl : bs.length = n := by have := (hB H (ExtBut.refl _ _)).1; simpa using this
  have nil : ∀ F' : Atoms, ∃ (cl : List CV) (a' : Option Addr) (k' : Nat), arcV none 0 0 = arcV a' cl.length k' ∧ cl.map CV.pc = [] ∧ (∀ c ∈ cl, WfC c.pc) ∧ cl.length ≤ 400 ∧ cntA (cl.map CV.pc) ≤ n ∧ Rd F' fun H => ArcF O H a' k' cl :=
    fun F' => ⟨[], none, 0, rfl, rfl, (fun c hc => by cases hc), by simp, by simp [cntA], fun _ _ _ _ => ⟨Sl.nil, fun c hc => by cases hc⟩⟩
  refine call_fpM rfl rfl rfl rfl rfl (St.start H) ?_
  repeat (first | refine zrb ?_ | (refine zn ?_; intro _))
  rename_i b2
  by_cases h4 : n < 4
  · rw [show decide ((n : Int) < 4) = true from decide_eq_true (by omega)]
    have hr : readA bs = ([], 21) := by
      have : bs.take 4 ≠ magicB := by intro e; have := congrArg List.length e; simp [magicB] at this; omega
      rw [readA, if_pos this]
    rw [hr]
    repeat (first | refine zrb ?_ | (refine zn ?_; intro _))
    obtain ⟨cl, a', k', g1, g2⟩ := nil []
    refine ⟨trivial, [_, _], ⟨look_agg 0 rfl rfl rfl rfl, rfl, trivial⟩, [], _, List.Perm.refl _, cl, a', k', ?_, g2⟩
    rw [← g1]; rfl
  rw [show decide ((n : Int) < 4) = false from decide_eq_false (by omega)]
  repeat (first | refine zrb ?_ | (refine zn ?_; intro _))
  (first | apply ops_pl rfl rfl rfl ?_ rfl ?_ | apply draw_pl rfl rfl rfl rfl ?_ rfl rfl ?_); rotate_left; focus exact (.l rfl (look_cut0 (h := 4) rfl rfl rfl rfl (by omega) rfl (by omega) (fun H hs => hB.at hs) rfl rfl (by omega)))
  (first | apply ops_pl rfl rfl rfl ?_ rfl ?_ | apply draw_pl rfl rfl rfl rfl ?_ rfl rfl ?_); rotate_left; focus exact (.l rfl (look_strS rfl (fun H hs => ((hB.at hs).cutM0 (by omega))) rfl rfl rfl (bytesOf_by8 _)))
  (first | apply ops_pl rfl rfl rfl ?_ rfl ?_ | apply draw_pl rfl rfl rfl rfl ?_ rfl rfl ?_); rotate_left; focus exact (PL.neqStrs (a := bs.take 4) (b := magicB) rfl rfl rfl)
  by_cases hm : bs.take 4 = magicB
  rotate_left
  · rw [decide_eq_false hm]
    have hr : readA bs = ([], 21) := by rw [readA, if_pos hm]
    rw [hr]
    repeat (first | refine zrb ?_ | (refine zn ?_; intro _))
    obtain ⟨cl, a', k', g1, g2⟩ := nil []
    refine ⟨trivial, [_, _], ⟨look_agg 0 rfl rfl rfl rfl, rfl, trivial⟩, [], _, List.Perm.refl _, cl, a', k', ?_, g2⟩
    rw [← g1]; rfl
  rw [decide_eq_true hm]
  repeat (first | refine zrb ?_ | (refine zn ?_; intro _))
  (first | apply ops_pl rfl rfl rfl ?_ rfl ?_ | apply draw_pl rfl rfl rfl rfl ?_ rfl rfl ?_); rotate_left; focus exact (.l rfl (look_cut (l := 4) (h := n) rfl rfl rfl rfl (by omega) rfl (by omega) (fun H hs => hB.at hs) rfl rfl (by omega) (by omega)))
  refine ops_step rfl rfl rfl (step_callR (fun v L' => ∃ rb, v = ptr rb ∧ L' = (some rb, rdr (cutAddr a 1 c 4) (n - 4) (cutCap' a c 4) 0) :: _) rfl rfl rfl (fun H hs => new_ok hs) (fun v L' h => ?_))
  obtain ⟨rb, rfl, rfl⟩ := h
  repeat (first | refine zrb ?_ | (refine zn ?_; intro _))
  have hct : RbC O (.slice a n c) n bs (bs.drop 4, 0) (rdr (cutAddr a 1 c 4) (n - 4) (cutCap' a c 4) 0) := ⟨_, _, _, rfl, fun _ => partSelf hbl (by omega)⟩
  refine OpsS.reord [1] rfl ?_
  refine ops_step rfl rfl rfl (step_call_fp1 rfl rfl rfl (fun H hs hst => poolReadP_ok hst hct ⟨by omega, hB.base hs⟩) (fun v3 F3 h3 => ?_))
  obtain ⟨ct', F1, s', ts, rfl, hct', g, htn, hts, hv⟩ := h3
  obtain ⟨hg1, hg2⟩ := pool_goes g
  rcases hv with ⟨he, rfl⟩ | ⟨he, pb, rfl, hP⟩
  · obtain ⟨a5, n5, c5, rfl, -⟩ := hct'
    have hr : readA bs = ([], s'.2) := by
      rw [readA, if_neg (by simp [hm]), if_pos (by rw [hg1 he]; exact he), hg1 he]
    rw [hr]
    repeat (first | refine zrb ?_ | (refine zn ?_; intro _))
    refine ops_step rfl rfl rfl (step_call_mut 1 rfl rfl rfl rfl (fun H hs hh hlt => err_ok hh hlt) (fun v ct h => ?_))
    obtain ⟨rfl, rfl⟩ := h
    repeat (first | refine zrb ?_ | (refine zn ?_; intro _))
    obtain ⟨cl, a', k', g1, g2⟩ := nil []
    refine ⟨trivial, [_, _], ⟨look_agg 0 rfl rfl rfl rfl, rfl, trivial⟩, [], _, List.Perm.refl _, cl, a', k', ?_, g2⟩
    rw [← g1]; rfl
  obtain ⟨hpr, hpl⟩ := hg2 he
  have hr0 : readA bs = match pArc ts s'.1 with | .error e => ([], e) | .ok (cl, r) => if r = [] ∧ rightA cl = true then (cl, 0) else ([], 21) := by
    rw [readA, if_neg (by simp [hm]), hpr]; rfl
  have hbl4 : (bs.drop 4).length ≤ n := by rw [List.length_drop]; omega
  repeat (first | refine zrb ?_ | (refine zn ?_; intro _))
  rename_i xb
  refine OpsS.reord [1] rfl ?_
  have hFx : RdF O (.slice a n c) n bs xb rb pb ts (sig false s') true (xrA xb rb pb true false :: (some rb, ct') :: F1) := ⟨s', false, ct', F1, rfl, hct', hP, rfl⟩
  refine OpsS.perm (L' := [_] ++ ((xrA xb rb pb true false :: (some rb, ct') :: F1) ++ [])) (List.Perm.of_eq (by rw [List.append_nil]; rfl)) ?_
  clear hct' hP hct
  revert hFx
  generalize (xrA xb rb pb true false :: (some rb, ct') :: F1) = Fx
  intro hFx
  rw [show sig false s' = .ok s'.1 from by simp [sig, he]] at hFx
  repeat (first | refine zrb ?_ | (refine zn ?_; intro _))
  refine ops_step rfl rfl rfl (step_call_fz1 (F := Fx) (Z := []) rfl rfl rfl (fun H hs hst => lcls_ok hst hFx ⟨by omega, hB.base hs⟩ hts htn) (fun v5 F5 h5 => ?_))
  obtain ⟨cl, a', k', q, Fr, Z, σ', rfl, rfl, own, ownZ, hW, hcn, hF', g'⟩ := h5
  refine OpsS.perm ((perm_tail (a := Fr) (b := q :: Z) (c := [])).cons _) ?_
  have hall : (cl.all fun m => okC m.pc) = (cl.map CV.pc).all okC := by simp [List.all_map, Function.comp_def]
  rw [Bool.true_and, hall] at hF'
  repeat (first | refine zrb ?_ | (refine zn ?_; intro _))
  rename_i b8
  refine ops_step rfl rfl rfl (step_call_fz2 (F := Fr) (Z := [] ++ (q :: Z)) rfl rfl rfl (fun H hs hst => rerr_ok hst hF') (fun v6 F6 h6 => ?_))
  obtain ⟨rfl, rfl⟩ := h6
  rcases g'.ok with ⟨l, hp, rfl⟩ | ⟨e, hp, rfl⟩
  rotate_left
  · have hne := hF'.noZ e rfl
    have hr : readA bs = ([], e) := by rw [hr0, hp]
    rw [hr]
    repeat (first | refine zrb ?_ | (refine zn ?_; intro _))
    rw [show (errZ (.error e) != 0) = true from by simpa [errZ] using hne]
    repeat (first | refine zrb ?_ | (refine zn ?_; intro _))
    refine ops_step rfl rfl rfl (step_call_fz2 (F := F6) (Z := [] ++ (q :: Z)) rfl rfl rfl (fun H hs hst => rerr_ok hst hF') (fun v7 F7 h7 => ?_))
    obtain ⟨rfl, rfl⟩ := h7
    repeat (first | refine zrb ?_ | (refine zn ?_; intro _))
    obtain ⟨cl, a', k', g1, g2⟩ := nil []
    refine ⟨trivial, [_, _], ⟨look_agg 1 rfl rfl rfl rfl, rfl, trivial⟩, [], _, List.Perm.refl _, cl, a', k', ?_, g2⟩
    rw [← g1]; rfl
  have hcnt := pArc_ok hp
  have hcm : cntA (cl.map CV.pc) ≤ n := by omega
  repeat (first | refine zrb ?_ | (refine zn ?_; intro _))
  rw [show (errZ (.ok l) != 0) = false from rfl]
  repeat (first | refine zrb ?_ | (refine zn ?_; intro _))
  obtain ⟨s2, n2, ct2, Fp2, rfl, hct2, hP2, hsig⟩ := hF'
  obtain ⟨rfl, hs2, hl2⟩ : n2 = false ∧ s2.2 = 0 ∧ s2.1 = l := by
    cases n2
    · by_cases h : s2.2 = 0
      · simp [sig, h] at hsig; exact ⟨rfl, h, hsig.symm⟩
      · simp [sig, h] at hsig
    · simp [sig] at hsig
  obtain ⟨a6, n6, c6, rfl, hp6⟩ := hct2
  have hln : l.length = n6 := by
    have := ((hp6 hs2).2 H (hB H (ExtBut.refl _ _))).1
    rw [hl2] at this; simpa using this
  repeat (first | refine zrb ?_ | (refine zn ?_; intro _))
  refine ops_step rfl rfl rfl (step_call_mut 3 rfl rfl rfl rfl (fun H hs hh hlt => done_ok hh hlt) (fun v ct h => ?_))
  obtain ⟨rfl, rfl⟩ := h
  refine OpsS.perm (L' := [_, _] ++ ((xrA xb rb pb ((cl.map CV.pc).all okC) false :: (some rb, rdr a6 n6 c6 s2.2) :: Fp2) ++ ([] ++ (q :: Z)))) (List.Perm.refl _) ?_
  have hone : (s2.2 == 0 && ((n6 : Nat) : Int) == 0) = decide (l = []) := by
    rw [hs2, Bool.eq_iff_iff]
    simp [← hln]
  rw [hone]
  clear hone
  have bad : (l ≠ [] ∨ rightA (cl.map CV.pc) = false) → readA bs = ([], 21) := by
    intro h
    rw [hr0, hp]
    simp only
    rw [if_neg]
    rintro ⟨h1, h2⟩
    rcases h with h | h
    · exact h h1
    · rw [h] at h2; cases h2
  by_cases hl : l = []
  rotate_left
  · rw [decide_eq_false hl, bad (.inl hl)]
    repeat (first | refine zrb ?_ | (refine zn ?_; intro _))
    obtain ⟨cl, a', k', g1, g2⟩ := nil []
    refine ⟨trivial, [_, _], ⟨look_agg 1 rfl rfl rfl rfl, rfl, trivial⟩, [], _, List.Perm.refl _, cl, a', k', ?_, g2⟩
    rw [← g1]; rfl
  rw [decide_eq_true hl]
  cases hok : (cl.map CV.pc).all okC
  · rw [bad (.inr (okCs_wrong hok))]
    repeat (first | refine zrb ?_ | (refine zn ?_; intro _))
    obtain ⟨cl, a', k', g1, g2⟩ := nil []
    refine ⟨trivial, [_, _], ⟨look_agg 1 rfl rfl rfl rfl, rfl, trivial⟩, [], _, List.Perm.refl _, cl, a', k', ?_, g2⟩
    rw [← g1]; rfl
  have hWm : ∀ c ∈ cl.map CV.pc, WfC c := fun c hc => by
    obtain ⟨d, hd, rfl⟩ := List.mem_map.1 hc
    exact hW d hd
  have hrd : Rd (q :: Z) fun H => ArcF O H a' k' cl := OwnAr.rd ⟨q, Z, rfl, .inl own, ownZ⟩
  repeat (first | refine zrb ?_ | (refine zn ?_; intro _))
  refine ops_step rfl rfl rfl (step_call_pure rfl rfl rfl (fun H hs => right_A_ok ((hrd.mono ((List.sublist_append_right _ _).trans (.cons _ (.cons _ (.refl _))))).pure hs) hW (by omega) (fun h => room_arc h hWm (by omega))) ?_)
  cases hri : rightA (cl.map CV.pc)
  · rw [bad (.inr hri)]
    repeat (first | refine zrb ?_ | (refine zn ?_; intro _))
    obtain ⟨cl, a', k', g1, g2⟩ := nil []
    refine ⟨trivial, [_, _], ⟨look_agg 1 rfl rfl rfl rfl, rfl, trivial⟩, [], _, List.Perm.refl _, cl, a', k', ?_, g2⟩
    rw [← g1]; rfl
  · have hr : readA bs = (cl.map CV.pc, 0) := by
      rw [hr0, hp]
      simp only
      rw [if_pos ⟨hl, hri⟩]
    rw [hr]
    repeat (first | refine zrb ?_ | (refine zn ?_; intro _))
    refine ⟨trivial, [_, _], ⟨look_agg 1 rfl rfl rfl rfl, rfl, trivial⟩, q :: Z, _, List.perm_append_comm (l₁ := _ :: _ :: _ :: _ :: Fp2) (l₂ := q :: Z), cl, a', k', rfl, rfl, hW, hcn, hcm, hrd⟩
end Go.Proofs.YtlhkndjloeoodaaGreat
