/-
  Walks: texts that are built piece by piece; a method's text.
-/
import Derived.Test.YthifbkjkiijkoaaTyp0
namespace Go.Proofs.Ythifbkjkiijkoaa
open Go.Ev Go.Ev.Wk
set_option linter.unusedVariables false
set_option linter.unusedSimpArgs false
variable {O : Old}



abbrev by8 (b : UInt8) : Value := .int .u8 (b.toNat : Int)

/-- a type's text -/
def typeL (k : Int) (cl : List UInt8) : List UInt8 :=
  if k = 1 then [73] else if k = 2 then [83] else if k = 3 then [65] else if k = 5 then [86] else if k = 4 then [76] ++ cl ++ [59] else []

set_option maxHeartbeats 8000000 in
set_option maxRecDepth 100000 in
theorem type_ok {H : Heap} {k : Int} {cl : List UInt8} (hl : cl.length ≤ 1000000) : CallC TT O 94 [.agg #[.int .i64 k, str cl]] H fun v H' => v = str (typeL k cl) ∧ Ext H H' := by
  refine call_pure rfl rfl rfl rfl rfl ?_
  repeat (first | refine zr ?_ | (refine zn ?_; intro _))
  cases h1 : (k == 1)
  rotate_left
  · repeat (first | refine zr ?_ | (refine zn ?_; intro _))
    obtain rfl : k = 1 := by simpa using h1
    exact ⟨trivial, _, rfl, rfl⟩
  repeat (first | refine zr ?_ | (refine zn ?_; intro _))
  cases h2 : (k == 2)
  rotate_left
  · repeat (first | refine zr ?_ | (refine zn ?_; intro _))
    obtain rfl : k = 2 := by simpa using h2
    exact ⟨trivial, _, rfl, rfl⟩
  repeat (first | refine zr ?_ | (refine zn ?_; intro _))
  cases h3 : (k == 3)
  rotate_left
  · repeat (first | refine zr ?_ | (refine zn ?_; intro _))
    obtain rfl : k = 3 := by simpa using h3
    exact ⟨trivial, _, rfl, rfl⟩
  repeat (first | refine zr ?_ | (refine zn ?_; intro _))
  cases h5 : (k == 5)
  rotate_left
  · repeat (first | refine zr ?_ | (refine zn ?_; intro _))
    obtain rfl : k = 5 := by simpa using h5
    exact ⟨trivial, _, rfl, rfl⟩
  repeat (first | refine zr ?_ | (refine zn ?_; intro _))
  cases h4 : (k == 4)
  · repeat (first | refine zr ?_ | (refine zn ?_; intro _))
    refine ⟨trivial, _, rfl, ?_⟩
    have h1 : ¬ k = 1 := by simpa using h1
    have h2 : ¬ k = 2 := by simpa using h2
    have h3 : ¬ k = 3 := by simpa using h3
    have h4 : ¬ k = 4 := by simpa using h4
    have h5 : ¬ k = 5 := by simpa using h5
    rw [typeL, if_neg h1, if_neg h2, if_neg h3, if_neg h5, if_neg h4]
    rfl
  · repeat (first | refine zr ?_ | (refine zn ?_; intro _))
    obtain rfl : k = 4 := by simpa using h4
    exact ⟨trivial, _, rfl, rfl⟩



/-- the blocks of a text that is being built -/
def BldF (bb : Nat) (s : List UInt8) (F : Atoms) : Prop :=
  ∃ (q : Option Addr) (a : Option Addr) (n c : Nat) (p : Option Nat × Cont), F = [(some bb, .cells 0 [.pointer q, .slice a n c] 0 129), p] ∧ (q = none ∨ q = some ⟨bb, 0, some 0⟩) ∧ OwnA 1 5 a n c (s.map by8) p

set_option maxHeartbeats 8000000 in
set_option maxRecDepth 100000 in
theorem copyCheck_ok {H : Heap} {bb n c : Nat} {q a : Option Addr} (hst : St (blksOf [(some bb, .cells 0 [.pointer q, .slice a n c] 0 129)]) H H [(some bb, .cells 0 [.pointer q, .slice a n c] 0 129)]) (hq : q = none ∨ q = some ⟨bb, 0, some 0⟩) :
    FpC TT O 97 [.pointer (some ⟨bb, 0, some 0⟩)] H [(some bb, .cells 0 [.pointer q, .slice a n c] 0 129)] fun v F' => F' = [(some bb, .cells 0 [.pointer (some ⟨bb, 0, some 0⟩), .slice a n c] 0 129)] := by
  refine call_fp rfl rfl rfl rfl rfl hst ?_
  rcases hq with rfl | rfl
  · repeat (first | refine zr ?_ | (refine zn ?_; intro _))
    (first | apply ops_pl rfl rfl rfl ?_ rfl ?_ | apply draw_pl rfl rfl rfl rfl ?_ rfl rfl ?_); rotate_left; focus exact (.l rfl (look_unsafe 0 rfl rfl rfl rfl rfl rfl))
    refine ops_step rfl rfl rfl (step_call_pure rfl rfl rfl (fun H hs => call_prim rfl rfl (Nat.le_refl _) ⟨rfl, ExtBut.refl _ _⟩) ?_)
    (first | apply ops_pl rfl rfl rfl ?_ rfl ?_ | apply draw_pl rfl rfl rfl rfl ?_ rfl rfl ?_); rotate_left; focus exact (.l rfl (look_back 0 rfl rfl rfl rfl rfl rfl))
    repeat (first | refine zr ?_ | (refine zn ?_; intro _))
    exact ⟨trivial, _, rfl, _, [], List.Perm.of_eq (List.append_nil _).symm, rfl⟩
  · repeat (first | refine zr ?_ | (refine zn ?_; intro _))
    first | refine ops_pl rfl rfl rfl (PL.ptrSelf rfl rfl rfl rfl rfl) rfl ?_ | refine draw_pl rfl rfl rfl rfl (PL.ptrSelf rfl rfl rfl rfl rfl) rfl rfl ?_
    repeat (first | refine zr ?_ | (refine zn ?_; intro _))
    exact ⟨trivial, _, rfl, _, [], List.Perm.of_eq (List.append_nil _).symm, rfl⟩

set_option maxHeartbeats 8000000 in
set_option maxRecDepth 100000 in
theorem writeByte_ok {H : Heap} {bb : Nat} {s : List UInt8} {x : UInt8} {k : Int} {F : Atoms} (hst : St (blksOf F) H H F) (hF : BldF bb s F) (hk : k = (x.toNat : Int)) (hn : s.length ≤ 1000000) :
    FpC TT O 92 [.pointer (some ⟨bb, 0, some 0⟩), .int .u8 k] H F fun v F' => BldF bb (s ++ [x]) F' := by
  subst hk
  obtain ⟨q, a, n, c, p, rfl, hq, own⟩ := hF
  have hlen : s.length = n := by have := own.len; simpa using this
  refine call_fp rfl rfl rfl rfl rfl hst ?_
  repeat (first | refine zr ?_ | (refine zn ?_; intro _))
  refine ops_step rfl rfl rfl (step_call_fp [_] [_] rfl rfl rfl (List.Perm.refl _) (fun H hs hst => copyCheck_ok hst hq) (fun v F' h => ?_))
  subst h
  repeat (first | refine zr ?_ | (refine zn ?_; intro _))
  refine ops_step rfl rfl rfl (step_append 2 1 rfl rfl rfl rfl rfl rfl rfl rfl own (fun H hs => src_own (j := 0) hs rfl rfl 1) rfl (by first | rfl | exact allCell_map (fun _ => rfl) _) (by first | rfl | (simp; done) | (simp; omega)) (by omega) (fun a2 c2 p2 own2 => ?_))
  repeat (first | refine zr ?_ | (refine zn ?_; intro _))
  refine ⟨trivial, _, rfl, _, [_], List.perm_append_comm (l₁ := [_]) (l₂ := [_, _]), _, _, _, _, _, rfl, .inr rfl, ?_⟩
  rw [List.map_append]; exact own2

set_option maxHeartbeats 8000000 in
set_option maxRecDepth 100000 in
theorem writeString_ok {H : Heap} {bb : Nat} {s t : List UInt8} {F : Atoms} (hst : St (blksOf F) H H F) (hF : BldF bb s F) (hn : s.length ≤ 1000000) (ht : t.length ≤ 1000000) :
    FpC TT O 93 [.pointer (some ⟨bb, 0, some 0⟩), str t] H F fun v F' => BldF bb (s ++ t) F' := by
  obtain ⟨q, a, n, c, p, rfl, hq, own⟩ := hF
  have hlen : s.length = n := by have := own.len; simpa using this
  refine call_fp rfl rfl rfl rfl rfl hst ?_
  repeat (first | refine zr ?_ | (refine zn ?_; intro _))
  refine ops_step rfl rfl rfl (step_call_fp [_] [_] rfl rfl rfl (List.Perm.refl _) (fun H hs hst => copyCheck_ok hst hq) (fun v F' h => ?_))
  subst h
  repeat (first | refine zr ?_ | (refine zn ?_; intro _))
  refine ops_step rfl rfl rfl (step_append 1 1 rfl rfl rfl rfl rfl rfl rfl rfl own (fun H hs => (show src O H 1 (str t) = some (t.length, t.map by8) from rfl)) rfl (by first | rfl | exact allCell_map (fun _ => rfl) _) (by first | rfl | (simp; done) | (simp; omega)) (by omega) (fun a2 c2 p2 own2 => ?_))
  repeat (first | refine zr ?_ | (refine zn ?_; intro _))
  refine ⟨trivial, _, rfl, _, [], List.Perm.of_eq (List.append_nil _).symm, _, _, _, _, _, rfl, .inr rfl, ?_⟩
  rw [List.map_append]; exact own2

set_option maxHeartbeats 8000000 in
set_option maxRecDepth 100000 in
theorem bldString_ok {H : Heap} {bb : Nat} {s : List UInt8} {F : Atoms} (hst : St (blksOf F) H H F) (hF : BldF bb s F) (h0 : s ≠ []) (h1 : s.length ≤ 1000000) :
    FpC TT O 95 [.pointer (some ⟨bb, 0, some 0⟩)] H F fun v F' => v = str s := by
  obtain ⟨q, a, n, c, p, rfl, hq, own⟩ := hF
  have hlen : s.length = n := by have := own.len; simpa using this
  obtain ⟨m, rfl⟩ : ∃ m, n = m + 1 := ⟨n - 1, by have := List.length_pos_iff.2 h0; omega⟩
  obtain ⟨b, ver, rfl, rfl, rfl, hl⟩ := own.inv (by omega)
  refine call_fp rfl rfl rfl rfl rfl hst ?_
  repeat (first | refine zr ?_ | (refine zn ?_; intro _))
  refine exec_draw (lst := [(0, 0), (1, 1), (2, 3), (3, 7), (4, 15), (5, 0), (6, 32), (7, 96), (8, 224), (9, 480), (10, 1023), (11, 2047)]) (full := 4095) (by kernel_rfl) (by kernel_rfl) (by kernel_rfl) (by kernel_rfl) ?_
  repeat (first | refine zd ?_)
  try refine draw_nil ?_
  refine draw_w rfl rfl rfl rfl rfl rfl (step_unsafeString (l := s) (j := 1) rfl rfl (by rw [hlen]; rfl) rfl rfl rfl rfl (by omega) (by omega) ⟨by repeat (first | exact True.intro | refine And.intro (.inl rfl) ?_ | refine And.intro (.inr ⟨veq_refl rfl, (fun _ _ => rfl)⟩) ?_ | refine And.intro (.inr ⟨veq_refl rfl, (look_own 0 rfl rfl rfl rfl)⟩) ?_), ?_⟩)
  repeat (first | refine zd ?_)
  try refine draw_nil ?_
  repeat (first | refine zr ?_ | (refine zn ?_; intro _))
  exact ⟨trivial, _, rfl, _, [], List.Perm.of_eq (List.append_nil _).symm, rfl⟩


/-- the beginning of a method's text: its first types -/
def ofP (l : List (Int × List UInt8)) (i : Nat) : List UInt8 := [40] ++ (l.take i).flatMap fun x => typeL x.1 x.2
/-- a method's text -/
def ofL (l : List (Int × List UInt8)) (k : Int) (cl : List UInt8) : List UInt8 := ofP l l.length ++ ([41] ++ typeL k cl)

theorem typeL_len (k : Int) (cl : List UInt8) : (typeL k cl).length ≤ cl.length + 2 := by
  unfold typeL
  split; · simp; try omega
  split; · simp; try omega
  split; · simp; try omega
  split; · simp; try omega
  split; · simp; try omega
  simp

theorem ofP_succ {l : List (Int × List UInt8)} {i : Nat} {x : Int × List UInt8} (h : l[i]? = some x) : ofP l (i + 1) = ofP l i ++ typeL x.1 x.2 := by
  unfold ofP
  rw [List.take_add_one, h, List.flatMap_append, List.append_assoc]
  simp

theorem ofP_len {l : List (Int × List UInt8)} {B : Nat} (hc : ∀ x ∈ l, x.2.length ≤ B) : ∀ i, i ≤ l.length → (ofP l i).length ≤ 1 + i * (B + 2)
  | 0, _ => by simp [ofP]
  | i + 1, h => by
    obtain ⟨x, hx⟩ : ∃ x, l[i]? = some x := ⟨_, List.getElem?_eq_getElem (by omega)⟩
    rw [ofP_succ hx, List.length_append]
    have h1 := ofP_len hc i (by omega)
    have h2 := typeL_len x.1 x.2
    have h3 := hc x (List.mem_of_getElem? hx)
    rw [Nat.add_mul]
    omega

set_option maxHeartbeats 8000000 in
set_option maxRecDepth 100000 in
theorem of_ok {H : Heap} {a : Option Addr} {n c : Nat} {l : List (Int × List UInt8)} {k : Int} {cl : List UInt8} (hs' : SlX [] O H (.slice a n c) 2 n (typC l)) (hn : n ≤ 1000) (hc : ∀ x ∈ l, x.2.length ≤ 200) (hcl : cl.length ≤ 200) :
    CallC TT O 83 [.slice a n c, typV (k, cl)] H fun v H' => v = str (ofL l k cl) ∧ Ext H H' := by
  have hl : l.length = n := by have := (hs' H (ExtBut.refl _ _)).1; rw [typC_length] at this; omega
  refine call_pure rfl rfl rfl rfl rfl ?_
  refine ExecS.ghost ?_
  repeat (first | refine zr ?_ | (refine zn ?_; intro _))
  rename_i xb bb
  refine ops_step rfl rfl rfl (step_call_fp [_, _] [_] rfl rfl rfl (List.Perm.swap _ _ _ |>.cons _) (fun H hs hst => writeByte_ok (s := []) (x := 40) hst ⟨_, _, _, _, _, rfl, .inl rfl, .nil _⟩ rfl (by simp)) (fun v F' h => ?_))
  repeat (first | refine zr ?_ | (refine zn ?_; intro _))
  obtain ⟨q, ab, nb, cb, p, rfl, hq, own⟩ := h
  refine ExecS.weak (E' := [(3, .pointer (some ⟨xb, 0, some 0⟩)), (5, .pointer (some ⟨bb, 0, some 0⟩)), (9, .slice a n c), (10, .int .i64 (n : Int)), (11, .int .i64 ((0 : Nat) : Int))]) ⟨rfl, rfl, rfl, rfl, rfl, trivial⟩ (List.Sublist.refl _) ?_
  refine exec_loop (fun m E L => ∃ i : Nat, i + m = n ∧ E = [(3, .pointer (some ⟨xb, 0, some 0⟩)), (5, .pointer (some ⟨bb, 0, some 0⟩)), (9, .slice a n c), (10, .int .i64 (n : Int)), (11, .int .i64 (i : Int))] ∧ ∃ q a n c p, L = [(some bb, .cells 0 [.pointer q, .slice a n c] 0 129), p, (some xb, .cells 0 [.int .i64 k, str cl] 0 35)] ∧ (q = none ∨ q = some ⟨bb, 0, some 0⟩) ∧ OwnA 1 5 a n c ((ofP l i).map by8) p) ?_ n _ _ ⟨0, by omega, rfl, _, _, _, _, _, rfl, hq, own⟩
  rintro m E L ⟨i, him, rfl, q, ab, nb, cb, p, rfl, hq, own⟩
  have hP := ofP_len hc i (by omega)
  repeat (first | refine zr ?_ | (refine zn ?_; intro _))
  refine exec_cond rfl (fun hlt => ?_) (fun hge => ?_)
  · have hi : i < n := by simp at hlt; omega
    obtain ⟨x, hx⟩ : ∃ x, l[i]? = some x := ⟨_, List.getElem?_eq_getElem (by omega)⟩
    have hxl := hc x (List.mem_of_getElem? hx)
    have hxt := typeL_len x.1 x.2
    repeat (first | refine zr ?_ | (refine zn ?_; intro _))
    (first | apply ops_pl rfl rfl rfl ?_ rfl ?_ | apply draw_pl rfl rfl rfl rfl ?_ rfl rfl ?_); rotate_left; focus exact (.p rfl (opP_idx rfl rfl (hs' H (ExtBut.refl _ _)) rfl rfl (by omega) (by omega)))
    (first | apply ops_pl rfl rfl rfl ?_ rfl ?_ | apply draw_pl rfl rfl rfl rfl ?_ rfl rfl ?_); rotate_left; focus exact (.l rfl (fun H hs => opL_load rfl ((hs'.at hs).ldA rfl (by decide) hi (typC_at hx))))
    repeat (first | refine zr ?_ | (refine zn ?_; intro _))
    refine ops_step rfl rfl rfl (step_call_pure rfl rfl rfl (fun H hs => type_ok (by omega)) ?_)
    refine ops_step rfl rfl rfl (step_call_fp [_, _] [_, _] rfl rfl rfl ((List.perm_middle (a := _) (l₁ := [_, _]) (l₂ := [_])).symm) (fun H hs hst => writeString_ok (s := ofP l i) hst ⟨_, _, _, _, _, rfl, hq, own⟩ (by omega) (by omega)) (fun v F' h => ?_))
    obtain ⟨q2, a2, n2, c2, p2, rfl, hq2, own2⟩ := h
    rw [← ofP_succ hx] at own2
    repeat (first | refine zr ?_ | (refine zn ?_; intro _))
    refine ⟨m - 1, by omega, _, _, ?_, ?_, i + 1, by omega, rfl, _, _, _, _, _, rfl, hq2, own2⟩
    · exact ⟨rfl, rfl, rfl, rfl, rfl, trivial⟩
    · exact List.Sublist.cons_cons _ (List.Sublist.cons_cons _ (List.Sublist.cons _ (List.Sublist.refl _)))
  · have hi : i = l.length := by simp at hge; omega
    subst hi
    repeat (first | refine zr ?_ | (refine zn ?_; intro _))
    have hkt := typeL_len k cl
    repeat (first | refine zr ?_ | (refine zn ?_; intro _))
    refine ops_step rfl rfl rfl (step_call_pure rfl rfl rfl (fun H hs => type_ok (by omega)) ?_)
    (first | apply ops_pl rfl rfl rfl ?_ rfl ?_ | apply draw_pl rfl rfl rfl rfl ?_ rfl rfl ?_); rotate_left; focus exact (PL.cat (a := [41]) rfl rfl rfl (by simp; omega))
    refine ops_step rfl rfl rfl (step_call_fp [_, _] [_] rfl rfl rfl (List.Perm.refl _) (fun H hs hst => writeString_ok (s := ofP l l.length) (t := [41] ++ typeL k cl) hst ⟨_, _, _, _, _, rfl, hq, own⟩ (by omega) (by simp; omega)) (fun v F' h => ?_))
    repeat (first | refine zr ?_ | (refine zn ?_; intro _))
    refine ops_step rfl rfl rfl (step_call_fp F' [_] rfl rfl rfl (List.Perm.refl _) (fun H hs hst => bldString_ok hst h (by simp) (by simp; omega)) (fun v F' h => ?_))
    subst h
    repeat (first | refine zr ?_ | (refine zn ?_; intro _))
    exact ⟨trivial, _, rfl, rfl⟩

end Go.Proofs.Ythifbkjkiijkoaa

