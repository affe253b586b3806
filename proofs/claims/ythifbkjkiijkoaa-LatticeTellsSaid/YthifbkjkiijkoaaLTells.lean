/-
  'bonsailaw11.LatticeTells' is true at every input: the walk.
-/
import Derived.Test.YthifbkjkiijkoaaTm
import Derived.Test.YthifbkjkiijkoaaLat2
import Derived.Test.YthifbkjkiijkoaaRLat1
import Derived.Test.YthifbkjkiijkoaaLatN
import Derived.Test.YthifbkjkiijkoaaEvArgA
import Derived.Test.YthifbkjkiijkoaaEvArgT
namespace Go.Proofs.Ythifbkjkiijkoaa
open Go.Ev Go.Ev.Wk
set_option linter.unusedVariables false
set_option linter.unusedSimpArgs false
variable {O : Old}


def ltS (l : List Int) (s : List UInt8) : List Typ := l.map fun z => ofT z.toNat s
theorem ltS_len (l : List Int) (s : List UInt8) : (ltS l s).length = l.length := by simp [ltS]
theorem ltS_succ {l : List Int} {s : List UInt8} {i : Nat} {z : Int} (h : l[i]? = some z) : (ltS l s).take (i + 1) = (ltS l s).take i ++ [ofT z.toNat s] := by
  rw [List.take_add_one, ltS, List.getElem?_map, h]; rfl

theorem rd2 {p0 p1 p : Typ} : ∀ {i : Nat}, [p0, p1][i]? = some p → rdL [.int .i64 p0.1, str p0.2, .int .i64 p1.1, str p1.2] 2 (0 + (i : Int).toNat * 2) = some [.int .i64 p.1, str p.2]
  | 0, h => by cases h; rfl
  | 1, h => by cases h; rfl
  | i + 2, h => by simp at h

set_option maxHeartbeats 64000000 in
set_option maxRecDepth 100000 in
theorem latticeTells_walk {k0 k1 k2 k3 x y : Int} {s : List UInt8} {a b : Typ} {al am : Option Addr} {nl cl0 nm cm : Nat} {l m : List Int} (h0 : 0 ≤ k0 ∧ k0 ≤ 255) (h1 : 0 ≤ k1 ∧ k1 ≤ 255) (h2 : 0 ≤ k2 ∧ k2 ≤ 255) (h3 : 0 ≤ k3 ∧ k3 ≤ 255) (hx : 0 ≤ x ∧ x ≤ 255) (hy : 0 ≤ y ∧ y ≤ 255)
    (hl : ∀ H, Sl O H (.slice al nl cl0) 1 nl (l.map (.int .u8))) (hlw : ∀ z ∈ l, 0 ≤ z ∧ z ≤ 255) (hm : ∀ H, Sl O H (.slice am nm cm) 1 nm (m.map (.int .u8))) (hmw : ∀ z ∈ m, 0 ≤ z ∧ z ≤ 255) :
    CallC TT O 4 [.agg #[.int .u8 k0, .int .u8 k1, .int .u8 k2, .int .u8 k3], .int .u8 x, .int .u8 y, str s, typV a, typV b, .slice al nl cl0, .slice am nm cm] .empty fun v H' => v = .bool true ∧ Ext .empty H' := by
  obtain ⟨nx, rfl⟩ := Int.eq_ofNat_of_zero_le hx.1
  obtain ⟨ny, rfl⟩ := Int.eq_ofNat_of_zero_le hy.1
  have hll : l.length = nl := by have := (hl .empty).1; simpa using this
  have hml : m.length = nm := by have := (hm .empty).1; simpa using this
  refine call_pure rfl rfl rfl rfl rfl ?_
  repeat (first | refine zr ?_ | (refine zn ?_; intro _))
  refine ops_step rfl rfl rfl (step_call_pure rfl rfl rfl (fun H hs => call_known rfl) ?_)
  repeat (first | refine zr ?_ | (refine zn ?_; intro _))
  cases hbig : decide (IntKind.i64.wrap (IntKind.i64.wrap (((⟨⟨s⟩⟩ : ByteArray).data.toList.length : Int) + ((⟨⟨a.2⟩⟩ : ByteArray).data.toList.length : Int)) + ((⟨⟨b.2⟩⟩ : ByteArray).data.toList.length : Int)) > 200)
  rotate_left
  · repeat (first | refine zr ?_ | (refine zn ?_; intro _))
    exact ⟨trivial, _, rfl, rfl⟩
  clear hbig
  repeat (first | refine zr ?_ | (refine zn ?_; intro _))
  cases hl12 : decide ((nl : Int) > 12)
  rotate_left
  · repeat (first | refine zr ?_ | (refine zn ?_; intro _))
    exact ⟨trivial, _, rfl, rfl⟩
  repeat (first | refine zr ?_ | (refine zn ?_; intro _))
  cases hm12 : decide ((nm : Int) > 12)
  rotate_left
  · repeat (first | refine zr ?_ | (refine zn ?_; intro _))
    exact ⟨trivial, _, rfl, rfl⟩
  have hnl : nl ≤ 12 := by have := of_decide_eq_false hl12; omega
  have hnm : nm ≤ 12 := by have := of_decide_eq_false hm12; omega
  clear hl12 hm12
  repeat (first | refine zr ?_ | (refine zn ?_; intro _))
  rename_i kb ab bb
  refine ops_step rfl rfl rfl (step_call_fp [] _ rfl rfl rfl (List.Perm.refl _) (fun H hs hst => seatArchive_ok hst h0 h1 h2 h3) (fun v F' h => ?_))
  obtain ⟨aa, ac, m6, kd, c4, c5, c6, c7, c8, c9, c11, c12, c13, c14, c15, c16, c17, cl, rfl, hF, hper, hR, hZ⟩ := h
  have hmT := tmA_ok (arc_entG hF hR hper)
  have hl13 : cl.length = 13 := by rw [hper.length_eq]; rfl
  repeat (first | refine zr ?_ | (refine zn ?_; intro _))
  rename_i zb
  refine ExecS.weak (E' := [(1, .int .u8 (nx : Int)), (2, .int .u8 (ny : Int)), (3, str s), (6, .slice al nl cl0), (7, .slice am nm cm), (12, ptr ab), (13, ptr bb), (17, ptr zb)]) (L' := (some zb, .cells 0 [.slice aa 13 ac] 0 28) :: (F' ++ [(some bb, Cont.cells 0 [.int .i64 b.1, str b.2] 0 35), (some ab, Cont.cells 0 [.int .i64 a.1, str a.2] 0 35)])) ⟨rfl, rfl, rfl, rfl, rfl, rfl, rfl, rfl, trivial⟩ (List.Sublist.cons_cons _ (List.Sublist.append (List.Sublist.refl _) (List.Sublist.cons_cons _ (List.Sublist.cons_cons _ (List.nil_sublist _))))) ?_
  refine ExecS.perm (L' := (some zb, .cells 0 [.slice aa 13 ac] 0 28) :: (some bb, Cont.cells 0 [.int .i64 b.1, str b.2] 0 35) :: (some ab, Cont.cells 0 [.int .i64 a.1, str a.2] 0 35) :: F') (List.Perm.cons _ (List.perm_append_comm (l₁ := F') (l₂ := [(some bb, Cont.cells 0 [.int .i64 b.1, str b.2] 0 35), (some ab, Cont.cells 0 [.int .i64 a.1, str a.2] 0 35)]))) ?_
  refine exec_draw (lst := [(0, 0), (2, 0), (3, 4), (4, 12), (1, 1), (5, 3), (6, 63)]) (full := 127) (by kernel_rfl) (by kernel_rfl) (by kernel_rfl) (by kernel_rfl) ?_
  repeat (first | refine zd ?_)
  try refine draw_nil ?_
  refine draw_a rfl rfl rfl rfl rfl (step_box rfl rfl rfl (fun wb => zst ?_))
  repeat (first | refine zd ?_)
  try refine draw_nil ?_
  refine draw_w rfl rfl rfl rfl rfl rfl (step_call_fp [] _ rfl rfl rfl (List.Perm.refl _) (fun H hs hst => new_ok hst hl13 (by omega) ((hZ.mono (List.Sublist.cons _ (List.Sublist.cons _ (List.Sublist.cons _ (List.Sublist.cons _ (List.Sublist.refl _)))))).pure hs)) (fun v F2 h => ?_))
  obtain ⟨tb, mb, es, rfl, rfl, hsay⟩ := h
  refine zst ?_
  repeat (first | refine zd ?_)
  try refine draw_nil ?_
  repeat (first | refine zr ?_ | (refine zn ?_; intro _))
  refine ExecS.reord [4, 4] rfl ?_
  obtain ⟨A, hA⟩ : ∃ A : Atoms, A = (some tb, .cells 0 [.map (some mb), .slice aa 13 ac] 0 78) :: (some mb, .map es) :: (some wb, .cells 0 [.slice aa 13 ac] 0 39) :: (some zb, .cells 0 [.slice aa 13 ac] 0 28) :: F' := ⟨_, rfl⟩
  have hFA : F'.Sublist A := by rw [hA]; exact List.Sublist.cons _ (List.Sublist.cons _ (List.Sublist.cons _ (List.Sublist.cons _ (List.Sublist.refl _))))
  have hT : Rd A fun H => TreeH O H tb mb (.slice aa 13 ac) (gOf cl) := fun X' H0' H' hst' => (hZ.at (hst'.sublist hFA)).tree (fun c h => h) (hst'.has _ _ (by rw [hA]; simp)) (hst'.has _ _ (by rw [hA]; simp)) hsay
  have hW : Rd A fun H => RefH O H wb aa 13 ac cl := fun X' H0' H' hst' => by
    have hz := hZ.at (hst'.sublist hFA)
    exact ⟨hst'.has _ _ (by rw [hA]; simp), by have := hz.cells; rwa [hl13] at this, hz.cls⟩
  refine ExecS.weak (E' := [(1, .int .u8 (nx : Int)), (2, .int .u8 (ny : Int)), (3, str s), (6, .slice al nl cl0), (7, .slice am nm cm), (12, ptr ab), (13, ptr bb), (18, ptr tb), (19, ptr wb)]) (L' := (some bb, Cont.cells 0 [.int .i64 b.1, str b.2] 0 35) :: (some ab, Cont.cells 0 [.int .i64 a.1, str a.2] 0 35) :: A) ⟨rfl, rfl, rfl, rfl, rfl, rfl, rfl, rfl, rfl, trivial⟩ (by rw [hA]; exact List.Sublist.refl _) ?_
  clear hA hFA hsay hZ hR hper hF hl13
  refine exec_draw (lst := [(0, 0), (1, 0), (3, 0), (6, 0), (2, 3), (4, 15), (5, 31)]) (full := 127) (by kernel_rfl) (by kernel_rfl) (by kernel_rfl) (by kernel_rfl) ?_
  repeat (first | refine zd ?_)
  try refine draw_nil ?_
  refine draw_w rfl rfl rfl rfl rfl rfl (step_call_pure rfl rfl rfl (fun H hs => lawOf_ok (n := nx) (s := s) (by omega)) (zst ?_))
  repeat (first | refine zd ?_)
  try refine draw_nil ?_
  refine draw_a rfl rfl rfl rfl rfl (step_buildSliceF rfl rfl rfl rfl rfl rfl (fun sb => (zst ?_)))
  repeat (first | refine zd ?_)
  try refine draw_nil ?_
  repeat (first | refine zr ?_ | (refine zn ?_; intro _))
  refine ExecS.weak (E' := [(1, .int .u8 (nx : Int)), (2, .int .u8 (ny : Int)), (3, str s), (6, .slice al nl cl0), (7, .slice am nm cm), (12, ptr ab), (13, ptr bb), (18, ptr tb), (19, ptr wb), (67, .slice (some ⟨sb, 0, some 0⟩) 2 2), (68, .int .i64 2), (69, .int .i64 ((0 : Nat) : Int))]) (L' := (some sb, Cont.cells 0 [.int .i64 (ofT nx s).1, str (ofT nx s).2, .int .i64 a.1, str a.2] 2 35) :: (some bb, Cont.cells 0 [.int .i64 b.1, str b.2] 0 35) :: (some ab, Cont.cells 0 [.int .i64 a.1, str a.2] 0 35) :: A) ⟨rfl, rfl, rfl, rfl, rfl, rfl, rfl, rfl, rfl, rfl, rfl, rfl, trivial⟩ (List.Sublist.refl _) ?_
  refine exec_loop (fun k E L => ∃ i : Nat, i + k = 2 ∧ E = [(1, .int .u8 (nx : Int)), (2, .int .u8 (ny : Int)), (3, str s), (6, .slice al nl cl0), (7, .slice am nm cm), (12, ptr ab), (13, ptr bb), (18, ptr tb), (19, ptr wb), (67, .slice (some ⟨sb, 0, some 0⟩) 2 2), (68, .int .i64 2), (69, .int .i64 (i : Int))] ∧ L = (some sb, Cont.cells 0 [.int .i64 (ofT nx s).1, str (ofT nx s).2, .int .i64 a.1, str a.2] 2 35) :: (some bb, Cont.cells 0 [.int .i64 b.1, str b.2] 0 35) :: (some ab, Cont.cells 0 [.int .i64 a.1, str a.2] 0 35) :: A) ?_ 2 _ _ ⟨0, rfl, rfl, rfl⟩
  rintro k E L ⟨i, hik, rfl, rfl⟩
  repeat (first | refine zr ?_ | (refine zn ?_; intro _))
  refine exec_cond rfl (fun hlt => ?_) (fun hge => ?_)
  · have hi : i < 2 := by have h := of_decide_eq_true hlt; omega
    obtain ⟨p, hp⟩ : ∃ p, [ofT nx s, a][i]? = some p := ⟨_, List.getElem?_eq_getElem (by simpa using hi)⟩
    repeat (first | refine zr ?_ | (refine zn ?_; intro _))
    (first | apply ops_pl rfl rfl rfl ?_ rfl ?_ | apply draw_pl rfl rfl rfl rfl ?_ rfl rfl ?_); rotate_left; focus exact (.p rfl (opP_idxo (z := 2) rfl rfl rfl rfl (by omega) (by omega)))
    first | refine ops_pl rfl rfl rfl (.l rfl (look_agg 0 rfl rfl rfl (rd2 hp))) rfl ?_ | refine draw_pl rfl rfl rfl rfl (.l rfl (look_agg 0 rfl rfl rfl (rd2 hp))) rfl rfl ?_
    repeat (first | refine zr ?_ | (refine zn ?_; intro _))
    rename_i pb
    refine exec_draw (lst := [(0, 0), (1, 0), (3, 0), (6, 0), (2, 3), (4, 15), (5, 31)]) (full := 127) (by kernel_rfl) (by kernel_rfl) (by kernel_rfl) (by kernel_rfl) ?_
    repeat (first | refine zd ?_)
    try refine draw_nil ?_
    refine draw_w rfl rfl rfl rfl rfl rfl (step_call_pure rfl rfl rfl (fun H hs => lawOf_ok (n := ny) (s := s) (by omega)) (zst ?_))
    repeat (first | refine zd ?_)
    try refine draw_nil ?_
    refine draw_a rfl rfl rfl rfl rfl (step_buildSliceF rfl rfl rfl rfl rfl rfl (fun sc => (zst ?_)))
    repeat (first | refine zd ?_)
    try refine draw_nil ?_
    repeat (first | refine zr ?_ | (refine zn ?_; intro _))
    refine ExecS.weak (E' := [(1, .int .u8 (nx : Int)), (2, .int .u8 (ny : Int)), (3, str s), (6, .slice al nl cl0), (7, .slice am nm cm), (12, ptr ab), (13, ptr bb), (18, ptr tb), (19, ptr wb), (67, .slice (some ⟨sb, 0, some 0⟩) 2 2), (68, .int .i64 2), (69, .int .i64 (i : Int)), (21, ptr pb), (77, .slice (some ⟨sc, 0, some 0⟩) 2 2), (78, .int .i64 2), (79, .int .i64 ((0 : Nat) : Int))]) (L' := (some sc, Cont.cells 0 [.int .i64 (ofT ny s).1, str (ofT ny s).2, .int .i64 b.1, str b.2] 2 35) :: (some pb, Cont.cells 0 [.int .i64 p.1, str p.2] 0 35) :: (some sb, Cont.cells 0 [.int .i64 (ofT nx s).1, str (ofT nx s).2, .int .i64 a.1, str a.2] 2 35) :: (some bb, Cont.cells 0 [.int .i64 b.1, str b.2] 0 35) :: (some ab, Cont.cells 0 [.int .i64 a.1, str a.2] 0 35) :: A) ⟨rfl, rfl, rfl, rfl, rfl, rfl, rfl, rfl, rfl, rfl, rfl, rfl, rfl, rfl, rfl, rfl, trivial⟩ (List.Sublist.refl _) ?_
    refine exec_loop (fun q E L => ∃ j : Nat, j + q = 2 ∧ E = [(1, .int .u8 (nx : Int)), (2, .int .u8 (ny : Int)), (3, str s), (6, .slice al nl cl0), (7, .slice am nm cm), (12, ptr ab), (13, ptr bb), (18, ptr tb), (19, ptr wb), (67, .slice (some ⟨sb, 0, some 0⟩) 2 2), (68, .int .i64 2), (69, .int .i64 (i : Int)), (21, ptr pb), (77, .slice (some ⟨sc, 0, some 0⟩) 2 2), (78, .int .i64 2), (79, .int .i64 (j : Int))] ∧ L = (some sc, Cont.cells 0 [.int .i64 (ofT ny s).1, str (ofT ny s).2, .int .i64 b.1, str b.2] 2 35) :: (some pb, Cont.cells 0 [.int .i64 p.1, str p.2] 0 35) :: (some sb, Cont.cells 0 [.int .i64 (ofT nx s).1, str (ofT nx s).2, .int .i64 a.1, str a.2] 2 35) :: (some bb, Cont.cells 0 [.int .i64 b.1, str b.2] 0 35) :: (some ab, Cont.cells 0 [.int .i64 a.1, str a.2] 0 35) :: A) ?_ 2 _ _ ⟨0, rfl, rfl, rfl⟩
    rintro q E L ⟨j, hjq, rfl, rfl⟩
    repeat (first | refine zr ?_ | (refine zn ?_; intro _))
    refine exec_cond rfl (fun hlt2 => ?_) (fun hge2 => ?_)
    rotate_left
    · clear hge2
      repeat (first | refine zr ?_ | (refine zn ?_; intro _))
      refine ⟨k - 1, by omega, _, _, ?_, (by repeat first | exact List.Sublist.refl _ | apply List.Sublist.cons), i + 1, by omega, rfl, rfl⟩
      exact ⟨rfl, rfl, rfl, rfl, rfl, rfl, rfl, rfl, rfl, rfl, rfl, rfl, trivial⟩
    have hj : j < 2 := by have h := of_decide_eq_true hlt2; omega
    obtain ⟨r, hr⟩ : ∃ r, [ofT ny s, b][j]? = some r := ⟨_, List.getElem?_eq_getElem (by simpa using hj)⟩
    repeat (first | refine zr ?_ | (refine zn ?_; intro _))
    (first | apply ops_pl rfl rfl rfl ?_ rfl ?_ | apply draw_pl rfl rfl rfl rfl ?_ rfl rfl ?_); rotate_left; focus exact (.p rfl (opP_idxo (z := 2) rfl rfl rfl rfl (by omega) (by omega)))
    first | refine ops_pl rfl rfl rfl (.l rfl (look_agg 0 rfl rfl rfl (rd2 hr))) rfl ?_ | refine draw_pl rfl rfl rfl rfl (.l rfl (look_agg 0 rfl rfl rfl (rd2 hr))) rfl rfl ?_
    repeat (first | refine zr ?_ | (refine zn ?_; intro _))
    rename_i rb
    refine exec_draw (lst := [(0, 0), (1, 0), (2, 0), (4, 0), (5, 0), (6, 0), (3, 7), (7, 127), (8, 255), (9, 511), (10, 1023), (11, 1023), (12, 1023), (14, 1023), (15, 1023), (16, 1023), (13, 8191), (17, 131071), (18, 262143), (19, 524287), (20, 1048575), (21, 2097151), (23, 2097151), (22, 4194303), (24, 16777215), (25, 33554431), (26, 67108863)]) (full := 134217727) (by kernel_rfl) (by kernel_rfl) (by kernel_rfl) (by kernel_rfl) ?_
    repeat (first | refine zd ?_)
    try refine draw_nil ?_
    refine draw_w rfl rfl rfl rfl rfl rfl (step_call_pure rfl rfl rfl (fun H hs => join_ok (a := p) (b := r) hmT ((hT.mono (by repeat first | exact List.Sublist.refl _ | apply List.Sublist.cons)).pure hs)) (zst ?_))
    repeat (first | refine zd ?_)
    try refine draw_nil ?_
    refine draw_w rfl rfl rfl rfl rfl rfl (step_call_pure rfl rfl rfl (fun H hs => rjoin_ok (a := p) (b := r) ((hW.mono (by repeat first | exact List.Sublist.refl _ | apply List.Sublist.cons)).pure hs) (by omega) hmT) (zst ?_))
    repeat (first | refine zd ?_)
    try refine draw_nil ?_
    (first | apply ops_pl rfl rfl rfl ?_ rfl ?_ | apply draw_pl rfl rfl rfl rfl ?_ rfl rfl ?_); rotate_left; focus exact (PL.neqTyp (a := joinT (tmA m6) p r) (b := joinT (tmA m6) p r) rfl rfl rfl)
    rw [show (!decide (joinT (tmA m6) p r = joinT (tmA m6) p r)) = false from by rw [decide_eq_true rfl]; rfl]
    repeat (first | refine zd ?_)
    try refine draw_nil ?_
    refine draw_w rfl rfl rfl rfl rfl rfl (step_call_pure rfl rfl rfl (fun H hs => fits_ok (a := p) (b := r) hmT ((hT.mono (by repeat first | exact List.Sublist.refl _ | apply List.Sublist.cons)).pure hs)) (zst ?_))
    repeat (first | refine zd ?_)
    try refine draw_nil ?_
    refine draw_w rfl rfl rfl rfl rfl rfl (step_call_pure rfl rfl rfl (fun H hs => rfits_ok (a := p) (b := r) ((hW.mono (by repeat first | exact List.Sublist.refl _ | apply List.Sublist.cons)).pure hs) (by omega) hmT) (zst ?_))
    repeat (first | refine zd ?_)
    try refine draw_nil ?_
    refine draw_w rfl rfl rfl rfl rfl rfl (step_call_pure rfl rfl rfl (fun H hs => refers_ok (a := p)) (zst ?_))
    repeat (first | refine zd ?_)
    try refine draw_nil ?_
    refine draw_w rfl rfl rfl rfl rfl rfl (step_call_pure rfl rfl rfl (fun H hs => rrefers_ok (a := p)) (zst ?_))
    repeat (first | refine zd ?_)
    try refine draw_nil ?_
    repeat (first | refine zr ?_ | (refine zn ?_; intro _))
    refine ⟨q - 1, by omega, _, _, ?_, List.Sublist.cons _ (List.Sublist.refl _), j + 1, by omega, rfl, rfl⟩
    exact ⟨rfl, rfl, rfl, rfl, rfl, rfl, rfl, rfl, rfl, rfl, rfl, rfl, rfl, rfl, rfl, rfl, trivial⟩
  clear hge
  repeat (first | refine zr ?_ | (refine zn ?_; intro _))
  refine ExecS.ghost (ExecS.ghost ?_)
  refine ExecS.weak (E' := [(1, .int .u8 (nx : Int)), (2, .int .u8 (ny : Int)), (3, str s), (6, .slice al nl cl0), (7, .slice am nm cm), (18, ptr tb), (19, ptr wb), (24, .slice none 0 0), (25, .slice none 0 0), (26, .int .i64 ((0 : Nat) : Int))]) (L' := (none, .map []) :: (none, .map []) :: A) ⟨rfl, rfl, rfl, rfl, rfl, rfl, rfl, rfl, rfl, rfl, trivial⟩ (List.Sublist.cons_cons _ (List.Sublist.cons_cons _ (by repeat first | exact List.Sublist.refl _ | apply List.Sublist.cons))) ?_
  refine exec_loop (fun k E L => ∃ (i : Nat) (xa : Option Addr) (xn xc : Nat) (px : Option Nat × Cont), i + k = nl ∧ E = [(1, .int .u8 (nx : Int)), (2, .int .u8 (ny : Int)), (3, str s), (6, .slice al nl cl0), (7, .slice am nm cm), (18, ptr tb), (19, ptr wb), (24, .slice xa xn xc), (25, .slice none 0 0), (26, .int .i64 (i : Int))] ∧ L = px :: (none, .map []) :: A ∧ OwnA 2 35 xa xn xc (typC ((ltS l s).take i)) px) ?_ nl _ _ ⟨0, none, 0, 0, _, by omega, rfl, rfl, .nil _⟩
  clear hik i k
  rintro k E L ⟨i, xa, xn, xc, px, hik, rfl, rfl, ownx⟩
  have hxn : xn = min i nl := by have := ownx.len; rw [typC_length, List.length_take, ltS_len] at this; omega
  repeat (first | refine zr ?_ | (refine zn ?_; intro _))
  refine exec_cond rfl (fun hlt => ?_) (fun hge => ?_)
  · have hi : i < nl := by simp at hlt; omega
    obtain ⟨z, hz⟩ : ∃ z, l[i]? = some z := ⟨_, List.getElem?_eq_getElem (by omega)⟩
    have hzw := hlw z (List.mem_of_getElem? hz)
    have hgm : (l.map (Value.int .u8))[i]? = some (.int .u8 z) := by rw [List.getElem?_map, hz]; rfl
    obtain ⟨nz, rfl⟩ := Int.eq_ofNat_of_zero_le hzw.1
    repeat (first | refine zr ?_ | (refine zn ?_; intro _))
    (first | apply ops_pl rfl rfl rfl ?_ rfl ?_ | apply draw_pl rfl rfl rfl rfl ?_ rfl rfl ?_); rotate_left; focus exact (.p rfl (opP_idx rfl rfl (hl Heap.empty) rfl rfl (by omega) (by omega)))
    (first | apply ops_pl rfl rfl rfl ?_ rfl ?_ | apply draw_pl rfl rfl rfl rfl ?_ rfl rfl ?_); rotate_left; focus exact (.l rfl (fun H hs => opL_load rfl ((hl H).ld rfl hgm)))
    repeat (first | refine zr ?_ | (refine zn ?_; intro _))
    refine ops_step rfl rfl rfl (step_call_pure rfl rfl rfl (fun H hs => lawOf_ok (n := nz) (s := s) (by omega)) ?_)
    repeat (first | refine zr ?_ | (refine zn ?_; intro _))
    refine ops_step rfl rfl rfl (step_append 1 2 rfl rfl rfl rfl rfl rfl rfl rfl ownx (fun H hs => src_own (j := 0) hs rfl rfl 1) rfl (by first | rfl | exact allCell_map (fun _ => rfl) _) (by first | rfl | (simp; done) | (simp; omega)) (by omega) (fun a2 c2 p2 own2 => ?_))
    repeat (first | refine zr ?_ | (refine zn ?_; intro _))
    have e := ltS_succ (s := s) hz
    rw [Int.toNat_natCast] at e
    have own3 : OwnA 2 35 a2 (xn + 1) c2 (typC ((ltS l s).take (i + 1))) p2 := by rw [e, typC_app]; exact own2
    refine ⟨k - 1, by omega, _, _, ?_, List.Sublist.cons _ (List.Sublist.refl _), i + 1, a2, xn + 1, c2, p2, by omega, rfl, rfl, own3⟩
    exact ⟨rfl, rfl, rfl, rfl, rfl, rfl, rfl, rfl, rfl, rfl, trivial⟩
  have hin : nl ≤ i := by simp at hge; omega
  rw [show (ltS l s).take i = ltS l s from List.take_of_length_le (by rw [ltS_len]; omega)] at ownx
  replace hxn : xn = nl := by omega
  rw [hxn] at ownx ⊢
  clear hge hin hxn hik
  repeat (first | refine zr ?_ | (refine zn ?_; intro _))
  refine ExecS.perm (L' := (none, .map []) :: px :: A) (List.Perm.swap _ _ _) ?_
  refine ExecS.weak (E' := [(1, .int .u8 (nx : Int)), (2, .int .u8 (ny : Int)), (3, str s), (6, .slice al nl cl0), (7, .slice am nm cm), (18, ptr tb), (19, ptr wb), (24, .slice xa nl xc), (25, .slice none 0 0), (27, .int .i64 ((0 : Nat) : Int))]) (L' := (none, .map []) :: px :: A) ⟨rfl, rfl, rfl, rfl, rfl, rfl, rfl, rfl, rfl, rfl, trivial⟩ (List.Sublist.refl _) ?_
  refine exec_loop (fun k E L => ∃ (i : Nat) (ya : Option Addr) (yn yc : Nat) (py : Option Nat × Cont), i + k = nm ∧ E = [(1, .int .u8 (nx : Int)), (2, .int .u8 (ny : Int)), (3, str s), (6, .slice al nl cl0), (7, .slice am nm cm), (18, ptr tb), (19, ptr wb), (24, .slice xa nl xc), (25, .slice ya yn yc), (27, .int .i64 (i : Int))] ∧ L = py :: px :: A ∧ OwnA 2 35 ya yn yc (typC ((ltS m s).take i)) py) ?_ nm _ _ ⟨0, none, 0, 0, _, by omega, rfl, rfl, .nil _⟩
  clear i k
  rintro k E L ⟨i, ya, yn, yc, py, hik, rfl, rfl, owny⟩
  have hyn : yn = min i nm := by have := owny.len; rw [typC_length, List.length_take, ltS_len] at this; omega
  repeat (first | refine zr ?_ | (refine zn ?_; intro _))
  refine exec_cond rfl (fun hlt => ?_) (fun hge => ?_)
  · have hi : i < nm := by simp at hlt; omega
    obtain ⟨z, hz⟩ : ∃ z, m[i]? = some z := ⟨_, List.getElem?_eq_getElem (by omega)⟩
    have hzw := hmw z (List.mem_of_getElem? hz)
    have hgm : (m.map (Value.int .u8))[i]? = some (.int .u8 z) := by rw [List.getElem?_map, hz]; rfl
    obtain ⟨nz, rfl⟩ := Int.eq_ofNat_of_zero_le hzw.1
    repeat (first | refine zr ?_ | (refine zn ?_; intro _))
    (first | apply ops_pl rfl rfl rfl ?_ rfl ?_ | apply draw_pl rfl rfl rfl rfl ?_ rfl rfl ?_); rotate_left; focus exact (.p rfl (opP_idx rfl rfl (hm Heap.empty) rfl rfl (by omega) (by omega)))
    (first | apply ops_pl rfl rfl rfl ?_ rfl ?_ | apply draw_pl rfl rfl rfl rfl ?_ rfl rfl ?_); rotate_left; focus exact (.l rfl (fun H hs => opL_load rfl ((hm H).ld rfl hgm)))
    repeat (first | refine zr ?_ | (refine zn ?_; intro _))
    refine ops_step rfl rfl rfl (step_call_pure rfl rfl rfl (fun H hs => lawOf_ok (n := nz) (s := s) (by omega)) ?_)
    repeat (first | refine zr ?_ | (refine zn ?_; intro _))
    refine ops_step rfl rfl rfl (step_append 1 2 rfl rfl rfl rfl rfl rfl rfl rfl owny (fun H hs => src_own (j := 0) hs rfl rfl 1) rfl (by first | rfl | exact allCell_map (fun _ => rfl) _) (by first | rfl | (simp; done) | (simp; omega)) (by omega) (fun a2 c2 p2 own2 => ?_))
    repeat (first | refine zr ?_ | (refine zn ?_; intro _))
    have e := ltS_succ (s := s) hz
    rw [Int.toNat_natCast] at e
    have own3 : OwnA 2 35 a2 (yn + 1) c2 (typC ((ltS m s).take (i + 1))) p2 := by rw [e, typC_app]; exact own2
    refine ⟨k - 1, by omega, _, _, ?_, List.Sublist.cons _ (List.Sublist.refl _), i + 1, a2, yn + 1, c2, p2, by omega, rfl, rfl, own3⟩
    exact ⟨rfl, rfl, rfl, rfl, rfl, rfl, rfl, rfl, rfl, rfl, trivial⟩
  have hin : nm ≤ i := by simp at hge; omega
  rw [show (ltS m s).take i = ltS m s from List.take_of_length_le (by rw [ltS_len]; omega)] at owny
  replace hyn : yn = nm := by omega
  rw [hyn] at owny ⊢
  clear hge hin hyn hik
  repeat (first | refine zr ?_ | (refine zn ?_; intro _))
  refine ops_step rfl rfl rfl (step_call_fp [] _ rfl rfl rfl (List.Perm.refl _) (fun H hs hst => all_ok hst hmT ((hT.mono (by repeat first | exact List.Sublist.refl _ | apply List.Sublist.cons)).pure hs) (ownx.slM hs (by simp)).toX (owny.slM hs (by simp)).toX (by omega)) (fun v F' h => ?_))
  obtain ⟨ca, cn, cc, pc, rfl, rfl, ownc⟩ := h
  repeat (first | refine zr ?_ | (refine zn ?_; intro _))
  refine ops_step rfl rfl rfl (step_call_fp [] _ rfl rfl rfl (List.Perm.refl _) (fun H hs hst => rall_ok hst ((hW.mono (by repeat first | exact List.Sublist.refl _ | apply List.Sublist.cons)).pure hs) (by omega) hmT (ownx.slM hs (by simp)).toX (owny.slM hs (by simp)).toX (by omega)) (fun v F' h => ?_))
  obtain ⟨da, dn, dc, pd, rfl, rfl, ownd⟩ := h
  repeat (first | refine zr ?_ | (refine zn ?_; intro _))
  have hcn : cn ≤ 1000 := by
    have h1 := ownc.len
    rw [typC_length] at h1
    by_cases e : nl = nm
    · rw [if_pos e, allT_len (by rw [ltS_len, ltS_len]; omega), ltS_len] at h1; omega
    · rw [if_neg e] at h1; simp at h1; omega
  refine ops_step rfl rfl rfl (step_call_pure rfl rfl rfl (fun H hs => sameTypes_ok (ownc.slM hs (by simp)).toX (ownd.slM hs (by simp)).toX hcn rfl) ?_)
  repeat (first | refine zr ?_ | (refine zn ?_; intro _))
  refine ops_step rfl rfl rfl (step_call_pure rfl rfl rfl (fun H hs => lawOf_ok (n := nx) (s := s) (by omega)) ?_)
  repeat (first | refine zr ?_ | (refine zn ?_; intro _))
  refine ops_step rfl rfl rfl (step_call_pure rfl rfl rfl (fun H hs => lawOf_ok (n := ny) (s := s) (by omega)) ?_)
  repeat (first | refine zr ?_ | (refine zn ?_; intro _))
  refine ops_step rfl rfl rfl (step_call_pure rfl rfl rfl (fun H hs => fitsN_ok (a := ofT nx s) (b := ofT ny s)) ?_)
  repeat (first | refine zr ?_ | (refine zn ?_; intro _))
  refine ops_step rfl rfl rfl (step_call_pure rfl rfl rfl (fun H hs => lawOf_ok (n := nx) (s := s) (by omega)) ?_)
  repeat (first | refine zr ?_ | (refine zn ?_; intro _))
  refine ops_step rfl rfl rfl (step_call_pure rfl rfl rfl (fun H hs => lawOf_ok (n := ny) (s := s) (by omega)) ?_)
  repeat (first | refine zr ?_ | (refine zn ?_; intro _))
  refine ops_step rfl rfl rfl (step_call_pure rfl rfl rfl (fun H hs => rfits_ok (a := ofT nx s) (b := ofT ny s) (aa := none) (an := 0) (ac := 0) (cl := []) (fun H' e => ⟨(hs.extend e).has _ _ (by simp), Sl.nil, fun c hc => by cases hc⟩) (by omega) tmB_ok) ?_)
  repeat (first | refine zr ?_ | (refine zn ?_; intro _))
  refine ops_step rfl rfl rfl (step_call_pure rfl rfl rfl (fun H hs => lawOf_ok (n := nx) (s := s) (by omega)) ?_)
  repeat (first | refine zr ?_ | (refine zn ?_; intro _))
  refine ops_step rfl rfl rfl (step_call_pure rfl rfl rfl (fun H hs => lawOf_ok (n := ny) (s := s) (by omega)) ?_)
  repeat (first | refine zr ?_ | (refine zn ?_; intro _))
  refine ops_step rfl rfl rfl (step_call_pure rfl rfl rfl (fun H hs => joinN_ok (a := ofT nx s) (b := ofT ny s)) ?_)
  repeat (first | refine zr ?_ | (refine zn ?_; intro _))
  refine ops_step rfl rfl rfl (step_call_pure rfl rfl rfl (fun H hs => lawOf_ok (n := nx) (s := s) (by omega)) ?_)
  repeat (first | refine zr ?_ | (refine zn ?_; intro _))
  refine ops_step rfl rfl rfl (step_call_pure rfl rfl rfl (fun H hs => lawOf_ok (n := ny) (s := s) (by omega)) ?_)
  repeat (first | refine zr ?_ | (refine zn ?_; intro _))
  refine ops_step rfl rfl rfl (step_call_pure rfl rfl rfl (fun H hs => rjoin_ok (a := ofT nx s) (b := ofT ny s) (aa := none) (an := 0) (ac := 0) (cl := []) (fun H' e => ⟨(hs.extend e).has _ _ (by simp), Sl.nil, fun c hc => by cases hc⟩) (by omega) tmB_ok) ?_)
  repeat (first | refine zr ?_ | (refine zn ?_; intro _))
  (first | apply ops_pl rfl rfl rfl ?_ rfl ?_ | apply draw_pl rfl rfl rfl rfl ?_ rfl rfl ?_); rotate_left; focus exact (PL.eqlTyp (a := joinT tmB (ofT nx s) (ofT ny s)) (b := joinT tmB (ofT nx s) (ofT ny s)) rfl rfl rfl)
  rw [decide_eq_true rfl]
  repeat (first | refine zr ?_ | (refine zn ?_; intro _))
  exact ⟨trivial, _, rfl, rfl⟩
end Go.Proofs.Ythifbkjkiijkoaa

