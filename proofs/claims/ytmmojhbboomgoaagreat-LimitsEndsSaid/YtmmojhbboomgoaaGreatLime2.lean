/-
  'bonsailaw6.LimitsEnds' is true at every input: the walk.
-/
import Derived.Test.YtmmojhbboomgoaaGreatLime1
namespace Go.Proofs.YtmmojhbboomgoaaGreat
open Go.Ev Go.Ev.Wk
set_option linter.unusedVariables false
set_option linter.unusedSimpArgs false
variable {O : Old}


def opsO (n : Nat) : Int := ([6, 3, 40, 38] : List Int)[n % 4]?.getD 0
def opsL (l : List Int) : List (Int × Int) := l.map fun z => (opsO z.toNat, 0)
theorem opsL_len (l : List Int) : (opsL l).length = l.length := by simp [opsL]
theorem opsL_succ {l : List Int} {i : Nat} {z : Int} (h : l[i]? = some z) : (opsL l).take (i + 1) = (opsL l).take i ++ [(opsO z.toNat, 0)] := by
  rw [List.take_add_one, opsL, List.getElem?_map, h]; rfl
theorem opsO_law (n : Nat) : (opsO n == 4) = false ∧ (opsO n == 5) = false ∧ jumpsB (opsO n) = false := by
  have h : ∀ m < 4, ((([6, 3, 40, 38] : List Int)[m]?.getD 0) == 4) = false ∧ ((([6, 3, 40, 38] : List Int)[m]?.getD 0) == 5) = false ∧ jumpsB (([6, 3, 40, 38] : List Int)[m]?.getD 0) = false := by decide
  exact h _ (Nat.mod_lt _ (by decide))
theorem opsL_law (l : List Int) : ∀ p ∈ opsL l, (p.1 == 4) = false ∧ (p.1 == 5) = false ∧ jumpsB p.1 = false := fun p hp => by
  obtain ⟨z, _, rfl⟩ := List.mem_map.1 hp
  exact opsO_law _
theorem opsO_get (n : Nat) : ([.int .i64 6, .int .i64 3, .int .i64 40, .int .i64 38] : List Value)[0 + ((n % 4 : Nat) : Int).toNat * 1]? = some (.int .i64 (opsO n)) := by
  have h : ∀ m < 4, ([.int .i64 6, .int .i64 3, .int .i64 40, .int .i64 38] : List Value)[m]? = some (.int .i64 (([6, 3, 40, 38] : List Int)[m]?.getD 0)) := by
    intro m hm
    match m, hm with
    | 0, _ => rfl
    | 1, _ => rfl
    | 2, _ => rfl
    | 3, _ => rfl
    | m + 4, h => omega
  rw [show 0 + ((n % 4 : Nat) : Int).toNat * 1 = n % 4 from by omega]
  exact h _ (Nat.mod_lt _ (by decide))

set_option maxHeartbeats 64000000 in
set_option maxRecDepth 100000 in
theorem limitsEnds_walk {al : Option Addr} {nl cl0 : Nat} {l : List Int} {u k w : Int} (hl : ∀ H, Sl O H (.slice al nl cl0) 1 nl (l.map (.int .u8))) (hlw : ∀ z ∈ l, 0 ≤ z ∧ z ≤ 255) (hu : 0 ≤ u ∧ u ≤ 255) (hw : 0 ≤ w ∧ w ≤ 255) :
    CallC TT O 3 [.slice al nl cl0, .int .u8 u, .int .i64 k, .int .u8 w] .empty fun v H' => v = .bool true ∧ Ext .empty H' := by
  obtain ⟨nu, rfl⟩ := Int.eq_ofNat_of_zero_le hu.1
  obtain ⟨nw, rfl⟩ := Int.eq_ofNat_of_zero_le hw.1
  have hll : l.length = nl := by have := (hl .empty).1; simpa using this
  have t4 : ∀ n : Nat, (n : Int).tmod 4 = ((n % 4 : Nat) : Int) := fun n => tmodN (m := 4) (by omega) rfl
  have t8 : ∀ n : Nat, (n : Int).tmod 8 = ((n % 8 : Nat) : Int) := fun n => tmodN (m := 8) (by omega) rfl
  refine call_pure rfl rfl rfl rfl rfl ?_
  repeat (first | refine zr ?_ | (refine zn ?_; intro _))
  refine ops_step rfl rfl rfl (step_call_pure rfl rfl rfl (fun H hs => call_known rfl) ?_)
  repeat (first | refine zr ?_ | (refine zn ?_; intro _))
  cases h20 : decide ((nl : Int) > 20)
  rotate_left
  · repeat (first | refine zr ?_ | (refine zn ?_; intro _))
    exact ⟨trivial, _, rfl, rfl⟩
  have hn20 : nl ≤ 20 := by have := of_decide_eq_false h20; omega
  repeat (first | refine zr ?_ | (refine zn ?_; intro _))
  rename_i mb
  rw [t4, show IntKind.i64.wrap ((nw % 4 : Nat) : Int) = ((nw % 4 : Nat) : Int) from w64 rfl (by omega) (by omega)]
  obtain ⟨lo, hlo, hloe⟩ : ∃ lo : Int, 0 ≤ lo ∧ ((nw % 4 : Nat) : Int) = lo := ⟨_, by omega, rfl⟩
  rw [hloe]
  refine ExecS.ghost ?_
  refine ExecS.weak (E' := [(0, .slice al nl cl0), (1, .int .u8 (nu : Int)), (2, .int .i64 k), (9, ptr' mb), (10, .int .i64 ((0 : Nat) : Int))]) (L' := (none, .map []) :: [(some mb, Cont.cells 0 (methC lo none 0 0 ) 0 30)]) ⟨rfl, rfl, rfl, rfl, rfl, trivial⟩ (List.Sublist.refl _) ?_
  refine exec_loop (fun q E L => ∃ (i : Nat) (ca : Option Addr) (cn cc : Nat) (pc : Option Nat × Cont), i + q = nl ∧ E = [(0, .slice al nl cl0), (1, .int .u8 (nu : Int)), (2, .int .i64 k), (9, ptr' mb), (10, .int .i64 (i : Int))] ∧ L = pc :: [(some mb, Cont.cells 0 (methC lo ca cn cc ) 0 30)] ∧ OwnA 7 33 ca cn cc (((opsL l).take i).flatMap IC) pc) ?_ nl _ _ ⟨0, none, 0, 0, _, by omega, rfl, rfl, .nil _⟩
  rintro q E L ⟨i, ca, cn, cc, pc, hiq, rfl, rfl, own⟩
  have hcn : cn = min i nl := by have := own.len; rw [flat_len (z := 7) (fun _ => rfl), List.length_take, opsL_len] at this; omega
  repeat (first | refine zr ?_ | (refine zn ?_; intro _))
  refine exec_cond rfl (fun hlt => ?_) (fun hge => ?_)
  · have hi : i < nl := by simp at hlt; omega
    obtain ⟨z, hz⟩ : ∃ z, l[i]? = some z := ⟨_, List.getElem?_eq_getElem (by omega)⟩
    have hzw := hlw z (List.mem_of_getElem? hz)
    have hgm : (l.map (Value.int .u8))[i]? = some (.int .u8 z) := by rw [List.getElem?_map, hz]; rfl
    obtain ⟨nz, rfl⟩ := Int.eq_ofNat_of_zero_le hzw.1
    repeat (first | refine zr ?_ | (refine zn ?_; intro _))
    refine exec_draw (lst := [(0, 0), (1, 1), (2, 0), (3, 0), (4, 0), (5, 24), (6, 56), (7, 120), (8, 252), (9, 508), (10, 1020), (11, 2044), (12, 4095), (13, 8191), (14, 16383)]) (full := 32767) (by kernel_rfl) (by kernel_rfl) (by kernel_rfl) (by kernel_rfl) ?_
    repeat (first | refine zd ?_)
    try refine draw_nil ?_
    skip
    refine draw_a rfl rfl rfl rfl rfl (step_buildSliceF rfl rfl rfl rfl rfl rfl (fun ob => ⟨by repeat (first | exact True.intro | refine And.intro (.inr ⟨veq_refl rfl, (fun H hs => opL_load rfl ((hl H).ld rfl hgm))⟩) ?_ | refine And.intro (.inr ⟨veq_refl rfl, (look_own 0 rfl rfl rfl (opsO_get nz))⟩) ?_ | refine And.intro (.inr ⟨veq_refl rfl, (look_own 1 rfl rfl rfl (opsO_get nz))⟩) ?_ | refine zs1 ?_), ?_⟩))
    repeat (first | refine zd ?_)
    try refine draw_nil ?_
    (first | apply ops_pl rfl rfl rfl ?_ rfl ?_ | apply draw_pl rfl rfl rfl rfl ?_ rfl rfl ?_); rotate_left; focus exact (.p rfl (opP_idx rfl rfl (hl Heap.empty) rfl rfl (by omega) (by omega)))
    (first | apply ops_pl rfl rfl rfl ?_ rfl ?_ | apply draw_pl rfl rfl rfl rfl ?_ rfl rfl ?_); rotate_left; focus exact (.l rfl (fun H hs => opL_load rfl ((hl H).ld rfl hgm)))
    repeat (first | refine zd ?_)
    try refine draw_nil ?_
    rw [t4]
    (first | apply ops_pl rfl rfl rfl ?_ rfl ?_ | apply draw_pl rfl rfl rfl rfl ?_ rfl rfl ?_); rotate_left; focus exact (.p rfl (opP_idxo (z := 1) rfl rfl rfl rfl (by omega) (by omega)))
    (first | apply ops_pl rfl rfl rfl ?_ rfl ?_ | apply draw_pl rfl rfl rfl rfl ?_ rfl rfl ?_); rotate_left; focus exact (.l rfl (look_own 0 rfl rfl rfl (opsO_get nz)))
    repeat (first | refine zd ?_)
    try refine draw_nil ?_
    refine draw_a rfl rfl rfl rfl rfl (step_buildSliceF rfl rfl rfl rfl rfl rfl (fun ib => ⟨by repeat (first | exact True.intro | refine And.intro (.inr ⟨veq_refl rfl, (fun H hs => opL_load rfl ((hl H).ld rfl hgm))⟩) ?_ | refine And.intro (.inr ⟨veq_refl rfl, (look_own 0 rfl rfl rfl (opsO_get nz))⟩) ?_ | refine And.intro (.inr ⟨veq_refl rfl, (look_own 1 rfl rfl rfl (opsO_get nz))⟩) ?_ | refine zs1 ?_), ?_⟩))
    repeat (first | refine zd ?_)
    try refine draw_nil ?_
    refine draw_w rfl rfl rfl rfl rfl rfl (step_append 2 7 rfl rfl rfl rfl rfl rfl rfl rfl own (fun H hs => src_own (j := 0) hs rfl rfl 1) rfl (by first | rfl | exact allCell_map (fun _ => rfl) _) (by first | rfl | (simp; done) | (simp; omega)) (by omega) (fun a2 c2 p2 own2 => ⟨by repeat (first | exact True.intro | refine And.intro (.inr ⟨veq_refl rfl, (fun H hs => opL_load rfl ((hl H).ld rfl hgm))⟩) ?_ | refine And.intro (.inr ⟨veq_refl rfl, (look_own 0 rfl rfl rfl (opsO_get nz))⟩) ?_ | refine And.intro (.inr ⟨veq_refl rfl, (look_own 1 rfl rfl rfl (opsO_get nz))⟩) ?_ | refine zs1 ?_), ?_⟩))
    repeat (first | refine zd ?_)
    try refine draw_nil ?_
    refine draw_w rfl rfl rfl rfl rfl rfl (step_storeZ 3 rfl rfl rfl rfl rfl rfl rfl rfl rfl ⟨by repeat (first | exact True.intro | refine And.intro (.inr ⟨veq_refl rfl, (fun H hs => opL_load rfl ((hl H).ld rfl hgm))⟩) ?_ | refine And.intro (.inr ⟨veq_refl rfl, (look_own 0 rfl rfl rfl (opsO_get nz))⟩) ?_ | refine And.intro (.inr ⟨veq_refl rfl, (look_own 1 rfl rfl rfl (opsO_get nz))⟩) ?_ | refine zs1 ?_), ?_⟩)
    repeat (first | refine zd ?_)
    try refine draw_nil ?_
    repeat (first | refine zr ?_ | (refine zn ?_; intro _))
    have e := opsL_succ hz
    rw [Int.toNat_natCast] at e
    have own3 : OwnA 7 33 a2 (cn + 1) c2 (((opsL l).take (i + 1)).flatMap IC) p2 := by rw [e, List.flatMap_append]; exact own2
    refine ⟨q - 1, by omega, _, _, ?_, List.Sublist.cons _ (List.Sublist.cons _ (List.Sublist.refl _)), i + 1, a2, cn + 1, c2, p2, by omega, rfl, rfl, own3⟩
    exact ⟨rfl, rfl, rfl, rfl, rfl, trivial⟩

  have hi : nl ≤ i := by simp at hge; omega
  rw [show (opsL l).take i = opsL l from List.take_of_length_le (by rw [opsL_len]; omega)] at own
  replace hcn : cn = nl := by omega
  rw [hcn] at own ⊢
  clear hge hcn hiq
  repeat (first | refine zr ?_ | (refine zn ?_; intro _))
  rw [t8]
  have hlen : ((opsL l).length : Int) = (nl : Int) := by rw [opsL_len, hll]
  obtain ⟨K, hK32, hK⟩ : ∃ x : Nat, x < 32 ∧ IntKind.i64.wrap ((BitVec.ofInt IntKind.i64.bits k &&& BitVec.ofInt IntKind.i64.bits 31).toNat : Int) = (x : Int) := by
    have h := BitVec.toNat_and (BitVec.ofInt IntKind.i64.bits k) (BitVec.ofInt IntKind.i64.bits 31)
    have h2 : (BitVec.ofInt IntKind.i64.bits k &&& BitVec.ofInt IntKind.i64.bits 31).toNat ≤ 31 := by
      rw [h]
      exact Nat.le_trans Nat.and_le_right (by decide)
    exact ⟨_, by omega, w64 rfl (by omega) (by omega)⟩
  have hnl : ((nl : Int) == (nl : Int)) = true := by simp
  have hn8 : nu % 8 = 0 ∨ nu % 8 = 1 ∨ nu % 8 = 2 ∨ nu % 8 = 3 ∨ nu % 8 = 4 ∨ nu % 8 = 5 ∨ nu % 8 = 6 ∨ nu % 8 = 7 := by omega
  rcases hn8 with e8 | e8 | e8 | e8 | e8 | e8 | e8 | e8 <;> rw [e8]
  · have hsaid : saidL (opsL l) 40 0 = ((0 : Int), (0 : Int)) := by rfl
    (first | apply ops_pl rfl rfl rfl ?_ rfl ?_ | apply draw_pl rfl rfl rfl rfl ?_ rfl rfl ?_); rotate_left; focus exact (.p rfl (opP_idxo (z := 1) rfl rfl rfl rfl (by omega) (by omega)))
    repeat (first | refine zr ?_ | (refine zn ?_; intro _))
    refine ops_step rfl rfl rfl (step_append 3 7 rfl rfl rfl rfl rfl rfl rfl rfl own (fun H hs => src_own (j := 0) hs rfl rfl 1) rfl (by first | rfl | exact allCell_map (fun _ => rfl) _) (by first | rfl | (simp; done) | (simp; omega)) (by omega) (fun a3 c3 p3 own3 => ?_))
    have own4 : OwnA 7 33 a3 (nl + 1) c3 ((opsL l ++ [((40 : Int), (0 : Int))]).flatMap IC) p3 := by rw [List.flatMap_append]; exact own3

    repeat (first | refine zrb ?_ | (refine zn ?_; intro _))
    refine ops_step rfl rfl rfl (step_call_pure rfl rfl rfl (fun H hs => methodL_ok (pre := opsL l) (e := 40) (k := 0) (own4.slM hs (by simp)).toX hlo (by omega) (opsL_law l) rfl rfl) ?_)
    rw [hsaid]
    repeat (first | refine zrb ?_ | (refine zn ?_; intro _))
    rw [t8, e8]
    repeat (first | refine zrb ?_ | (refine zn ?_; intro _))
    exact ⟨trivial, _, rfl, rfl⟩

  · have hsaid : saidL (opsL l) 39 0 = ((0 : Int), (0 : Int)) := by rfl
    (first | apply ops_pl rfl rfl rfl ?_ rfl ?_ | apply draw_pl rfl rfl rfl rfl ?_ rfl rfl ?_); rotate_left; focus exact (.p rfl (opP_idxo (z := 1) rfl rfl rfl rfl (by omega) (by omega)))
    repeat (first | refine zr ?_ | (refine zn ?_; intro _))
    refine ops_step rfl rfl rfl (step_append 3 7 rfl rfl rfl rfl rfl rfl rfl rfl own (fun H hs => src_own (j := 0) hs rfl rfl 1) rfl (by first | rfl | exact allCell_map (fun _ => rfl) _) (by first | rfl | (simp; done) | (simp; omega)) (by omega) (fun a3 c3 p3 own3 => ?_))
    have own4 : OwnA 7 33 a3 (nl + 1) c3 ((opsL l ++ [((39 : Int), (0 : Int))]).flatMap IC) p3 := by rw [List.flatMap_append]; exact own3

    repeat (first | refine zrb ?_ | (refine zn ?_; intro _))
    refine ops_step rfl rfl rfl (step_call_pure rfl rfl rfl (fun H hs => methodL_ok (pre := opsL l) (e := 39) (k := 0) (own4.slM hs (by simp)).toX hlo (by omega) (opsL_law l) rfl rfl) ?_)
    rw [hsaid]
    repeat (first | refine zrb ?_ | (refine zn ?_; intro _))
    rw [t8, e8]
    repeat (first | refine zrb ?_ | (refine zn ?_; intro _))
    exact ⟨trivial, _, rfl, rfl⟩

  · have hsaid : saidL (opsL l) 38 0 = ((0 : Int), (0 : Int)) := by rfl
    (first | apply ops_pl rfl rfl rfl ?_ rfl ?_ | apply draw_pl rfl rfl rfl rfl ?_ rfl rfl ?_); rotate_left; focus exact (.p rfl (opP_idxo (z := 1) rfl rfl rfl rfl (by omega) (by omega)))
    repeat (first | refine zr ?_ | (refine zn ?_; intro _))
    refine ops_step rfl rfl rfl (step_append 3 7 rfl rfl rfl rfl rfl rfl rfl rfl own (fun H hs => src_own (j := 0) hs rfl rfl 1) rfl (by first | rfl | exact allCell_map (fun _ => rfl) _) (by first | rfl | (simp; done) | (simp; omega)) (by omega) (fun a3 c3 p3 own3 => ?_))
    have own4 : OwnA 7 33 a3 (nl + 1) c3 ((opsL l ++ [((38 : Int), (0 : Int))]).flatMap IC) p3 := by rw [List.flatMap_append]; exact own3

    repeat (first | refine zrb ?_ | (refine zn ?_; intro _))
    refine ops_step rfl rfl rfl (step_call_pure rfl rfl rfl (fun H hs => methodL_ok (pre := opsL l) (e := 38) (k := 0) (own4.slM hs (by simp)).toX hlo (by omega) (opsL_law l) rfl rfl) ?_)
    rw [hsaid]
    repeat (first | refine zrb ?_ | (refine zn ?_; intro _))
    rw [t8, e8]
    repeat (first | refine zrb ?_ | (refine zn ?_; intro _))
    exact ⟨trivial, _, rfl, rfl⟩

  · have hsaid : saidL (opsL l) 43 0 = ((0 : Int), (0 : Int)) := by rfl
    (first | apply ops_pl rfl rfl rfl ?_ rfl ?_ | apply draw_pl rfl rfl rfl rfl ?_ rfl rfl ?_); rotate_left; focus exact (.p rfl (opP_idxo (z := 1) rfl rfl rfl rfl (by omega) (by omega)))
    repeat (first | refine zr ?_ | (refine zn ?_; intro _))
    refine ops_step rfl rfl rfl (step_append 3 7 rfl rfl rfl rfl rfl rfl rfl rfl own (fun H hs => src_own (j := 0) hs rfl rfl 1) rfl (by first | rfl | exact allCell_map (fun _ => rfl) _) (by first | rfl | (simp; done) | (simp; omega)) (by omega) (fun a3 c3 p3 own3 => ?_))
    have own4 : OwnA 7 33 a3 (nl + 1) c3 ((opsL l ++ [((43 : Int), (0 : Int))]).flatMap IC) p3 := by rw [List.flatMap_append]; exact own3

    repeat (first | refine zrb ?_ | (refine zn ?_; intro _))
    refine ops_step rfl rfl rfl (step_call_pure rfl rfl rfl (fun H hs => methodL_ok (pre := opsL l) (e := 43) (k := 0) (own4.slM hs (by simp)).toX hlo (by omega) (opsL_law l) rfl rfl) ?_)
    rw [hsaid]
    repeat (first | refine zrb ?_ | (refine zn ?_; intro _))
    rw [t8, e8]
    repeat (first | refine zrb ?_ | (refine zn ?_; intro _))
    exact ⟨trivial, _, rfl, rfl⟩

  · (first | apply ops_pl rfl rfl rfl ?_ rfl ?_ | apply draw_pl rfl rfl rfl rfl ?_ rfl rfl ?_); rotate_left; focus exact (.p rfl (opP_idxo (z := 1) rfl rfl rfl rfl (by omega) (by omega)))
    repeat (first | refine zr ?_ | (refine zn ?_; intro _))
    rw [hK]
    cases hlt : decide ((K : Int) < ((nl + 1 : Nat) : Int))
    · have hsaid : saidL (opsL l) 19 (K : Int) = ((nl : Int), (28 : Int)) := by
        rw [saidL, opsL_len, hll, hlt, if_pos (by rw [Bool.and_false, Bool.or_false]; rfl)]
      have hge : decide ((K : Int) ≥ ((nl + 1 : Nat) : Int)) = true := by rw [decide_eq_true_eq]; have := of_decide_eq_false hlt; omega
      refine ops_step rfl rfl rfl (step_append 3 7 rfl rfl rfl rfl rfl rfl rfl rfl own (fun H hs => src_own (j := 0) hs rfl rfl 1) rfl (by first | rfl | exact allCell_map (fun _ => rfl) _) (by first | rfl | (simp; done) | (simp; omega)) (by omega) (fun a3 c3 p3 own3 => ?_))
      have own4 : OwnA 7 33 a3 (nl + 1) c3 ((opsL l ++ [((19 : Int), (K : Int))]).flatMap IC) p3 := by rw [List.flatMap_append]; exact own3

      repeat (first | refine zrb ?_ | (refine zn ?_; intro _))
      refine ops_step rfl rfl rfl (step_call_pure rfl rfl rfl (fun H hs => methodL_ok (pre := opsL l) (e := 19) (k := K) (own4.slM hs (by simp)).toX hlo (by omega) (opsL_law l) rfl rfl) ?_)
      rw [hsaid]
      repeat (first | refine zrb ?_ | (refine zn ?_; intro _))
      rw [hge]
      repeat (first | refine zrb ?_ | (refine zn ?_; intro _))
      rw [show ((((nl : Int), (28 : Int)) : Int × Int).1 == (nl : Int)) = true from hnl]
      repeat (first | refine zrb ?_ | (refine zn ?_; intro _))
      exact ⟨trivial, _, rfl, rfl⟩
    · have hsaid : saidL (opsL l) 19 (K : Int) = ((0 : Int), (0 : Int)) := by
        rw [saidL, opsL_len, hll, hlt, if_neg (by rw [decide_eq_true (show (K : Int) ≥ 0 by omega)]; simp)]; rfl
      have hge : decide ((K : Int) ≥ ((nl + 1 : Nat) : Int)) = false := by rw [decide_eq_false_iff_not]; have := of_decide_eq_true hlt; omega
      refine ops_step rfl rfl rfl (step_append 3 7 rfl rfl rfl rfl rfl rfl rfl rfl own (fun H hs => src_own (j := 0) hs rfl rfl 1) rfl (by first | rfl | exact allCell_map (fun _ => rfl) _) (by first | rfl | (simp; done) | (simp; omega)) (by omega) (fun a3 c3 p3 own3 => ?_))
      have own4 : OwnA 7 33 a3 (nl + 1) c3 ((opsL l ++ [((19 : Int), (K : Int))]).flatMap IC) p3 := by rw [List.flatMap_append]; exact own3

      repeat (first | refine zrb ?_ | (refine zn ?_; intro _))
      refine ops_step rfl rfl rfl (step_call_pure rfl rfl rfl (fun H hs => methodL_ok (pre := opsL l) (e := 19) (k := K) (own4.slM hs (by simp)).toX hlo (by omega) (opsL_law l) rfl rfl) ?_)
      rw [hsaid]
      repeat (first | refine zrb ?_ | (refine zn ?_; intro _))
      rw [hge]
      repeat (first | refine zrb ?_ | (refine zn ?_; intro _))
      rw [t8, e8]
      repeat (first | refine zrb ?_ | (refine zn ?_; intro _))
      exact ⟨trivial, _, rfl, rfl⟩

  · have hsaid : saidL (opsL l) 6 0 = ((nl : Int), (31 : Int)) := by rw [← hlen]; rfl
    (first | apply ops_pl rfl rfl rfl ?_ rfl ?_ | apply draw_pl rfl rfl rfl rfl ?_ rfl rfl ?_); rotate_left; focus exact (.p rfl (opP_idxo (z := 1) rfl rfl rfl rfl (by omega) (by omega)))
    repeat (first | refine zr ?_ | (refine zn ?_; intro _))
    refine ops_step rfl rfl rfl (step_append 3 7 rfl rfl rfl rfl rfl rfl rfl rfl own (fun H hs => src_own (j := 0) hs rfl rfl 1) rfl (by first | rfl | exact allCell_map (fun _ => rfl) _) (by first | rfl | (simp; done) | (simp; omega)) (by omega) (fun a3 c3 p3 own3 => ?_))
    have own4 : OwnA 7 33 a3 (nl + 1) c3 ((opsL l ++ [((6 : Int), (0 : Int))]).flatMap IC) p3 := by rw [List.flatMap_append]; exact own3

    repeat (first | refine zrb ?_ | (refine zn ?_; intro _))
    refine ops_step rfl rfl rfl (step_call_pure rfl rfl rfl (fun H hs => methodL_ok (pre := opsL l) (e := 6) (k := 0) (own4.slM hs (by simp)).toX hlo (by omega) (opsL_law l) rfl rfl) ?_)
    rw [hsaid]
    repeat (first | refine zrb ?_ | (refine zn ?_; intro _))
    rw [t8, e8]
    repeat (first | refine zrb ?_ | (refine zn ?_; intro _))
    rw [show ((((nl : Int), (31 : Int)) : Int × Int).1 == (nl : Int)) = true from hnl]
    repeat (first | refine zrb ?_ | (refine zn ?_; intro _))
    exact ⟨trivial, _, rfl, rfl⟩

  · (first | apply ops_pl rfl rfl rfl ?_ rfl ?_ | apply draw_pl rfl rfl rfl rfl ?_ rfl rfl ?_); rotate_left; focus exact (.p rfl (opP_idxo (z := 1) rfl rfl rfl rfl (by omega) (by omega)))
    repeat (first | refine zr ?_ | (refine zn ?_; intro _))
    rw [hK]
    cases hlt : decide ((K : Int) < ((nl + 1 : Nat) : Int))
    · have hsaid : saidL (opsL l) 20 (K : Int) = ((nl : Int), (28 : Int)) := by
        rw [saidL, opsL_len, hll, hlt, if_pos (by rw [Bool.and_false, Bool.or_false]; rfl)]
      have hge : decide ((K : Int) ≥ ((nl + 1 : Nat) : Int)) = true := by rw [decide_eq_true_eq]; have := of_decide_eq_false hlt; omega
      refine ops_step rfl rfl rfl (step_append 3 7 rfl rfl rfl rfl rfl rfl rfl rfl own (fun H hs => src_own (j := 0) hs rfl rfl 1) rfl (by first | rfl | exact allCell_map (fun _ => rfl) _) (by first | rfl | (simp; done) | (simp; omega)) (by omega) (fun a3 c3 p3 own3 => ?_))
      have own4 : OwnA 7 33 a3 (nl + 1) c3 ((opsL l ++ [((20 : Int), (K : Int))]).flatMap IC) p3 := by rw [List.flatMap_append]; exact own3

      repeat (first | refine zrb ?_ | (refine zn ?_; intro _))
      refine ops_step rfl rfl rfl (step_call_pure rfl rfl rfl (fun H hs => methodL_ok (pre := opsL l) (e := 20) (k := K) (own4.slM hs (by simp)).toX hlo (by omega) (opsL_law l) rfl rfl) ?_)
      rw [hsaid]
      repeat (first | refine zrb ?_ | (refine zn ?_; intro _))
      rw [hge]
      repeat (first | refine zrb ?_ | (refine zn ?_; intro _))
      rw [show ((((nl : Int), (28 : Int)) : Int × Int).1 == (nl : Int)) = true from hnl]
      repeat (first | refine zrb ?_ | (refine zn ?_; intro _))
      exact ⟨trivial, _, rfl, rfl⟩
    · have hsaid : saidL (opsL l) 20 (K : Int) = ((nl : Int), (31 : Int)) := by
        rw [saidL, opsL_len, hll, hlt, if_neg (by rw [decide_eq_true (show (K : Int) ≥ 0 by omega)]; simp)]; rfl
      have hge : decide ((K : Int) ≥ ((nl + 1 : Nat) : Int)) = false := by rw [decide_eq_false_iff_not]; have := of_decide_eq_true hlt; omega
      refine ops_step rfl rfl rfl (step_append 3 7 rfl rfl rfl rfl rfl rfl rfl rfl own (fun H hs => src_own (j := 0) hs rfl rfl 1) rfl (by first | rfl | exact allCell_map (fun _ => rfl) _) (by first | rfl | (simp; done) | (simp; omega)) (by omega) (fun a3 c3 p3 own3 => ?_))
      have own4 : OwnA 7 33 a3 (nl + 1) c3 ((opsL l ++ [((20 : Int), (K : Int))]).flatMap IC) p3 := by rw [List.flatMap_append]; exact own3

      repeat (first | refine zrb ?_ | (refine zn ?_; intro _))
      refine ops_step rfl rfl rfl (step_call_pure rfl rfl rfl (fun H hs => methodL_ok (pre := opsL l) (e := 20) (k := K) (own4.slM hs (by simp)).toX hlo (by omega) (opsL_law l) rfl rfl) ?_)
      rw [hsaid]
      repeat (first | refine zrb ?_ | (refine zn ?_; intro _))
      rw [hge]
      repeat (first | refine zrb ?_ | (refine zn ?_; intro _))
      rw [t8, e8]
      repeat (first | refine zrb ?_ | (refine zn ?_; intro _))
      rw [show ((((nl : Int), (31 : Int)) : Int × Int).1 == (nl : Int)) = true from hnl]
      repeat (first | refine zrb ?_ | (refine zn ?_; intro _))
      exact ⟨trivial, _, rfl, rfl⟩

  · have hsaid : saidL (opsL l) 7 0 = ((nl : Int), (31 : Int)) := by rw [← hlen]; rfl
    (first | apply ops_pl rfl rfl rfl ?_ rfl ?_ | apply draw_pl rfl rfl rfl rfl ?_ rfl rfl ?_); rotate_left; focus exact (.p rfl (opP_idxo (z := 1) rfl rfl rfl rfl (by omega) (by omega)))
    repeat (first | refine zr ?_ | (refine zn ?_; intro _))
    refine ops_step rfl rfl rfl (step_append 3 7 rfl rfl rfl rfl rfl rfl rfl rfl own (fun H hs => src_own (j := 0) hs rfl rfl 1) rfl (by first | rfl | exact allCell_map (fun _ => rfl) _) (by first | rfl | (simp; done) | (simp; omega)) (by omega) (fun a3 c3 p3 own3 => ?_))
    have own4 : OwnA 7 33 a3 (nl + 1) c3 ((opsL l ++ [((7 : Int), (0 : Int))]).flatMap IC) p3 := by rw [List.flatMap_append]; exact own3

    repeat (first | refine zrb ?_ | (refine zn ?_; intro _))
    refine ops_step rfl rfl rfl (step_call_pure rfl rfl rfl (fun H hs => methodL_ok (pre := opsL l) (e := 7) (k := 0) (own4.slM hs (by simp)).toX hlo (by omega) (opsL_law l) rfl rfl) ?_)
    rw [hsaid]
    repeat (first | refine zrb ?_ | (refine zn ?_; intro _))
    rw [t8, e8]
    repeat (first | refine zrb ?_ | (refine zn ?_; intro _))
    rw [show ((((nl : Int), (31 : Int)) : Int × Int).1 == (nl : Int)) = true from hnl]
    repeat (first | refine zrb ?_ | (refine zn ?_; intro _))
    exact ⟨trivial, _, rfl, rfl⟩

end Go.Proofs.YtmmojhbboomgoaaGreat

