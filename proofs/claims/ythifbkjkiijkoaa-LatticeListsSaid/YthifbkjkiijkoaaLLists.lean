/-
  'bonsailaw11.LatticeLists' is true at every input: the walk.
-/
import Derived.Test.YthifbkjkiijkoaaTm
import Derived.Test.YthifbkjkiijkoaaLat2
import Derived.Test.YthifbkjkiijkoaaEvArgA
namespace Go.Proofs.Ythifbkjkiijkoaa
open Go.Ev Go.Ev.Wk
set_option linter.unusedVariables false
set_option linter.unusedSimpArgs false
variable {O : Old}


def lawT (s : List UInt8) : List Typ := ((List.range 256).map fun n => ofT n s).eraseDups
theorem lawTA : ∀ n < 256, ofT n [65] ∈ lawT [65] := by decide +kernel
theorem lawTB : ∀ n < 256, ofT n [66] ∈ lawT [66] := by decide +kernel
theorem lists_law : ∀ (m6 : Bool), ∀ a ∈ lawT [65], ∀ b ∈ lawT [66], joinT (tmA m6) b a = joinT (tmA m6) a b := by decide +kernel

def liA (l : List Int) : List Typ := l.map fun z => ofT z.toNat [65]
def liB (l : List Int) (t : Nat) : List Typ := (List.range l.length).map fun i => ofT ((l[(i + t) % l.length]?.getD 0).toNat) [66]

theorem liA_succ {l : List Int} {i : Nat} {z : Int} (h : l[i]? = some z) : (liA l).take (i + 1) = (liA l).take i ++ [ofT z.toNat [65]] := by
  rw [List.take_add_one, liA, List.getElem?_map, h]; rfl
theorem liB_get {l : List Int} {t i : Nat} {z : Int} (hi : i < l.length) (h : l[(i + t) % l.length]? = some z) : (liB l t)[i]? = some (ofT z.toNat [66]) := by
  rw [liB, List.getElem?_map, List.getElem?_range hi, Option.map_some, h]; rfl
theorem liB_succ {l : List Int} {t i : Nat} {z : Int} (hi : i < l.length) (h : l[(i + t) % l.length]? = some z) : (liB l t).take (i + 1) = (liB l t).take i ++ [ofT z.toNat [66]] := by
  rw [List.take_add_one, liB_get hi h]; rfl
theorem liA_len (l : List Int) : (liA l).length = l.length := by simp [liA]
theorem liB_len (l : List Int) (t : Nat) : (liB l t).length = l.length := by simp [liB]

theorem liA_mem {l : List Int} (hlw : ∀ z ∈ l, 0 ≤ z ∧ z ≤ 255) : ∀ x ∈ liA l, x ∈ lawT [65] := fun x hx => by
  obtain ⟨z, hz, rfl⟩ := List.mem_map.1 hx
  have := hlw z hz
  exact lawTA _ (by omega)
theorem liB_mem {l : List Int} {t : Nat} (hlw : ∀ z ∈ l, 0 ≤ z ∧ z ≤ 255) : ∀ x ∈ liB l t, x ∈ lawT [66] := fun x hx => by
  obtain ⟨i, hi, rfl⟩ := List.mem_map.1 hx
  have hi : i < l.length := List.mem_range.1 hi
  have hm : (i + t) % l.length < l.length := Nat.mod_lt _ (by omega)
  rw [List.getElem?_eq_getElem hm, Option.getD_some]
  have := hlw _ (List.getElem_mem hm)
  exact lawTB _ (by omega)
theorem allT_comm {m6 : Bool} : ∀ {a b : List Typ}, (∀ x ∈ a, x ∈ lawT [65]) → (∀ x ∈ b, x ∈ lawT [66]) → allT (tmA m6) b a = allT (tmA m6) a b
  | [], [], _, _ => rfl
  | [], _ :: _, _, _ => rfl
  | _ :: _, [], _, _ => rfl
  | x :: a, y :: b, ha, hb => by
    simp only [allT]
    rw [lists_law m6 x (ha _ (.head _)) y (hb _ (.head _)), allT_comm (fun z hz => ha z (.tail _ hz)) (fun z hz => hb z (.tail _ hz))]

theorem allT_get {m : TM} : ∀ {l r : List Typ} {i : Nat} {a b : Typ}, l[i]? = some a → r[i]? = some b → (allT m l r)[i]? = some (joinT m a b)
  | [], _, _, _, _, h, _ => by cases h
  | _ :: _, [], _, _, _, _, h => by cases h
  | x :: l, y :: r, 0, a, b, h1, h2 => by cases h1; cases h2; rfl
  | x :: l, y :: r, i + 1, a, b, h1, h2 => allT_get (l := l) (r := r) (i := i) h1 h2

set_option maxHeartbeats 32000000 in
set_option maxRecDepth 100000 in
theorem latticeLists_walk {k0 k1 k2 k3 u : Int} {al : Option Addr} {nl cl0 : Nat} {l : List Int} {longer : Bool} (h0 : 0 ≤ k0 ∧ k0 ≤ 255) (h1 : 0 ≤ k1 ∧ k1 ≤ 255) (h2 : 0 ≤ k2 ∧ k2 ≤ 255) (h3 : 0 ≤ k3 ∧ k3 ≤ 255) (hl : ∀ H, Sl O H (.slice al nl cl0) 1 nl (l.map (.int .u8))) (hlw : ∀ z ∈ l, 0 ≤ z ∧ z ≤ 255) (hu : 0 ≤ u ∧ u ≤ 255) :
    CallC TT O 7 [.agg #[.int .u8 k0, .int .u8 k1, .int .u8 k2, .int .u8 k3], .slice al nl cl0, .int .u8 u, .bool longer] .empty fun v H' => v = .bool true ∧ Ext .empty H' := by
  obtain ⟨t, rfl⟩ := Int.eq_ofNat_of_zero_le hu.1
  have hll : l.length = nl := by have := (hl .empty).1; simpa using this
  refine call_pure rfl rfl rfl rfl rfl ?_
  repeat (first
      | (refine exec_more ?_; first
          | refine exec_seq ?_
          | refine exec_region ?_
          | refine exec_block ?_
          | refine exec_skip ?_
          | refine exec_exit ?_
          | refine exec_ret ?_
          | refine exec_true rfl ?_
          | refine exec_false rfl ?_)
      | refine ops_nil ?_
      | (refine ops_more ?_; first
          | (apply ops_pl rfl rfl rfl ?_ rfl ?_; rotate_left; focus first | exact (.bld rfl rfl rfl rfl) | exact (.cat rfl rfl rfl (by first | (simp; done) | (simp; omega))) | exact (.neSelf rfl rfl rfl rfl) | exact (.eqSelf rfl rfl rfl rfl) | exact (.wr64 rfl rfl (by omega) (by omega)) | exact (.p rfl rfl) | exact (.cv64 rfl (fun _ => rfl) (by omega) (by omega)) | exact (.l rfl (fun _ _ => rfl)) | exact (.l rfl (look_own 0 rfl rfl rfl rfl)) | exact (.l rfl (look_own 1 rfl rfl rfl rfl)) | exact (.l rfl (look_own 2 rfl rfl rfl rfl)) | exact (.l rfl (look_agg 0 rfl rfl rfl rfl)) | exact (.l rfl (look_agg 1 rfl rfl rfl rfl)))
          | refine ops_skip rfl rfl rfl ?_
          | (refine ops_step rfl rfl rfl ?_; first | (refine step_box rfl rfl rfl (fun _ => ?_)) | (refine step_alloc rfl rfl rfl rfl (fun _ => ?_)) | (refine step_buildSliceF rfl rfl rfl rfl rfl rfl (fun _ => ?_)) | (refine step_map rfl (fun _ => ?_)) | (refine step_storeZ 0 rfl rfl rfl rfl rfl rfl rfl rfl rfl ?_))))
  refine ops_step rfl rfl rfl (step_call_pure rfl rfl rfl (fun H hs => call_known rfl) ?_)
  repeat (first
      | (refine exec_more ?_; first
          | refine exec_seq ?_
          | refine exec_region ?_
          | refine exec_block ?_
          | refine exec_skip ?_
          | refine exec_exit ?_
          | refine exec_ret ?_
          | refine exec_true rfl ?_
          | refine exec_false rfl ?_)
      | refine ops_nil ?_
      | (refine ops_more ?_; first
          | (apply ops_pl rfl rfl rfl ?_ rfl ?_; rotate_left; focus first | exact (.bld rfl rfl rfl rfl) | exact (.cat rfl rfl rfl (by first | (simp; done) | (simp; omega))) | exact (.neSelf rfl rfl rfl rfl) | exact (.eqSelf rfl rfl rfl rfl) | exact (.wr64 rfl rfl (by omega) (by omega)) | exact (.p rfl rfl) | exact (.cv64 rfl (fun _ => rfl) (by omega) (by omega)) | exact (.l rfl (fun _ _ => rfl)) | exact (.l rfl (look_own 0 rfl rfl rfl rfl)) | exact (.l rfl (look_own 1 rfl rfl rfl rfl)) | exact (.l rfl (look_own 2 rfl rfl rfl rfl)) | exact (.l rfl (look_agg 0 rfl rfl rfl rfl)) | exact (.l rfl (look_agg 1 rfl rfl rfl rfl)))
          | refine ops_skip rfl rfl rfl ?_
          | (refine ops_step rfl rfl rfl ?_; first | (refine step_box rfl rfl rfl (fun _ => ?_)) | (refine step_alloc rfl rfl rfl rfl (fun _ => ?_)) | (refine step_buildSliceF rfl rfl rfl rfl rfl rfl (fun _ => ?_)) | (refine step_map rfl (fun _ => ?_)) | (refine step_storeZ 0 rfl rfl rfl rfl rfl rfl rfl rfl rfl ?_))))
  cases h20 : decide ((nl : Int) > 20)
  rotate_left
  · repeat (first
        | (refine exec_more ?_; first
            | refine exec_seq ?_
            | refine exec_region ?_
            | refine exec_block ?_
            | refine exec_skip ?_
            | refine exec_exit ?_
            | refine exec_ret ?_
            | refine exec_true rfl ?_
            | refine exec_false rfl ?_)
        | refine ops_nil ?_
        | (refine ops_more ?_; first
            | (apply ops_pl rfl rfl rfl ?_ rfl ?_; rotate_left; focus first | exact (.bld rfl rfl rfl rfl) | exact (.cat rfl rfl rfl (by first | (simp; done) | (simp; omega))) | exact (.neSelf rfl rfl rfl rfl) | exact (.eqSelf rfl rfl rfl rfl) | exact (.wr64 rfl rfl (by omega) (by omega)) | exact (.p rfl rfl) | exact (.cv64 rfl (fun _ => rfl) (by omega) (by omega)) | exact (.l rfl (fun _ _ => rfl)) | exact (.l rfl (look_own 0 rfl rfl rfl rfl)) | exact (.l rfl (look_own 1 rfl rfl rfl rfl)) | exact (.l rfl (look_own 2 rfl rfl rfl rfl)) | exact (.l rfl (look_agg 0 rfl rfl rfl rfl)) | exact (.l rfl (look_agg 1 rfl rfl rfl rfl)))
            | refine ops_skip rfl rfl rfl ?_
            | (refine ops_step rfl rfl rfl ?_; first | (refine step_box rfl rfl rfl (fun _ => ?_)) | (refine step_alloc rfl rfl rfl rfl (fun _ => ?_)) | (refine step_buildSliceF rfl rfl rfl rfl rfl rfl (fun _ => ?_)) | (refine step_map rfl (fun _ => ?_)) | (refine step_storeZ 0 rfl rfl rfl rfl rfl rfl rfl rfl rfl ?_))))
    exact ⟨trivial, _, rfl, rfl⟩
  have hn20 : nl ≤ 20 := by have := of_decide_eq_false h20; omega
  repeat (first
      | (refine exec_more ?_; first
          | refine exec_seq ?_
          | refine exec_region ?_
          | refine exec_block ?_
          | refine exec_skip ?_
          | refine exec_exit ?_
          | refine exec_ret ?_
          | refine exec_true rfl ?_
          | refine exec_false rfl ?_)
      | refine ops_nil ?_
      | (refine ops_more ?_; first
          | (apply ops_pl rfl rfl rfl ?_ rfl ?_; rotate_left; focus first | exact (.bld rfl rfl rfl rfl) | exact (.cat rfl rfl rfl (by first | (simp; done) | (simp; omega))) | exact (.neSelf rfl rfl rfl rfl) | exact (.eqSelf rfl rfl rfl rfl) | exact (.wr64 rfl rfl (by omega) (by omega)) | exact (.p rfl rfl) | exact (.cv64 rfl (fun _ => rfl) (by omega) (by omega)) | exact (.l rfl (fun _ _ => rfl)) | exact (.l rfl (look_own 0 rfl rfl rfl rfl)) | exact (.l rfl (look_own 1 rfl rfl rfl rfl)) | exact (.l rfl (look_own 2 rfl rfl rfl rfl)) | exact (.l rfl (look_agg 0 rfl rfl rfl rfl)) | exact (.l rfl (look_agg 1 rfl rfl rfl rfl)))
          | refine ops_skip rfl rfl rfl ?_
          | (refine ops_step rfl rfl rfl ?_; first | (refine step_box rfl rfl rfl (fun _ => ?_)) | (refine step_alloc rfl rfl rfl rfl (fun _ => ?_)) | (refine step_buildSliceF rfl rfl rfl rfl rfl rfl (fun _ => ?_)) | (refine step_map rfl (fun _ => ?_)) | (refine step_storeZ 0 rfl rfl rfl rfl rfl rfl rfl rfl rfl ?_))))
  refine ops_step rfl rfl rfl (step_call_fp [] _ rfl rfl rfl (List.Perm.refl _) (fun H hs hst => seatArchive_ok hst h0 h1 h2 h3) (fun v F' h => ?_))
  obtain ⟨aa, ac, m6, kd, c4, c5, c6, c7, c8, c9, c11, c12, c13, c14, c15, c16, c17, cl, rfl, hF, hper, hR, hZ⟩ := h
  have hm := tmA_ok (arc_entG hF hR hper)
  have hl13 : cl.length = 13 := by rw [hper.length_eq]; rfl
  refine ops_step rfl rfl rfl (step_call_fp [] _ rfl rfl rfl (List.Perm.refl _) (fun H hs hst => new_ok hst hl13 (by omega) ((hZ.mono (List.sublist_append_left _ _)).pure hs)) (fun v F2 h => ?_))
  obtain ⟨tb, mb, es, rfl, rfl, hsay⟩ := h
  obtain ⟨A, hA⟩ : ∃ A : Atoms, A = (some tb, .cells 0 [.map (some mb), .slice aa 13 ac] 0 78) :: (some mb, .map es) :: F' := ⟨_, rfl⟩
  have hT : Rd A fun H => TreeH O H tb mb (.slice aa 13 ac) (gOf cl) := fun X' H0' H' hst' => (hZ.at (hst'.sublist (by rw [hA]; exact List.Sublist.cons _ (List.Sublist.cons _ (List.Sublist.refl _))))).tree (fun c h => h) (hst'.has _ _ (by rw [hA]; simp)) (hst'.has _ _ (by rw [hA]; simp)) hsay
  refine OpsS.weak (pickE_sub (ks := [1, 2, 3, 29]) rfl) (L' := A) (by rw [hA]; exact List.Sublist.cons_cons _ (List.Sublist.cons_cons _ (List.sublist_append_left _ _))) ?_
  clear hA hsay hZ hR hper hF hl13
  generalize gOf cl = g at hm hT
  repeat (first
      | (refine exec_more ?_; first
          | refine exec_seq ?_
          | refine exec_region ?_
          | refine exec_block ?_
          | refine exec_skip ?_
          | refine exec_exit ?_
          | refine exec_ret ?_
          | refine exec_true rfl ?_
          | refine exec_false rfl ?_)
      | refine ops_nil ?_
      | (refine ops_more ?_; first
          | (apply ops_pl rfl rfl rfl ?_ rfl ?_; rotate_left; focus first | exact (.bld rfl rfl rfl rfl) | exact (.cat rfl rfl rfl (by first | (simp; done) | (simp; omega))) | exact (.neSelf rfl rfl rfl rfl) | exact (.eqSelf rfl rfl rfl rfl) | exact (.wr64 rfl rfl (by omega) (by omega)) | exact (.p rfl rfl) | exact (.cv64 rfl (fun _ => rfl) (by omega) (by omega)) | exact (.l rfl (fun _ _ => rfl)) | exact (.l rfl (look_own 0 rfl rfl rfl rfl)) | exact (.l rfl (look_own 1 rfl rfl rfl rfl)) | exact (.l rfl (look_own 2 rfl rfl rfl rfl)) | exact (.l rfl (look_agg 0 rfl rfl rfl rfl)) | exact (.l rfl (look_agg 1 rfl rfl rfl rfl)))
          | refine ops_skip rfl rfl rfl ?_
          | (refine ops_step rfl rfl rfl ?_; first | (refine step_box rfl rfl rfl (fun _ => ?_)) | (refine step_alloc rfl rfl rfl rfl (fun _ => ?_)) | (refine step_buildSliceF rfl rfl rfl rfl rfl rfl (fun _ => ?_)) | (refine step_map rfl (fun _ => ?_)) | (refine step_storeZ 0 rfl rfl rfl rfl rfl rfl rfl rfl rfl ?_))))
  refine ExecS.ghost (ExecS.ghost ?_)
  refine ExecS.weak (E' := [(1, .slice al nl cl0), (2, .int .u8 (t : Int)), (3, .bool longer), (9, ptr tb), (10, .slice none 0 0), (11, .slice none 0 0), (12, .int .i64 ((0 : Nat) : Int))]) ⟨rfl, rfl, rfl, rfl, rfl, rfl, rfl, trivial⟩ (List.Sublist.refl _) ?_
  refine exec_loop (fun k E L => ∃ (i : Nat) (xa : Option Addr) (xn xc : Nat) (ya : Option Addr) (yn yc : Nat) (pa pb : Option Nat × Cont), i + k = nl ∧ E = [(1, .slice al nl cl0), (2, .int .u8 (t : Int)), (3, .bool longer), (9, ptr tb), (10, .slice xa xn xc), (11, .slice ya yn yc), (12, .int .i64 (i : Int))] ∧ L = pa :: pb :: A ∧ OwnA 2 35 xa xn xc (typC ((liA l).take i)) pa ∧ OwnA 2 35 ya yn yc (typC ((liB l t).take i)) pb) ?_ nl _ _ ⟨0, none, 0, 0, none, 0, 0, _, _, by omega, rfl, rfl, .nil _, .nil _⟩
  rintro k E L ⟨i, xa, xn, xc, ya, yn, yc, pa, pb, hik, rfl, rfl, owna, ownb⟩
  have hxn : xn = i := by have := owna.len; rw [typC_length, List.length_take, liA_len] at this; omega
  have hyn : yn = i := by have := ownb.len; rw [typC_length, List.length_take, liB_len] at this; omega
  repeat (first
      | (refine exec_more ?_; first
          | refine exec_seq ?_
          | refine exec_region ?_
          | refine exec_block ?_
          | refine exec_skip ?_
          | refine exec_exit ?_
          | refine exec_ret ?_
          | refine exec_true rfl ?_
          | refine exec_false rfl ?_)
      | refine ops_nil ?_
      | (refine ops_more ?_; first
          | (apply ops_pl rfl rfl rfl ?_ rfl ?_; rotate_left; focus first | exact (.bld rfl rfl rfl rfl) | exact (.cat rfl rfl rfl (by first | (simp; done) | (simp; omega))) | exact (.neSelf rfl rfl rfl rfl) | exact (.eqSelf rfl rfl rfl rfl) | exact (.wr64 rfl rfl (by omega) (by omega)) | exact (.p rfl rfl) | exact (.cv64 rfl (fun _ => rfl) (by omega) (by omega)) | exact (.l rfl (fun _ _ => rfl)) | exact (.l rfl (look_own 0 rfl rfl rfl rfl)) | exact (.l rfl (look_own 1 rfl rfl rfl rfl)) | exact (.l rfl (look_own 2 rfl rfl rfl rfl)) | exact (.l rfl (look_agg 0 rfl rfl rfl rfl)) | exact (.l rfl (look_agg 1 rfl rfl rfl rfl)))
          | refine ops_skip rfl rfl rfl ?_
          | (refine ops_step rfl rfl rfl ?_; first | (refine step_box rfl rfl rfl (fun _ => ?_)) | (refine step_alloc rfl rfl rfl rfl (fun _ => ?_)) | (refine step_buildSliceF rfl rfl rfl rfl rfl rfl (fun _ => ?_)) | (refine step_map rfl (fun _ => ?_)) | (refine step_storeZ 0 rfl rfl rfl rfl rfl rfl rfl rfl rfl ?_))))
  refine exec_cond rfl (fun hlt => ?_) (fun hge => ?_)
  · have hi : i < nl := by simp at hlt; omega
    have hlt2 : (i + t) % nl < nl := Nat.mod_lt _ (by omega)
    obtain ⟨z, hz⟩ : ∃ z, l[i]? = some z := ⟨_, List.getElem?_eq_getElem (by omega)⟩
    obtain ⟨w, hw⟩ : ∃ w, l[(i + t) % nl]? = some w := ⟨_, List.getElem?_eq_getElem (by omega)⟩
    have hzw := hlw z (List.mem_of_getElem? hz)
    have hww := hlw w (List.mem_of_getElem? hw)
    have hgm : (l.map (Value.int .u8))[i]? = some (.int .u8 z) := by rw [List.getElem?_map, hz]; rfl
    have hgw : (l.map (Value.int .u8))[(i + t) % nl]? = some (.int .u8 w) := by rw [List.getElem?_map, hw]; rfl
    obtain ⟨nz, rfl⟩ := Int.eq_ofNat_of_zero_le hzw.1
    obtain ⟨nw, rfl⟩ := Int.eq_ofNat_of_zero_le hww.1
    repeat (first
        | (refine exec_more ?_; first
            | refine exec_seq ?_
            | refine exec_region ?_
            | refine exec_block ?_
            | refine exec_skip ?_
            | refine exec_exit ?_
            | refine exec_ret ?_
            | refine exec_true rfl ?_
            | refine exec_false rfl ?_)
        | refine ops_nil ?_
        | (refine ops_more ?_; first
            | (apply ops_pl rfl rfl rfl ?_ rfl ?_; rotate_left; focus first | exact (.bld rfl rfl rfl rfl) | exact (.cat rfl rfl rfl (by first | (simp; done) | (simp; omega))) | exact (.neSelf rfl rfl rfl rfl) | exact (.eqSelf rfl rfl rfl rfl) | exact (.wr64 rfl rfl (by omega) (by omega)) | exact (.p rfl rfl) | exact (.cv64 rfl (fun _ => rfl) (by omega) (by omega)) | exact (.l rfl (fun _ _ => rfl)) | exact (.l rfl (look_own 0 rfl rfl rfl rfl)) | exact (.l rfl (look_own 1 rfl rfl rfl rfl)) | exact (.l rfl (look_own 2 rfl rfl rfl rfl)) | exact (.l rfl (look_agg 0 rfl rfl rfl rfl)) | exact (.l rfl (look_agg 1 rfl rfl rfl rfl)))
            | refine ops_skip rfl rfl rfl ?_
            | (refine ops_step rfl rfl rfl ?_; first | (refine step_box rfl rfl rfl (fun _ => ?_)) | (refine step_alloc rfl rfl rfl rfl (fun _ => ?_)) | (refine step_buildSliceF rfl rfl rfl rfl rfl rfl (fun _ => ?_)) | (refine step_map rfl (fun _ => ?_)) | (refine step_storeZ 0 rfl rfl rfl rfl rfl rfl rfl rfl rfl ?_))))
    refine exec_draw (lst := [(0, 0), (1, 0), (2, 0), (3, 6), (4, 14), (8, 0), (9, 0), (10, 0), (11, 0), (12, 2048), (13, 7168), (14, 0), (15, 16384), (16, 64512), (17, 130560), (18, 261632), (5, 30), (6, 62), (7, 127), (19, 524031), (20, 1048319), (21, 2097151), (22, 4194303), (23, 8388607)]) (full := 16777215) (by kernel_rfl) (by kernel_rfl) (by kernel_rfl) (by kernel_rfl) ?_
    repeat (first
        | (refine draw_more ?_; first
            | (apply draw_pl rfl rfl rfl rfl ?_ rfl rfl ?_; rotate_left; focus first | exact (.bld rfl rfl rfl rfl) | exact (.cat rfl rfl rfl (by first | (simp; done) | (simp; omega))) | exact (.neSelf rfl rfl rfl rfl) | exact (.eqSelf rfl rfl rfl rfl) | exact (.wr64 rfl rfl (by omega) (by omega)) | exact (.p rfl rfl) | exact (.cv64 rfl (fun _ => rfl) (by omega) (by omega)) | exact (.l rfl (fun _ _ => rfl)) | exact (.l rfl (look_own 0 rfl rfl rfl rfl)) | exact (.l rfl (look_own 1 rfl rfl rfl rfl)) | exact (.l rfl (look_own 2 rfl rfl rfl rfl)) | exact (.l rfl (look_agg 0 rfl rfl rfl rfl)) | exact (.l rfl (look_agg 1 rfl rfl rfl rfl)))
            | refine draw_skip rfl rfl rfl rfl ?_))
    try refine draw_nil ?_
    first | refine ops_pl rfl rfl rfl (.p rfl (opP_idx rfl rfl (hl Heap.empty) rfl rfl (by omega) (by omega))) rfl ?_ | refine draw_pl rfl rfl rfl rfl (.p rfl (opP_idx rfl rfl (hl Heap.empty) rfl rfl (by omega) (by omega))) rfl rfl ?_
    first | refine ops_pl rfl rfl rfl (.l rfl (fun H hs => opL_load rfl ((hl H).ld rfl hgm))) rfl ?_ | refine draw_pl rfl rfl rfl rfl (.l rfl (fun H hs => opL_load rfl ((hl H).ld rfl hgm))) rfl rfl ?_
    repeat (first
        | (refine draw_more ?_; first
            | (apply draw_pl rfl rfl rfl rfl ?_ rfl rfl ?_; rotate_left; focus first | exact (.bld rfl rfl rfl rfl) | exact (.cat rfl rfl rfl (by first | (simp; done) | (simp; omega))) | exact (.neSelf rfl rfl rfl rfl) | exact (.eqSelf rfl rfl rfl rfl) | exact (.wr64 rfl rfl (by omega) (by omega)) | exact (.p rfl rfl) | exact (.cv64 rfl (fun _ => rfl) (by omega) (by omega)) | exact (.l rfl (fun _ _ => rfl)) | exact (.l rfl (look_own 0 rfl rfl rfl rfl)) | exact (.l rfl (look_own 1 rfl rfl rfl rfl)) | exact (.l rfl (look_own 2 rfl rfl rfl rfl)) | exact (.l rfl (look_agg 0 rfl rfl rfl rfl)) | exact (.l rfl (look_agg 1 rfl rfl rfl rfl)))
            | refine draw_skip rfl rfl rfl rfl ?_))
    try refine draw_nil ?_
    first | refine ops_pl rfl rfl rfl (.rem (b := (nl : Int)) rfl rfl rfl rfl (by omega) (show ((i : Int) + (t : Int)).tmod (nl : Int) = (((i + t) % nl : Nat) : Int) from by rw [tmodN (m := nl) (by omega) rfl, show ((i : Int) + (t : Int)).toNat = i + t from by omega])) rfl ?_ | refine draw_pl rfl rfl rfl rfl (.rem (b := (nl : Int)) rfl rfl rfl rfl (by omega) (show ((i : Int) + (t : Int)).tmod (nl : Int) = (((i + t) % nl : Nat) : Int) from by rw [tmodN (m := nl) (by omega) rfl, show ((i : Int) + (t : Int)).toNat = i + t from by omega])) rfl rfl ?_
    repeat (first
        | (refine draw_more ?_; first
            | (apply draw_pl rfl rfl rfl rfl ?_ rfl rfl ?_; rotate_left; focus first | exact (.bld rfl rfl rfl rfl) | exact (.cat rfl rfl rfl (by first | (simp; done) | (simp; omega))) | exact (.neSelf rfl rfl rfl rfl) | exact (.eqSelf rfl rfl rfl rfl) | exact (.wr64 rfl rfl (by omega) (by omega)) | exact (.p rfl rfl) | exact (.cv64 rfl (fun _ => rfl) (by omega) (by omega)) | exact (.l rfl (fun _ _ => rfl)) | exact (.l rfl (look_own 0 rfl rfl rfl rfl)) | exact (.l rfl (look_own 1 rfl rfl rfl rfl)) | exact (.l rfl (look_own 2 rfl rfl rfl rfl)) | exact (.l rfl (look_agg 0 rfl rfl rfl rfl)) | exact (.l rfl (look_agg 1 rfl rfl rfl rfl)))
            | refine draw_skip rfl rfl rfl rfl ?_))
    try refine draw_nil ?_
    first | refine ops_pl rfl rfl rfl (.p rfl (opP_idx rfl rfl (hl Heap.empty) rfl rfl (by omega) (by omega))) rfl ?_ | refine draw_pl rfl rfl rfl rfl (.p rfl (opP_idx rfl rfl (hl Heap.empty) rfl rfl (by omega) (by omega))) rfl rfl ?_
    first | refine ops_pl rfl rfl rfl (.l rfl (fun H hs => opL_load rfl ((hl H).ld rfl hgw))) rfl ?_ | refine draw_pl rfl rfl rfl rfl (.l rfl (fun H hs => opL_load rfl ((hl H).ld rfl hgw))) rfl rfl ?_
    repeat (first
        | (refine draw_more ?_; first
            | (apply draw_pl rfl rfl rfl rfl ?_ rfl rfl ?_; rotate_left; focus first | exact (.bld rfl rfl rfl rfl) | exact (.cat rfl rfl rfl (by first | (simp; done) | (simp; omega))) | exact (.neSelf rfl rfl rfl rfl) | exact (.eqSelf rfl rfl rfl rfl) | exact (.wr64 rfl rfl (by omega) (by omega)) | exact (.p rfl rfl) | exact (.cv64 rfl (fun _ => rfl) (by omega) (by omega)) | exact (.l rfl (fun _ _ => rfl)) | exact (.l rfl (look_own 0 rfl rfl rfl rfl)) | exact (.l rfl (look_own 1 rfl rfl rfl rfl)) | exact (.l rfl (look_own 2 rfl rfl rfl rfl)) | exact (.l rfl (look_agg 0 rfl rfl rfl rfl)) | exact (.l rfl (look_agg 1 rfl rfl rfl rfl)))
            | refine draw_skip rfl rfl rfl rfl ?_))
    try refine draw_nil ?_
    have hcv : ∀ v, v = some (Value.int .i64 (IntKind.i64.wrap (t : Int))) → v = some (.int .i64 (t : Int)) := fun v h => by rw [h, w64 rfl (by omega) (by omega)]
    skip
    refine draw_w rfl rfl rfl rfl rfl rfl (step_call_pure rfl rfl rfl (fun H hs => lawOf_ok (n := nz) (s := [65]) (by omega)) ⟨by repeat (first | exact True.intro | refine And.intro (.inl rfl) ?_ | refine And.intro (.inr ⟨veq_refl rfl, (fun H hs => hcv _ rfl)⟩) ?_ | refine And.intro (.inr ⟨veq_refl rfl, (fun H hs => opL_load rfl ((hl H).ld rfl hgm))⟩) ?_ | refine And.intro (.inr ⟨veq_refl rfl, (fun H hs => opL_load rfl ((hl H).ld rfl hgw))⟩) ?_ | refine And.intro (.inr ⟨veq_refl rfl, (fun _ _ => rfl)⟩) ?_ | refine And.intro (.inr ⟨veq_refl rfl, (look_own 0 rfl rfl rfl rfl)⟩) ?_ | refine And.intro (.inr ⟨veq_refl rfl, (look_own 1 rfl rfl rfl rfl)⟩) ?_ | refine And.intro (.inr ⟨veq_refl rfl, (look_own 2 rfl rfl rfl rfl)⟩) ?_ | refine And.intro (.inr ⟨veq_refl rfl, (look_agg 0 rfl rfl rfl rfl)⟩) ?_ | refine And.intro (.inr ⟨veq_refl rfl, (look_agg 1 rfl rfl rfl rfl)⟩) ?_), ?_⟩)
    repeat (first
        | (refine draw_more ?_; first
            | (apply draw_pl rfl rfl rfl rfl ?_ rfl rfl ?_; rotate_left; focus first | exact (.bld rfl rfl rfl rfl) | exact (.cat rfl rfl rfl (by first | (simp; done) | (simp; omega))) | exact (.neSelf rfl rfl rfl rfl) | exact (.eqSelf rfl rfl rfl rfl) | exact (.wr64 rfl rfl (by omega) (by omega)) | exact (.p rfl rfl) | exact (.cv64 rfl (fun _ => rfl) (by omega) (by omega)) | exact (.l rfl (fun _ _ => rfl)) | exact (.l rfl (look_own 0 rfl rfl rfl rfl)) | exact (.l rfl (look_own 1 rfl rfl rfl rfl)) | exact (.l rfl (look_own 2 rfl rfl rfl rfl)) | exact (.l rfl (look_agg 0 rfl rfl rfl rfl)) | exact (.l rfl (look_agg 1 rfl rfl rfl rfl)))
            | refine draw_skip rfl rfl rfl rfl ?_))
    try refine draw_nil ?_
    refine draw_a rfl rfl rfl rfl rfl (step_buildSliceF rfl rfl rfl rfl rfl rfl (fun sb => ⟨by repeat (first | exact True.intro | refine And.intro (.inl rfl) ?_ | refine And.intro (.inr ⟨veq_refl rfl, (fun H hs => hcv _ rfl)⟩) ?_ | refine And.intro (.inr ⟨veq_refl rfl, (fun H hs => opL_load rfl ((hl H).ld rfl hgm))⟩) ?_ | refine And.intro (.inr ⟨veq_refl rfl, (fun H hs => opL_load rfl ((hl H).ld rfl hgw))⟩) ?_ | refine And.intro (.inr ⟨veq_refl rfl, (fun _ _ => rfl)⟩) ?_ | refine And.intro (.inr ⟨veq_refl rfl, (look_own 0 rfl rfl rfl rfl)⟩) ?_ | refine And.intro (.inr ⟨veq_refl rfl, (look_own 1 rfl rfl rfl rfl)⟩) ?_ | refine And.intro (.inr ⟨veq_refl rfl, (look_own 2 rfl rfl rfl rfl)⟩) ?_ | refine And.intro (.inr ⟨veq_refl rfl, (look_agg 0 rfl rfl rfl rfl)⟩) ?_ | refine And.intro (.inr ⟨veq_refl rfl, (look_agg 1 rfl rfl rfl rfl)⟩) ?_), ?_⟩))
    repeat (first
        | (refine draw_more ?_; first
            | (apply draw_pl rfl rfl rfl rfl ?_ rfl rfl ?_; rotate_left; focus first | exact (.bld rfl rfl rfl rfl) | exact (.cat rfl rfl rfl (by first | (simp; done) | (simp; omega))) | exact (.neSelf rfl rfl rfl rfl) | exact (.eqSelf rfl rfl rfl rfl) | exact (.wr64 rfl rfl (by omega) (by omega)) | exact (.p rfl rfl) | exact (.cv64 rfl (fun _ => rfl) (by omega) (by omega)) | exact (.l rfl (fun _ _ => rfl)) | exact (.l rfl (look_own 0 rfl rfl rfl rfl)) | exact (.l rfl (look_own 1 rfl rfl rfl rfl)) | exact (.l rfl (look_own 2 rfl rfl rfl rfl)) | exact (.l rfl (look_agg 0 rfl rfl rfl rfl)) | exact (.l rfl (look_agg 1 rfl rfl rfl rfl)))
            | refine draw_skip rfl rfl rfl rfl ?_))
    try refine draw_nil ?_
    refine draw_w rfl rfl rfl rfl rfl rfl (step_append 1 2 rfl rfl rfl rfl rfl rfl rfl rfl owna (fun H hs => src_own (j := 0) hs rfl rfl 1) rfl (by first | rfl | exact allCell_map (fun _ => rfl) _) (by first | rfl | (simp; done) | (simp; omega)) (by omega) (fun a2 c2 p2 own2 => ⟨by repeat (first | exact True.intro | refine And.intro (.inl rfl) ?_ | refine And.intro (.inr ⟨veq_refl rfl, (fun H hs => hcv _ rfl)⟩) ?_ | refine And.intro (.inr ⟨veq_refl rfl, (fun H hs => opL_load rfl ((hl H).ld rfl hgm))⟩) ?_ | refine And.intro (.inr ⟨veq_refl rfl, (fun H hs => opL_load rfl ((hl H).ld rfl hgw))⟩) ?_ | refine And.intro (.inr ⟨veq_refl rfl, (fun _ _ => rfl)⟩) ?_ | refine And.intro (.inr ⟨veq_refl rfl, (look_own 0 rfl rfl rfl rfl)⟩) ?_ | refine And.intro (.inr ⟨veq_refl rfl, (look_own 1 rfl rfl rfl rfl)⟩) ?_ | refine And.intro (.inr ⟨veq_refl rfl, (look_own 2 rfl rfl rfl rfl)⟩) ?_ | refine And.intro (.inr ⟨veq_refl rfl, (look_agg 0 rfl rfl rfl rfl)⟩) ?_ | refine And.intro (.inr ⟨veq_refl rfl, (look_agg 1 rfl rfl rfl rfl)⟩) ?_), ?_⟩))
    repeat (first
        | (refine draw_more ?_; first
            | (apply draw_pl rfl rfl rfl rfl ?_ rfl rfl ?_; rotate_left; focus first | exact (.bld rfl rfl rfl rfl) | exact (.cat rfl rfl rfl (by first | (simp; done) | (simp; omega))) | exact (.neSelf rfl rfl rfl rfl) | exact (.eqSelf rfl rfl rfl rfl) | exact (.wr64 rfl rfl (by omega) (by omega)) | exact (.p rfl rfl) | exact (.cv64 rfl (fun _ => rfl) (by omega) (by omega)) | exact (.l rfl (fun _ _ => rfl)) | exact (.l rfl (look_own 0 rfl rfl rfl rfl)) | exact (.l rfl (look_own 1 rfl rfl rfl rfl)) | exact (.l rfl (look_own 2 rfl rfl rfl rfl)) | exact (.l rfl (look_agg 0 rfl rfl rfl rfl)) | exact (.l rfl (look_agg 1 rfl rfl rfl rfl)))
            | refine draw_skip rfl rfl rfl rfl ?_))
    try refine draw_nil ?_
    refine draw_w rfl rfl rfl rfl rfl rfl (step_call_pure rfl rfl rfl (fun H hs => lawOf_ok (n := nw) (s := [66]) (by omega)) ⟨by repeat (first | exact True.intro | refine And.intro (.inl rfl) ?_ | refine And.intro (.inr ⟨veq_refl rfl, (fun H hs => hcv _ rfl)⟩) ?_ | refine And.intro (.inr ⟨veq_refl rfl, (fun H hs => opL_load rfl ((hl H).ld rfl hgm))⟩) ?_ | refine And.intro (.inr ⟨veq_refl rfl, (fun H hs => opL_load rfl ((hl H).ld rfl hgw))⟩) ?_ | refine And.intro (.inr ⟨veq_refl rfl, (fun _ _ => rfl)⟩) ?_ | refine And.intro (.inr ⟨veq_refl rfl, (look_own 0 rfl rfl rfl rfl)⟩) ?_ | refine And.intro (.inr ⟨veq_refl rfl, (look_own 1 rfl rfl rfl rfl)⟩) ?_ | refine And.intro (.inr ⟨veq_refl rfl, (look_own 2 rfl rfl rfl rfl)⟩) ?_ | refine And.intro (.inr ⟨veq_refl rfl, (look_agg 0 rfl rfl rfl rfl)⟩) ?_ | refine And.intro (.inr ⟨veq_refl rfl, (look_agg 1 rfl rfl rfl rfl)⟩) ?_), ?_⟩)
    repeat (first
        | (refine draw_more ?_; first
            | (apply draw_pl rfl rfl rfl rfl ?_ rfl rfl ?_; rotate_left; focus first | exact (.bld rfl rfl rfl rfl) | exact (.cat rfl rfl rfl (by first | (simp; done) | (simp; omega))) | exact (.neSelf rfl rfl rfl rfl) | exact (.eqSelf rfl rfl rfl rfl) | exact (.wr64 rfl rfl (by omega) (by omega)) | exact (.p rfl rfl) | exact (.cv64 rfl (fun _ => rfl) (by omega) (by omega)) | exact (.l rfl (fun _ _ => rfl)) | exact (.l rfl (look_own 0 rfl rfl rfl rfl)) | exact (.l rfl (look_own 1 rfl rfl rfl rfl)) | exact (.l rfl (look_own 2 rfl rfl rfl rfl)) | exact (.l rfl (look_agg 0 rfl rfl rfl rfl)) | exact (.l rfl (look_agg 1 rfl rfl rfl rfl)))
            | refine draw_skip rfl rfl rfl rfl ?_))
    try refine draw_nil ?_
    refine draw_a rfl rfl rfl rfl rfl (step_buildSliceF rfl rfl rfl rfl rfl rfl (fun sb => ⟨by repeat (first | exact True.intro | refine And.intro (.inl rfl) ?_ | refine And.intro (.inr ⟨veq_refl rfl, (fun H hs => hcv _ rfl)⟩) ?_ | refine And.intro (.inr ⟨veq_refl rfl, (fun H hs => opL_load rfl ((hl H).ld rfl hgm))⟩) ?_ | refine And.intro (.inr ⟨veq_refl rfl, (fun H hs => opL_load rfl ((hl H).ld rfl hgw))⟩) ?_ | refine And.intro (.inr ⟨veq_refl rfl, (fun _ _ => rfl)⟩) ?_ | refine And.intro (.inr ⟨veq_refl rfl, (look_own 0 rfl rfl rfl rfl)⟩) ?_ | refine And.intro (.inr ⟨veq_refl rfl, (look_own 1 rfl rfl rfl rfl)⟩) ?_ | refine And.intro (.inr ⟨veq_refl rfl, (look_own 2 rfl rfl rfl rfl)⟩) ?_ | refine And.intro (.inr ⟨veq_refl rfl, (look_agg 0 rfl rfl rfl rfl)⟩) ?_ | refine And.intro (.inr ⟨veq_refl rfl, (look_agg 1 rfl rfl rfl rfl)⟩) ?_), ?_⟩))
    repeat (first
        | (refine draw_more ?_; first
            | (apply draw_pl rfl rfl rfl rfl ?_ rfl rfl ?_; rotate_left; focus first | exact (.bld rfl rfl rfl rfl) | exact (.cat rfl rfl rfl (by first | (simp; done) | (simp; omega))) | exact (.neSelf rfl rfl rfl rfl) | exact (.eqSelf rfl rfl rfl rfl) | exact (.wr64 rfl rfl (by omega) (by omega)) | exact (.p rfl rfl) | exact (.cv64 rfl (fun _ => rfl) (by omega) (by omega)) | exact (.l rfl (fun _ _ => rfl)) | exact (.l rfl (look_own 0 rfl rfl rfl rfl)) | exact (.l rfl (look_own 1 rfl rfl rfl rfl)) | exact (.l rfl (look_own 2 rfl rfl rfl rfl)) | exact (.l rfl (look_agg 0 rfl rfl rfl rfl)) | exact (.l rfl (look_agg 1 rfl rfl rfl rfl)))
            | refine draw_skip rfl rfl rfl rfl ?_))
    try refine draw_nil ?_
    refine draw_w rfl rfl rfl rfl rfl rfl (step_append 3 2 rfl rfl rfl rfl rfl rfl rfl rfl ownb (fun H hs => src_own (j := 0) hs rfl rfl 1) rfl (by first | rfl | exact allCell_map (fun _ => rfl) _) (by first | rfl | (simp; done) | (simp; omega)) (by omega) (fun a3 c3 p3 own3 => ⟨by repeat (first | exact True.intro | refine And.intro (.inl rfl) ?_ | refine And.intro (.inr ⟨veq_refl rfl, (fun H hs => hcv _ rfl)⟩) ?_ | refine And.intro (.inr ⟨veq_refl rfl, (fun H hs => opL_load rfl ((hl H).ld rfl hgm))⟩) ?_ | refine And.intro (.inr ⟨veq_refl rfl, (fun H hs => opL_load rfl ((hl H).ld rfl hgw))⟩) ?_ | refine And.intro (.inr ⟨veq_refl rfl, (fun _ _ => rfl)⟩) ?_ | refine And.intro (.inr ⟨veq_refl rfl, (look_own 0 rfl rfl rfl rfl)⟩) ?_ | refine And.intro (.inr ⟨veq_refl rfl, (look_own 1 rfl rfl rfl rfl)⟩) ?_ | refine And.intro (.inr ⟨veq_refl rfl, (look_own 2 rfl rfl rfl rfl)⟩) ?_ | refine And.intro (.inr ⟨veq_refl rfl, (look_agg 0 rfl rfl rfl rfl)⟩) ?_ | refine And.intro (.inr ⟨veq_refl rfl, (look_agg 1 rfl rfl rfl rfl)⟩) ?_), ?_⟩))
    repeat (first
        | (refine draw_more ?_; first
            | (apply draw_pl rfl rfl rfl rfl ?_ rfl rfl ?_; rotate_left; focus first | exact (.bld rfl rfl rfl rfl) | exact (.cat rfl rfl rfl (by first | (simp; done) | (simp; omega))) | exact (.neSelf rfl rfl rfl rfl) | exact (.eqSelf rfl rfl rfl rfl) | exact (.wr64 rfl rfl (by omega) (by omega)) | exact (.p rfl rfl) | exact (.cv64 rfl (fun _ => rfl) (by omega) (by omega)) | exact (.l rfl (fun _ _ => rfl)) | exact (.l rfl (look_own 0 rfl rfl rfl rfl)) | exact (.l rfl (look_own 1 rfl rfl rfl rfl)) | exact (.l rfl (look_own 2 rfl rfl rfl rfl)) | exact (.l rfl (look_agg 0 rfl rfl rfl rfl)) | exact (.l rfl (look_agg 1 rfl rfl rfl rfl)))
            | refine draw_skip rfl rfl rfl rfl ?_))
    try refine draw_nil ?_
    repeat (first
        | (refine exec_more ?_; first
            | refine exec_seq ?_
            | refine exec_region ?_
            | refine exec_block ?_
            | refine exec_skip ?_
            | refine exec_exit ?_
            | refine exec_ret ?_
            | refine exec_true rfl ?_
            | refine exec_false rfl ?_)
        | refine ops_nil ?_
        | (refine ops_more ?_; first
            | (apply ops_pl rfl rfl rfl ?_ rfl ?_; rotate_left; focus first | exact (.bld rfl rfl rfl rfl) | exact (.cat rfl rfl rfl (by first | (simp; done) | (simp; omega))) | exact (.neSelf rfl rfl rfl rfl) | exact (.eqSelf rfl rfl rfl rfl) | exact (.wr64 rfl rfl (by omega) (by omega)) | exact (.p rfl rfl) | exact (.cv64 rfl (fun _ => rfl) (by omega) (by omega)) | exact (.l rfl (fun _ _ => rfl)) | exact (.l rfl (look_own 0 rfl rfl rfl rfl)) | exact (.l rfl (look_own 1 rfl rfl rfl rfl)) | exact (.l rfl (look_own 2 rfl rfl rfl rfl)) | exact (.l rfl (look_agg 0 rfl rfl rfl rfl)) | exact (.l rfl (look_agg 1 rfl rfl rfl rfl)))
            | refine ops_skip rfl rfl rfl ?_
            | (refine ops_step rfl rfl rfl ?_; first | (refine step_box rfl rfl rfl (fun _ => ?_)) | (refine step_alloc rfl rfl rfl rfl (fun _ => ?_)) | (refine step_buildSliceF rfl rfl rfl rfl rfl rfl (fun _ => ?_)) | (refine step_map rfl (fun _ => ?_)) | (refine step_storeZ 0 rfl rfl rfl rfl rfl rfl rfl rfl rfl ?_))))
    have hma := liA_succ (l := l) hz
    rw [Int.toNat_natCast] at hma
    have hmb := liB_succ (l := l) (t := t) (i := i) (by omega) (by rw [hll]; exact hw)
    rw [Int.toNat_natCast] at hmb
    have owna2 : OwnA 2 35 a2 (xn + 1) c2 (typC ((liA l).take (i + 1))) p2 := by rw [hma, typC_app]; exact own2
    have ownb2 : OwnA 2 35 a3 (yn + 1) c3 (typC ((liB l t).take (i + 1))) p3 := by rw [hmb, typC_app]; exact own3
    refine ⟨k - 1, by omega, _, _, ?_, by repeat first | exact List.Sublist.refl _ | apply List.Sublist.cons, i + 1, a2, xn + 1, c2, a3, yn + 1, c3, p2, p3, by omega, rfl, rfl, owna2, ownb2⟩
    exact ⟨rfl, rfl, rfl, rfl, rfl, rfl, rfl, trivial⟩
  have hin : i = nl := by simp at hge; omega
  subst hin
  rw [show (liA l).take i = liA l from List.take_of_length_le (by rw [liA_len]; omega)] at owna
  rw [show (liB l t).take i = liB l t from List.take_of_length_le (by rw [liB_len]; omega)] at ownb
  rw [hxn] at owna ⊢
  rw [hyn] at ownb ⊢
  repeat (first
      | (refine exec_more ?_; first
          | refine exec_seq ?_
          | refine exec_region ?_
          | refine exec_block ?_
          | refine exec_skip ?_
          | refine exec_exit ?_
          | refine exec_ret ?_
          | refine exec_true rfl ?_
          | refine exec_false rfl ?_)
      | refine ops_nil ?_
      | (refine ops_more ?_; first
          | (apply ops_pl rfl rfl rfl ?_ rfl ?_; rotate_left; focus first | exact (.bld rfl rfl rfl rfl) | exact (.cat rfl rfl rfl (by first | (simp; done) | (simp; omega))) | exact (.neSelf rfl rfl rfl rfl) | exact (.eqSelf rfl rfl rfl rfl) | exact (.wr64 rfl rfl (by omega) (by omega)) | exact (.p rfl rfl) | exact (.cv64 rfl (fun _ => rfl) (by omega) (by omega)) | exact (.l rfl (fun _ _ => rfl)) | exact (.l rfl (look_own 0 rfl rfl rfl rfl)) | exact (.l rfl (look_own 1 rfl rfl rfl rfl)) | exact (.l rfl (look_own 2 rfl rfl rfl rfl)) | exact (.l rfl (look_agg 0 rfl rfl rfl rfl)) | exact (.l rfl (look_agg 1 rfl rfl rfl rfl)))
          | refine ops_skip rfl rfl rfl ?_
          | (refine ops_step rfl rfl rfl ?_; first | (refine step_box rfl rfl rfl (fun _ => ?_)) | (refine step_alloc rfl rfl rfl rfl (fun _ => ?_)) | (refine step_buildSliceF rfl rfl rfl rfl rfl rfl (fun _ => ?_)) | (refine step_map rfl (fun _ => ?_)) | (refine step_storeZ 0 rfl rfl rfl rfl rfl rfl rfl rfl rfl ?_))))
  refine ops_step rfl rfl rfl (step_call_fp [] _ rfl rfl rfl (List.Perm.refl _) (fun H hs hst => all_ok hst hm ((hT.mono (by repeat first | exact List.Sublist.refl _ | apply List.Sublist.cons)).pure hs) (owna.slM hs (by simp)).toX (ownb.slM hs (by simp)).toX (by omega)) (fun v F' h => ?_))
  obtain ⟨ca, cn, cc, pc, rfl, rfl, ownc⟩ := h
  rw [if_pos rfl] at ownc
  rw [decide_eq_true rfl]
  repeat (first
      | (refine exec_more ?_; first
          | refine exec_seq ?_
          | refine exec_region ?_
          | refine exec_block ?_
          | refine exec_skip ?_
          | refine exec_exit ?_
          | refine exec_ret ?_
          | refine exec_true rfl ?_
          | refine exec_false rfl ?_)
      | refine ops_nil ?_
      | (refine ops_more ?_; first
          | (apply ops_pl rfl rfl rfl ?_ rfl ?_; rotate_left; focus first | exact (.bld rfl rfl rfl rfl) | exact (.cat rfl rfl rfl (by first | (simp; done) | (simp; omega))) | exact (.neSelf rfl rfl rfl rfl) | exact (.eqSelf rfl rfl rfl rfl) | exact (.wr64 rfl rfl (by omega) (by omega)) | exact (.p rfl rfl) | exact (.cv64 rfl (fun _ => rfl) (by omega) (by omega)) | exact (.l rfl (fun _ _ => rfl)) | exact (.l rfl (look_own 0 rfl rfl rfl rfl)) | exact (.l rfl (look_own 1 rfl rfl rfl rfl)) | exact (.l rfl (look_own 2 rfl rfl rfl rfl)) | exact (.l rfl (look_agg 0 rfl rfl rfl rfl)) | exact (.l rfl (look_agg 1 rfl rfl rfl rfl)))
          | refine ops_skip rfl rfl rfl ?_
          | (refine ops_step rfl rfl rfl ?_; first | (refine step_box rfl rfl rfl (fun _ => ?_)) | (refine step_alloc rfl rfl rfl rfl (fun _ => ?_)) | (refine step_buildSliceF rfl rfl rfl rfl rfl rfl (fun _ => ?_)) | (refine step_map rfl (fun _ => ?_)) | (refine step_storeZ 0 rfl rfl rfl rfl rfl rfl rfl rfl rfl ?_))))
  refine ops_step rfl rfl rfl (step_call_fp [] _ rfl rfl rfl (List.Perm.refl _) (fun H hs hst => all_ok hst hm ((hT.mono (by repeat first | exact List.Sublist.refl _ | apply List.Sublist.cons)).pure hs) (ownb.slM hs (by simp)).toX (owna.slM hs (by simp)).toX (by omega)) (fun v F' h => ?_))
  obtain ⟨da, dn, dc, pd, rfl, rfl, ownd⟩ := h
  rw [if_pos rfl, allT_comm (liA_mem hlw) (liB_mem hlw)] at ownd
  rw [decide_eq_true rfl]
  have hal : (liA l).length = i := by rw [liA_len]; omega
  have hbl : (liB l t).length = i := by rw [liB_len]; omega
  have hcl : (allT (tmA m6) (liA l) (liB l t)).length = i := by rw [allT_len (by omega), hal]
  have hcn : cn = i := by have := ownc.len; rw [typC_length, hcl] at this; omega
  have hdn : dn = i := by have := ownd.len; rw [typC_length, hcl] at this; omega
  subst hcn
  subst hdn
  repeat (first
      | (refine exec_more ?_; first
          | refine exec_seq ?_
          | refine exec_region ?_
          | refine exec_block ?_
          | refine exec_skip ?_
          | refine exec_exit ?_
          | refine exec_ret ?_
          | refine exec_true rfl ?_
          | refine exec_false rfl ?_)
      | refine ops_nil ?_
      | (refine ops_more ?_; first
          | (apply ops_pl rfl rfl rfl ?_ rfl ?_; rotate_left; focus first | exact (.bld rfl rfl rfl rfl) | exact (.cat rfl rfl rfl (by first | (simp; done) | (simp; omega))) | exact (.neSelf rfl rfl rfl rfl) | exact (.eqSelf rfl rfl rfl rfl) | exact (.wr64 rfl rfl (by omega) (by omega)) | exact (.p rfl rfl) | exact (.cv64 rfl (fun _ => rfl) (by omega) (by omega)) | exact (.l rfl (fun _ _ => rfl)) | exact (.l rfl (look_own 0 rfl rfl rfl rfl)) | exact (.l rfl (look_own 1 rfl rfl rfl rfl)) | exact (.l rfl (look_own 2 rfl rfl rfl rfl)) | exact (.l rfl (look_agg 0 rfl rfl rfl rfl)) | exact (.l rfl (look_agg 1 rfl rfl rfl rfl)))
          | refine ops_skip rfl rfl rfl ?_
          | (refine ops_step rfl rfl rfl ?_; first | (refine step_box rfl rfl rfl (fun _ => ?_)) | (refine step_alloc rfl rfl rfl rfl (fun _ => ?_)) | (refine step_buildSliceF rfl rfl rfl rfl rfl rfl (fun _ => ?_)) | (refine step_map rfl (fun _ => ?_)) | (refine step_storeZ 0 rfl rfl rfl rfl rfl rfl rfl rfl rfl ?_))))
  have hnn : ((dn : Int) != (dn : Int)) = false := by simp
  rw [hnn]
  repeat (first
      | (refine exec_more ?_; first
          | refine exec_seq ?_
          | refine exec_region ?_
          | refine exec_block ?_
          | refine exec_skip ?_
          | refine exec_exit ?_
          | refine exec_ret ?_
          | refine exec_true rfl ?_
          | refine exec_false rfl ?_)
      | refine ops_nil ?_
      | (refine ops_more ?_; first
          | (apply ops_pl rfl rfl rfl ?_ rfl ?_; rotate_left; focus first | exact (.bld rfl rfl rfl rfl) | exact (.cat rfl rfl rfl (by first | (simp; done) | (simp; omega))) | exact (.neSelf rfl rfl rfl rfl) | exact (.eqSelf rfl rfl rfl rfl) | exact (.wr64 rfl rfl (by omega) (by omega)) | exact (.p rfl rfl) | exact (.cv64 rfl (fun _ => rfl) (by omega) (by omega)) | exact (.l rfl (fun _ _ => rfl)) | exact (.l rfl (look_own 0 rfl rfl rfl rfl)) | exact (.l rfl (look_own 1 rfl rfl rfl rfl)) | exact (.l rfl (look_own 2 rfl rfl rfl rfl)) | exact (.l rfl (look_agg 0 rfl rfl rfl rfl)) | exact (.l rfl (look_agg 1 rfl rfl rfl rfl)))
          | refine ops_skip rfl rfl rfl ?_
          | (refine ops_step rfl rfl rfl ?_; first | (refine step_box rfl rfl rfl (fun _ => ?_)) | (refine step_alloc rfl rfl rfl rfl (fun _ => ?_)) | (refine step_buildSliceF rfl rfl rfl rfl rfl rfl (fun _ => ?_)) | (refine step_map rfl (fun _ => ?_)) | (refine step_storeZ 0 rfl rfl rfl rfl rfl rfl rfl rfl rfl ?_))))
  rw [hnn]
  repeat (first
      | (refine exec_more ?_; first
          | refine exec_seq ?_
          | refine exec_region ?_
          | refine exec_block ?_
          | refine exec_skip ?_
          | refine exec_exit ?_
          | refine exec_ret ?_
          | refine exec_true rfl ?_
          | refine exec_false rfl ?_)
      | refine ops_nil ?_
      | (refine ops_more ?_; first
          | (apply ops_pl rfl rfl rfl ?_ rfl ?_; rotate_left; focus first | exact (.bld rfl rfl rfl rfl) | exact (.cat rfl rfl rfl (by first | (simp; done) | (simp; omega))) | exact (.neSelf rfl rfl rfl rfl) | exact (.eqSelf rfl rfl rfl rfl) | exact (.wr64 rfl rfl (by omega) (by omega)) | exact (.p rfl rfl) | exact (.cv64 rfl (fun _ => rfl) (by omega) (by omega)) | exact (.l rfl (fun _ _ => rfl)) | exact (.l rfl (look_own 0 rfl rfl rfl rfl)) | exact (.l rfl (look_own 1 rfl rfl rfl rfl)) | exact (.l rfl (look_own 2 rfl rfl rfl rfl)) | exact (.l rfl (look_agg 0 rfl rfl rfl rfl)) | exact (.l rfl (look_agg 1 rfl rfl rfl rfl)))
          | refine ops_skip rfl rfl rfl ?_
          | (refine ops_step rfl rfl rfl ?_; first | (refine step_box rfl rfl rfl (fun _ => ?_)) | (refine step_alloc rfl rfl rfl rfl (fun _ => ?_)) | (refine step_buildSliceF rfl rfl rfl rfl rfl rfl (fun _ => ?_)) | (refine step_map rfl (fun _ => ?_)) | (refine step_storeZ 0 rfl rfl rfl rfl rfl rfl rfl rfl rfl ?_))))
  refine ExecS.weak (E' := [(1, .slice al dn cl0), (2, .int .u8 (t : Int)), (3, .bool longer), (9, ptr tb), (10, .slice xa dn xc), (11, .slice ya dn yc), (13, .slice ca dn cc), (15, .slice da dn dc), (17, .int .i64 ((0 : Nat) : Int))]) ⟨rfl, rfl, rfl, rfl, rfl, rfl, rfl, rfl, rfl, trivial⟩ (List.Sublist.refl _) ?_
  refine exec_loop (fun k E L => ∃ i, i + k = dn ∧ E = [(1, .slice al dn cl0), (2, .int .u8 (t : Int)), (3, .bool longer), (9, ptr tb), (10, .slice xa dn xc), (11, .slice ya dn yc), (13, .slice ca dn cc), (15, .slice da dn dc), (17, .int .i64 (i : Int))] ∧ L = pd :: pc :: pa :: pb :: A) ?_ dn _ _ ⟨0, by omega, rfl, rfl⟩
  rintro k E L ⟨i, hik, rfl, rfl⟩
  repeat (first
      | (refine exec_more ?_; first
          | refine exec_seq ?_
          | refine exec_region ?_
          | refine exec_block ?_
          | refine exec_skip ?_
          | refine exec_exit ?_
          | refine exec_ret ?_
          | refine exec_true rfl ?_
          | refine exec_false rfl ?_)
      | refine ops_nil ?_
      | (refine ops_more ?_; first
          | (apply ops_pl rfl rfl rfl ?_ rfl ?_; rotate_left; focus first | exact (.bld rfl rfl rfl rfl) | exact (.cat rfl rfl rfl (by first | (simp; done) | (simp; omega))) | exact (.neSelf rfl rfl rfl rfl) | exact (.eqSelf rfl rfl rfl rfl) | exact (.wr64 rfl rfl (by omega) (by omega)) | exact (.p rfl rfl) | exact (.cv64 rfl (fun _ => rfl) (by omega) (by omega)) | exact (.l rfl (fun _ _ => rfl)) | exact (.l rfl (look_own 0 rfl rfl rfl rfl)) | exact (.l rfl (look_own 1 rfl rfl rfl rfl)) | exact (.l rfl (look_own 2 rfl rfl rfl rfl)) | exact (.l rfl (look_agg 0 rfl rfl rfl rfl)) | exact (.l rfl (look_agg 1 rfl rfl rfl rfl)))
          | refine ops_skip rfl rfl rfl ?_
          | (refine ops_step rfl rfl rfl ?_; first | (refine step_box rfl rfl rfl (fun _ => ?_)) | (refine step_alloc rfl rfl rfl rfl (fun _ => ?_)) | (refine step_buildSliceF rfl rfl rfl rfl rfl rfl (fun _ => ?_)) | (refine step_map rfl (fun _ => ?_)) | (refine step_storeZ 0 rfl rfl rfl rfl rfl rfl rfl rfl rfl ?_))))
  refine exec_cond rfl (fun hlt => ?_) (fun hge => ?_)
  · have hi : i < dn := by simp at hlt; omega
    obtain ⟨x, hx⟩ : ∃ x, (liA l)[i]? = some x := ⟨_, List.getElem?_eq_getElem (by omega)⟩
    obtain ⟨y, hy⟩ : ∃ y, (liB l t)[i]? = some y := ⟨_, List.getElem?_eq_getElem (by omega)⟩
    have hj := allT_get (m := tmA m6) hx hy
    have hmc : pc ∈ pd :: pc :: pa :: pb :: A := by simp
    have hmd : pd ∈ pd :: pc :: pa :: pb :: A := by simp
    have hma : pa ∈ pd :: pc :: pa :: pb :: A := by simp
    have hmb : pb ∈ pd :: pc :: pa :: pb :: A := by simp
    repeat (first
        | (refine exec_more ?_; first
            | refine exec_seq ?_
            | refine exec_region ?_
            | refine exec_block ?_
            | refine exec_skip ?_
            | refine exec_exit ?_
            | refine exec_ret ?_
            | refine exec_true rfl ?_
            | refine exec_false rfl ?_)
        | refine ops_nil ?_
        | (refine ops_more ?_; first
            | (apply ops_pl rfl rfl rfl ?_ rfl ?_; rotate_left; focus first | exact (.bld rfl rfl rfl rfl) | exact (.cat rfl rfl rfl (by first | (simp; done) | (simp; omega))) | exact (.neSelf rfl rfl rfl rfl) | exact (.eqSelf rfl rfl rfl rfl) | exact (.wr64 rfl rfl (by omega) (by omega)) | exact (.p rfl rfl) | exact (.cv64 rfl (fun _ => rfl) (by omega) (by omega)) | exact (.l rfl (fun _ _ => rfl)) | exact (.l rfl (look_own 0 rfl rfl rfl rfl)) | exact (.l rfl (look_own 1 rfl rfl rfl rfl)) | exact (.l rfl (look_own 2 rfl rfl rfl rfl)) | exact (.l rfl (look_agg 0 rfl rfl rfl rfl)) | exact (.l rfl (look_agg 1 rfl rfl rfl rfl)))
            | refine ops_skip rfl rfl rfl ?_
            | (refine ops_step rfl rfl rfl ?_; first | (refine step_box rfl rfl rfl (fun _ => ?_)) | (refine step_alloc rfl rfl rfl rfl (fun _ => ?_)) | (refine step_buildSliceF rfl rfl rfl rfl rfl rfl (fun _ => ?_)) | (refine step_map rfl (fun _ => ?_)) | (refine step_storeZ 0 rfl rfl rfl rfl rfl rfl rfl rfl rfl ?_))))
    refine exec_draw (lst := [(0, 0), (1, 0), (2, 3), (3, 7), (4, 0), (5, 0), (6, 0), (7, 96), (8, 224), (9, 0), (10, 0), (11, 1536), (12, 3584), (13, 8176), (14, 16383), (15, 32767), (16, 65535), (17, 65535), (18, 262143), (19, 524287), (20, 65535), (21, 65535), (22, 3211263), (23, 7405567), (24, 16777215), (25, 33554431)]) (full := 67108863) (by kernel_rfl) (by kernel_rfl) (by kernel_rfl) (by kernel_rfl) ?_
    repeat (first
        | (refine draw_more ?_; first
            | (apply draw_pl rfl rfl rfl rfl ?_ rfl rfl ?_; rotate_left; focus first | exact (.bld rfl rfl rfl rfl) | exact (.cat rfl rfl rfl (by first | (simp; done) | (simp; omega))) | exact (.neSelf rfl rfl rfl rfl) | exact (.eqSelf rfl rfl rfl rfl) | exact (.wr64 rfl rfl (by omega) (by omega)) | exact (.p rfl rfl) | exact (.cv64 rfl (fun _ => rfl) (by omega) (by omega)) | exact (.l rfl (fun _ _ => rfl)) | exact (.l rfl (look_own 0 rfl rfl rfl rfl)) | exact (.l rfl (look_own 1 rfl rfl rfl rfl)) | exact (.l rfl (look_own 2 rfl rfl rfl rfl)) | exact (.l rfl (look_agg 0 rfl rfl rfl rfl)) | exact (.l rfl (look_agg 1 rfl rfl rfl rfl)))
            | refine draw_skip rfl rfl rfl rfl ?_))
    try refine draw_nil ?_
    first | refine ops_pl rfl rfl rfl (.p rfl (opP_idxA ownc rfl rfl rfl rfl (by omega) (by omega))) rfl ?_ | refine draw_pl rfl rfl rfl rfl (.p rfl (opP_idxA ownc rfl rfl rfl rfl (by omega) (by omega))) rfl rfl ?_
    repeat (first
        | (refine draw_more ?_; first
            | (apply draw_pl rfl rfl rfl rfl ?_ rfl rfl ?_; rotate_left; focus first | exact (.bld rfl rfl rfl rfl) | exact (.cat rfl rfl rfl (by first | (simp; done) | (simp; omega))) | exact (.neSelf rfl rfl rfl rfl) | exact (.eqSelf rfl rfl rfl rfl) | exact (.wr64 rfl rfl (by omega) (by omega)) | exact (.p rfl rfl) | exact (.cv64 rfl (fun _ => rfl) (by omega) (by omega)) | exact (.l rfl (fun _ _ => rfl)) | exact (.l rfl (look_own 0 rfl rfl rfl rfl)) | exact (.l rfl (look_own 1 rfl rfl rfl rfl)) | exact (.l rfl (look_own 2 rfl rfl rfl rfl)) | exact (.l rfl (look_agg 0 rfl rfl rfl rfl)) | exact (.l rfl (look_agg 1 rfl rfl rfl rfl)))
            | refine draw_skip rfl rfl rfl rfl ?_))
    try refine draw_nil ?_
    first | refine ops_pl rfl rfl rfl (.l rfl (fun H hs => opL_load rfl ((ownc.slM hs hmc).ldA rfl (by decide) hi (typC_at hj)))) rfl ?_ | refine draw_pl rfl rfl rfl rfl (.l rfl (fun H hs => opL_load rfl ((ownc.slM hs hmc).ldA rfl (by decide) hi (typC_at hj)))) rfl rfl ?_
    repeat (first
        | (refine draw_more ?_; first
            | (apply draw_pl rfl rfl rfl rfl ?_ rfl rfl ?_; rotate_left; focus first | exact (.bld rfl rfl rfl rfl) | exact (.cat rfl rfl rfl (by first | (simp; done) | (simp; omega))) | exact (.neSelf rfl rfl rfl rfl) | exact (.eqSelf rfl rfl rfl rfl) | exact (.wr64 rfl rfl (by omega) (by omega)) | exact (.p rfl rfl) | exact (.cv64 rfl (fun _ => rfl) (by omega) (by omega)) | exact (.l rfl (fun _ _ => rfl)) | exact (.l rfl (look_own 0 rfl rfl rfl rfl)) | exact (.l rfl (look_own 1 rfl rfl rfl rfl)) | exact (.l rfl (look_own 2 rfl rfl rfl rfl)) | exact (.l rfl (look_agg 0 rfl rfl rfl rfl)) | exact (.l rfl (look_agg 1 rfl rfl rfl rfl)))
            | refine draw_skip rfl rfl rfl rfl ?_))
    try refine draw_nil ?_
    first | refine ops_pl rfl rfl rfl (.p rfl (opP_idxA owna rfl rfl rfl rfl (by omega) (by omega))) rfl ?_ | refine draw_pl rfl rfl rfl rfl (.p rfl (opP_idxA owna rfl rfl rfl rfl (by omega) (by omega))) rfl rfl ?_
    repeat (first
        | (refine draw_more ?_; first
            | (apply draw_pl rfl rfl rfl rfl ?_ rfl rfl ?_; rotate_left; focus first | exact (.bld rfl rfl rfl rfl) | exact (.cat rfl rfl rfl (by first | (simp; done) | (simp; omega))) | exact (.neSelf rfl rfl rfl rfl) | exact (.eqSelf rfl rfl rfl rfl) | exact (.wr64 rfl rfl (by omega) (by omega)) | exact (.p rfl rfl) | exact (.cv64 rfl (fun _ => rfl) (by omega) (by omega)) | exact (.l rfl (fun _ _ => rfl)) | exact (.l rfl (look_own 0 rfl rfl rfl rfl)) | exact (.l rfl (look_own 1 rfl rfl rfl rfl)) | exact (.l rfl (look_own 2 rfl rfl rfl rfl)) | exact (.l rfl (look_agg 0 rfl rfl rfl rfl)) | exact (.l rfl (look_agg 1 rfl rfl rfl rfl)))
            | refine draw_skip rfl rfl rfl rfl ?_))
    try refine draw_nil ?_
    first | refine ops_pl rfl rfl rfl (.l rfl (fun H hs => opL_load rfl ((owna.slM hs hma).ldA rfl (by decide) hi (typC_at hx)))) rfl ?_ | refine draw_pl rfl rfl rfl rfl (.l rfl (fun H hs => opL_load rfl ((owna.slM hs hma).ldA rfl (by decide) hi (typC_at hx)))) rfl rfl ?_
    repeat (first
        | (refine draw_more ?_; first
            | (apply draw_pl rfl rfl rfl rfl ?_ rfl rfl ?_; rotate_left; focus first | exact (.bld rfl rfl rfl rfl) | exact (.cat rfl rfl rfl (by first | (simp; done) | (simp; omega))) | exact (.neSelf rfl rfl rfl rfl) | exact (.eqSelf rfl rfl rfl rfl) | exact (.wr64 rfl rfl (by omega) (by omega)) | exact (.p rfl rfl) | exact (.cv64 rfl (fun _ => rfl) (by omega) (by omega)) | exact (.l rfl (fun _ _ => rfl)) | exact (.l rfl (look_own 0 rfl rfl rfl rfl)) | exact (.l rfl (look_own 1 rfl rfl rfl rfl)) | exact (.l rfl (look_own 2 rfl rfl rfl rfl)) | exact (.l rfl (look_agg 0 rfl rfl rfl rfl)) | exact (.l rfl (look_agg 1 rfl rfl rfl rfl)))
            | refine draw_skip rfl rfl rfl rfl ?_))
    try refine draw_nil ?_
    first | refine ops_pl rfl rfl rfl (.p rfl (opP_idxA ownb rfl rfl rfl rfl (by omega) (by omega))) rfl ?_ | refine draw_pl rfl rfl rfl rfl (.p rfl (opP_idxA ownb rfl rfl rfl rfl (by omega) (by omega))) rfl rfl ?_
    repeat (first
        | (refine draw_more ?_; first
            | (apply draw_pl rfl rfl rfl rfl ?_ rfl rfl ?_; rotate_left; focus first | exact (.bld rfl rfl rfl rfl) | exact (.cat rfl rfl rfl (by first | (simp; done) | (simp; omega))) | exact (.neSelf rfl rfl rfl rfl) | exact (.eqSelf rfl rfl rfl rfl) | exact (.wr64 rfl rfl (by omega) (by omega)) | exact (.p rfl rfl) | exact (.cv64 rfl (fun _ => rfl) (by omega) (by omega)) | exact (.l rfl (fun _ _ => rfl)) | exact (.l rfl (look_own 0 rfl rfl rfl rfl)) | exact (.l rfl (look_own 1 rfl rfl rfl rfl)) | exact (.l rfl (look_own 2 rfl rfl rfl rfl)) | exact (.l rfl (look_agg 0 rfl rfl rfl rfl)) | exact (.l rfl (look_agg 1 rfl rfl rfl rfl)))
            | refine draw_skip rfl rfl rfl rfl ?_))
    try refine draw_nil ?_
    first | refine ops_pl rfl rfl rfl (.l rfl (fun H hs => opL_load rfl ((ownb.slM hs hmb).ldA rfl (by decide) hi (typC_at hy)))) rfl ?_ | refine draw_pl rfl rfl rfl rfl (.l rfl (fun H hs => opL_load rfl ((ownb.slM hs hmb).ldA rfl (by decide) hi (typC_at hy)))) rfl rfl ?_
    repeat (first
        | (refine draw_more ?_; first
            | (apply draw_pl rfl rfl rfl rfl ?_ rfl rfl ?_; rotate_left; focus first | exact (.bld rfl rfl rfl rfl) | exact (.cat rfl rfl rfl (by first | (simp; done) | (simp; omega))) | exact (.neSelf rfl rfl rfl rfl) | exact (.eqSelf rfl rfl rfl rfl) | exact (.wr64 rfl rfl (by omega) (by omega)) | exact (.p rfl rfl) | exact (.cv64 rfl (fun _ => rfl) (by omega) (by omega)) | exact (.l rfl (fun _ _ => rfl)) | exact (.l rfl (look_own 0 rfl rfl rfl rfl)) | exact (.l rfl (look_own 1 rfl rfl rfl rfl)) | exact (.l rfl (look_own 2 rfl rfl rfl rfl)) | exact (.l rfl (look_agg 0 rfl rfl rfl rfl)) | exact (.l rfl (look_agg 1 rfl rfl rfl rfl)))
            | refine draw_skip rfl rfl rfl rfl ?_))
    try refine draw_nil ?_
    skip
    refine draw_w rfl rfl rfl rfl rfl rfl (step_call_pure rfl rfl rfl (fun H hs => join_ok (a := x) (b := y) hm ((hT.mono (by repeat first | exact List.Sublist.refl _ | apply List.Sublist.cons)).pure hs)) ⟨by repeat (first | exact True.intro | refine And.intro (.inl rfl) ?_ | refine And.intro (.inr ⟨veq_refl rfl, (fun H hs => opL_load rfl ((ownc.slM hs hmc).ldA rfl (by decide) hi (typC_at hj)))⟩) ?_ | refine And.intro (.inr ⟨veq_refl rfl, (fun H hs => opL_load rfl ((owna.slM hs hma).ldA rfl (by decide) hi (typC_at hx)))⟩) ?_ | refine And.intro (.inr ⟨veq_refl rfl, (fun H hs => opL_load rfl ((ownb.slM hs hmb).ldA rfl (by decide) hi (typC_at hy)))⟩) ?_ | refine And.intro (.inr ⟨veq_refl rfl, (fun _ _ => rfl)⟩) ?_ | refine And.intro (.inr ⟨veq_refl rfl, (look_own 0 rfl rfl rfl rfl)⟩) ?_ | refine And.intro (.inr ⟨veq_refl rfl, (look_own 1 rfl rfl rfl rfl)⟩) ?_ | refine And.intro (.inr ⟨veq_refl rfl, (look_own 2 rfl rfl rfl rfl)⟩) ?_ | refine And.intro (.inr ⟨veq_refl rfl, (look_agg 0 rfl rfl rfl rfl)⟩) ?_ | refine And.intro (.inr ⟨veq_refl rfl, (look_agg 1 rfl rfl rfl rfl)⟩) ?_), ?_⟩)
    repeat (first
        | (refine draw_more ?_; first
            | (apply draw_pl rfl rfl rfl rfl ?_ rfl rfl ?_; rotate_left; focus first | exact (.bld rfl rfl rfl rfl) | exact (.cat rfl rfl rfl (by first | (simp; done) | (simp; omega))) | exact (.neSelf rfl rfl rfl rfl) | exact (.eqSelf rfl rfl rfl rfl) | exact (.wr64 rfl rfl (by omega) (by omega)) | exact (.p rfl rfl) | exact (.cv64 rfl (fun _ => rfl) (by omega) (by omega)) | exact (.l rfl (fun _ _ => rfl)) | exact (.l rfl (look_own 0 rfl rfl rfl rfl)) | exact (.l rfl (look_own 1 rfl rfl rfl rfl)) | exact (.l rfl (look_own 2 rfl rfl rfl rfl)) | exact (.l rfl (look_agg 0 rfl rfl rfl rfl)) | exact (.l rfl (look_agg 1 rfl rfl rfl rfl)))
            | refine draw_skip rfl rfl rfl rfl ?_))
    try refine draw_nil ?_
    first | refine ops_pl rfl rfl rfl (PL.neqTyp (a := joinT (tmA m6) x y) (b := joinT (tmA m6) x y) rfl rfl rfl) rfl ?_ | refine draw_pl rfl rfl rfl rfl (PL.neqTyp (a := joinT (tmA m6) x y) (b := joinT (tmA m6) x y) rfl rfl rfl) rfl rfl ?_
    rw [show (!decide (joinT (tmA m6) x y = joinT (tmA m6) x y)) = false from by rw [decide_eq_true rfl]; rfl]
    repeat (first
        | (refine draw_more ?_; first
            | (apply draw_pl rfl rfl rfl rfl ?_ rfl rfl ?_; rotate_left; focus first | exact (.bld rfl rfl rfl rfl) | exact (.cat rfl rfl rfl (by first | (simp; done) | (simp; omega))) | exact (.neSelf rfl rfl rfl rfl) | exact (.eqSelf rfl rfl rfl rfl) | exact (.wr64 rfl rfl (by omega) (by omega)) | exact (.p rfl rfl) | exact (.cv64 rfl (fun _ => rfl) (by omega) (by omega)) | exact (.l rfl (fun _ _ => rfl)) | exact (.l rfl (look_own 0 rfl rfl rfl rfl)) | exact (.l rfl (look_own 1 rfl rfl rfl rfl)) | exact (.l rfl (look_own 2 rfl rfl rfl rfl)) | exact (.l rfl (look_agg 0 rfl rfl rfl rfl)) | exact (.l rfl (look_agg 1 rfl rfl rfl rfl)))
            | refine draw_skip rfl rfl rfl rfl ?_))
    try refine draw_nil ?_
    first | refine ops_pl rfl rfl rfl (.p rfl (opP_idxA ownc rfl rfl rfl rfl (by omega) (by omega))) rfl ?_ | refine draw_pl rfl rfl rfl rfl (.p rfl (opP_idxA ownc rfl rfl rfl rfl (by omega) (by omega))) rfl rfl ?_
    repeat (first
        | (refine draw_more ?_; first
            | (apply draw_pl rfl rfl rfl rfl ?_ rfl rfl ?_; rotate_left; focus first | exact (.bld rfl rfl rfl rfl) | exact (.cat rfl rfl rfl (by first | (simp; done) | (simp; omega))) | exact (.neSelf rfl rfl rfl rfl) | exact (.eqSelf rfl rfl rfl rfl) | exact (.wr64 rfl rfl (by omega) (by omega)) | exact (.p rfl rfl) | exact (.cv64 rfl (fun _ => rfl) (by omega) (by omega)) | exact (.l rfl (fun _ _ => rfl)) | exact (.l rfl (look_own 0 rfl rfl rfl rfl)) | exact (.l rfl (look_own 1 rfl rfl rfl rfl)) | exact (.l rfl (look_own 2 rfl rfl rfl rfl)) | exact (.l rfl (look_agg 0 rfl rfl rfl rfl)) | exact (.l rfl (look_agg 1 rfl rfl rfl rfl)))
            | refine draw_skip rfl rfl rfl rfl ?_))
    try refine draw_nil ?_
    first | refine ops_pl rfl rfl rfl (.l rfl (fun H hs => opL_load rfl ((ownc.slM hs hmc).ldA rfl (by decide) hi (typC_at hj)))) rfl ?_ | refine draw_pl rfl rfl rfl rfl (.l rfl (fun H hs => opL_load rfl ((ownc.slM hs hmc).ldA rfl (by decide) hi (typC_at hj)))) rfl rfl ?_
    repeat (first
        | (refine draw_more ?_; first
            | (apply draw_pl rfl rfl rfl rfl ?_ rfl rfl ?_; rotate_left; focus first | exact (.bld rfl rfl rfl rfl) | exact (.cat rfl rfl rfl (by first | (simp; done) | (simp; omega))) | exact (.neSelf rfl rfl rfl rfl) | exact (.eqSelf rfl rfl rfl rfl) | exact (.wr64 rfl rfl (by omega) (by omega)) | exact (.p rfl rfl) | exact (.cv64 rfl (fun _ => rfl) (by omega) (by omega)) | exact (.l rfl (fun _ _ => rfl)) | exact (.l rfl (look_own 0 rfl rfl rfl rfl)) | exact (.l rfl (look_own 1 rfl rfl rfl rfl)) | exact (.l rfl (look_own 2 rfl rfl rfl rfl)) | exact (.l rfl (look_agg 0 rfl rfl rfl rfl)) | exact (.l rfl (look_agg 1 rfl rfl rfl rfl)))
            | refine draw_skip rfl rfl rfl rfl ?_))
    try refine draw_nil ?_
    first | refine ops_pl rfl rfl rfl (.p rfl (opP_idxA ownd rfl rfl rfl rfl (by omega) (by omega))) rfl ?_ | refine draw_pl rfl rfl rfl rfl (.p rfl (opP_idxA ownd rfl rfl rfl rfl (by omega) (by omega))) rfl rfl ?_
    repeat (first
        | (refine draw_more ?_; first
            | (apply draw_pl rfl rfl rfl rfl ?_ rfl rfl ?_; rotate_left; focus first | exact (.bld rfl rfl rfl rfl) | exact (.cat rfl rfl rfl (by first | (simp; done) | (simp; omega))) | exact (.neSelf rfl rfl rfl rfl) | exact (.eqSelf rfl rfl rfl rfl) | exact (.wr64 rfl rfl (by omega) (by omega)) | exact (.p rfl rfl) | exact (.cv64 rfl (fun _ => rfl) (by omega) (by omega)) | exact (.l rfl (fun _ _ => rfl)) | exact (.l rfl (look_own 0 rfl rfl rfl rfl)) | exact (.l rfl (look_own 1 rfl rfl rfl rfl)) | exact (.l rfl (look_own 2 rfl rfl rfl rfl)) | exact (.l rfl (look_agg 0 rfl rfl rfl rfl)) | exact (.l rfl (look_agg 1 rfl rfl rfl rfl)))
            | refine draw_skip rfl rfl rfl rfl ?_))
    try refine draw_nil ?_
    first | refine ops_pl rfl rfl rfl (.l rfl (fun H hs => opL_load rfl ((ownd.slM hs hmd).ldA rfl (by decide) hi (typC_at hj)))) rfl ?_ | refine draw_pl rfl rfl rfl rfl (.l rfl (fun H hs => opL_load rfl ((ownd.slM hs hmd).ldA rfl (by decide) hi (typC_at hj)))) rfl rfl ?_
    repeat (first
        | (refine draw_more ?_; first
            | (apply draw_pl rfl rfl rfl rfl ?_ rfl rfl ?_; rotate_left; focus first | exact (.bld rfl rfl rfl rfl) | exact (.cat rfl rfl rfl (by first | (simp; done) | (simp; omega))) | exact (.neSelf rfl rfl rfl rfl) | exact (.eqSelf rfl rfl rfl rfl) | exact (.wr64 rfl rfl (by omega) (by omega)) | exact (.p rfl rfl) | exact (.cv64 rfl (fun _ => rfl) (by omega) (by omega)) | exact (.l rfl (fun _ _ => rfl)) | exact (.l rfl (look_own 0 rfl rfl rfl rfl)) | exact (.l rfl (look_own 1 rfl rfl rfl rfl)) | exact (.l rfl (look_own 2 rfl rfl rfl rfl)) | exact (.l rfl (look_agg 0 rfl rfl rfl rfl)) | exact (.l rfl (look_agg 1 rfl rfl rfl rfl)))
            | refine draw_skip rfl rfl rfl rfl ?_))
    try refine draw_nil ?_
    first | refine ops_pl rfl rfl rfl (PL.neqTyp (a := joinT (tmA m6) x y) (b := joinT (tmA m6) x y) rfl rfl rfl) rfl ?_ | refine draw_pl rfl rfl rfl rfl (PL.neqTyp (a := joinT (tmA m6) x y) (b := joinT (tmA m6) x y) rfl rfl rfl) rfl rfl ?_
    rw [show (!decide (joinT (tmA m6) x y = joinT (tmA m6) x y)) = false from by rw [decide_eq_true rfl]; rfl]
    repeat (first
        | (refine draw_more ?_; first
            | (apply draw_pl rfl rfl rfl rfl ?_ rfl rfl ?_; rotate_left; focus first | exact (.bld rfl rfl rfl rfl) | exact (.cat rfl rfl rfl (by first | (simp; done) | (simp; omega))) | exact (.neSelf rfl rfl rfl rfl) | exact (.eqSelf rfl rfl rfl rfl) | exact (.wr64 rfl rfl (by omega) (by omega)) | exact (.p rfl rfl) | exact (.cv64 rfl (fun _ => rfl) (by omega) (by omega)) | exact (.l rfl (fun _ _ => rfl)) | exact (.l rfl (look_own 0 rfl rfl rfl rfl)) | exact (.l rfl (look_own 1 rfl rfl rfl rfl)) | exact (.l rfl (look_own 2 rfl rfl rfl rfl)) | exact (.l rfl (look_agg 0 rfl rfl rfl rfl)) | exact (.l rfl (look_agg 1 rfl rfl rfl rfl)))
            | refine draw_skip rfl rfl rfl rfl ?_))
    try refine draw_nil ?_
    repeat (first
        | (refine exec_more ?_; first
            | refine exec_seq ?_
            | refine exec_region ?_
            | refine exec_block ?_
            | refine exec_skip ?_
            | refine exec_exit ?_
            | refine exec_ret ?_
            | refine exec_true rfl ?_
            | refine exec_false rfl ?_)
        | refine ops_nil ?_
        | (refine ops_more ?_; first
            | (apply ops_pl rfl rfl rfl ?_ rfl ?_; rotate_left; focus first | exact (.bld rfl rfl rfl rfl) | exact (.cat rfl rfl rfl (by first | (simp; done) | (simp; omega))) | exact (.neSelf rfl rfl rfl rfl) | exact (.eqSelf rfl rfl rfl rfl) | exact (.wr64 rfl rfl (by omega) (by omega)) | exact (.p rfl rfl) | exact (.cv64 rfl (fun _ => rfl) (by omega) (by omega)) | exact (.l rfl (fun _ _ => rfl)) | exact (.l rfl (look_own 0 rfl rfl rfl rfl)) | exact (.l rfl (look_own 1 rfl rfl rfl rfl)) | exact (.l rfl (look_own 2 rfl rfl rfl rfl)) | exact (.l rfl (look_agg 0 rfl rfl rfl rfl)) | exact (.l rfl (look_agg 1 rfl rfl rfl rfl)))
            | refine ops_skip rfl rfl rfl ?_
            | (refine ops_step rfl rfl rfl ?_; first | (refine step_box rfl rfl rfl (fun _ => ?_)) | (refine step_alloc rfl rfl rfl rfl (fun _ => ?_)) | (refine step_buildSliceF rfl rfl rfl rfl rfl rfl (fun _ => ?_)) | (refine step_map rfl (fun _ => ?_)) | (refine step_storeZ 0 rfl rfl rfl rfl rfl rfl rfl rfl rfl ?_))))
    refine ⟨k - 1, by omega, _, _, ?_, List.Sublist.refl _, i + 1, by omega, rfl, rfl⟩
    exact ⟨rfl, rfl, rfl, rfl, rfl, rfl, rfl, rfl, rfl, trivial⟩
  clear hge
  cases longer
  · repeat (first
        | (refine exec_more ?_; first
            | refine exec_seq ?_
            | refine exec_region ?_
            | refine exec_block ?_
            | refine exec_skip ?_
            | refine exec_exit ?_
            | refine exec_ret ?_
            | refine exec_true rfl ?_
            | refine exec_false rfl ?_)
        | refine ops_nil ?_
        | (refine ops_more ?_; first
            | (apply ops_pl rfl rfl rfl ?_ rfl ?_; rotate_left; focus first | exact (.bld rfl rfl rfl rfl) | exact (.cat rfl rfl rfl (by first | (simp; done) | (simp; omega))) | exact (.neSelf rfl rfl rfl rfl) | exact (.eqSelf rfl rfl rfl rfl) | exact (.wr64 rfl rfl (by omega) (by omega)) | exact (.p rfl rfl) | exact (.cv64 rfl (fun _ => rfl) (by omega) (by omega)) | exact (.l rfl (fun _ _ => rfl)) | exact (.l rfl (look_own 0 rfl rfl rfl rfl)) | exact (.l rfl (look_own 1 rfl rfl rfl rfl)) | exact (.l rfl (look_own 2 rfl rfl rfl rfl)) | exact (.l rfl (look_agg 0 rfl rfl rfl rfl)) | exact (.l rfl (look_agg 1 rfl rfl rfl rfl)))
            | refine ops_skip rfl rfl rfl ?_
            | (refine ops_step rfl rfl rfl ?_; first | (refine step_box rfl rfl rfl (fun _ => ?_)) | (refine step_alloc rfl rfl rfl rfl (fun _ => ?_)) | (refine step_buildSliceF rfl rfl rfl rfl rfl rfl (fun _ => ?_)) | (refine step_map rfl (fun _ => ?_)) | (refine step_storeZ 0 rfl rfl rfl rfl rfl rfl rfl rfl rfl ?_))))
    refine ops_step rfl rfl rfl (step_call_fp [] _ rfl rfl rfl (List.Perm.refl _) (fun H hs hst => all_ok hst hm ((hT.mono (by repeat first | exact List.Sublist.refl _ | apply List.Sublist.cons)).pure hs) (ownc.slM hs (by simp)).toX (ownc.slM hs (by simp)).toX (by omega)) (fun v F' h => ?_))
    obtain ⟨ea, en, ec, pe, rfl, rfl, owne⟩ := h
    rw [if_pos rfl] at owne
    rw [decide_eq_true rfl]
    have hen : en = dn := by have := owne.len; rw [typC_length, allT_len rfl, hcl] at this; omega
    subst hen
    repeat (first
        | (refine exec_more ?_; first
            | refine exec_seq ?_
            | refine exec_region ?_
            | refine exec_block ?_
            | refine exec_skip ?_
            | refine exec_exit ?_
            | refine exec_ret ?_
            | refine exec_true rfl ?_
            | refine exec_false rfl ?_)
        | refine ops_nil ?_
        | (refine ops_more ?_; first
            | (apply ops_pl rfl rfl rfl ?_ rfl ?_; rotate_left; focus first | exact (.bld rfl rfl rfl rfl) | exact (.cat rfl rfl rfl (by first | (simp; done) | (simp; omega))) | exact (.neSelf rfl rfl rfl rfl) | exact (.eqSelf rfl rfl rfl rfl) | exact (.wr64 rfl rfl (by omega) (by omega)) | exact (.p rfl rfl) | exact (.cv64 rfl (fun _ => rfl) (by omega) (by omega)) | exact (.l rfl (fun _ _ => rfl)) | exact (.l rfl (look_own 0 rfl rfl rfl rfl)) | exact (.l rfl (look_own 1 rfl rfl rfl rfl)) | exact (.l rfl (look_own 2 rfl rfl rfl rfl)) | exact (.l rfl (look_agg 0 rfl rfl rfl rfl)) | exact (.l rfl (look_agg 1 rfl rfl rfl rfl)))
            | refine ops_skip rfl rfl rfl ?_
            | (refine ops_step rfl rfl rfl ?_; first | (refine step_box rfl rfl rfl (fun _ => ?_)) | (refine step_alloc rfl rfl rfl rfl (fun _ => ?_)) | (refine step_buildSliceF rfl rfl rfl rfl rfl rfl (fun _ => ?_)) | (refine step_map rfl (fun _ => ?_)) | (refine step_storeZ 0 rfl rfl rfl rfl rfl rfl rfl rfl rfl ?_))))
    have hee : ((en : Int) == (en : Int)) = true := by simp
    rw [hee]
    exact ⟨trivial, _, rfl, rfl⟩
  · repeat (first
        | (refine exec_more ?_; first
            | refine exec_seq ?_
            | refine exec_region ?_
            | refine exec_block ?_
            | refine exec_skip ?_
            | refine exec_exit ?_
            | refine exec_ret ?_
            | refine exec_true rfl ?_
            | refine exec_false rfl ?_)
        | refine ops_nil ?_
        | (refine ops_more ?_; first
            | (apply ops_pl rfl rfl rfl ?_ rfl ?_; rotate_left; focus first | exact (.bld rfl rfl rfl rfl) | exact (.cat rfl rfl rfl (by first | (simp; done) | (simp; omega))) | exact (.neSelf rfl rfl rfl rfl) | exact (.eqSelf rfl rfl rfl rfl) | exact (.wr64 rfl rfl (by omega) (by omega)) | exact (.p rfl rfl) | exact (.cv64 rfl (fun _ => rfl) (by omega) (by omega)) | exact (.l rfl (fun _ _ => rfl)) | exact (.l rfl (look_own 0 rfl rfl rfl rfl)) | exact (.l rfl (look_own 1 rfl rfl rfl rfl)) | exact (.l rfl (look_own 2 rfl rfl rfl rfl)) | exact (.l rfl (look_agg 0 rfl rfl rfl rfl)) | exact (.l rfl (look_agg 1 rfl rfl rfl rfl)))
            | refine ops_skip rfl rfl rfl ?_
            | (refine ops_step rfl rfl rfl ?_; first | (refine step_box rfl rfl rfl (fun _ => ?_)) | (refine step_alloc rfl rfl rfl rfl (fun _ => ?_)) | (refine step_buildSliceF rfl rfl rfl rfl rfl rfl (fun _ => ?_)) | (refine step_map rfl (fun _ => ?_)) | (refine step_storeZ 0 rfl rfl rfl rfl rfl rfl rfl rfl rfl ?_))))
    have hma : pa ∈ pd :: pc :: pa :: pb :: A := by simp
    first | refine ops_pl rfl rfl rfl (.l rfl (look_full3 owna hma rfl rfl rfl rfl rfl)) rfl ?_ | refine draw_pl rfl rfl rfl rfl (.l rfl (look_full3 owna hma rfl rfl rfl rfl rfl)) rfl rfl ?_
    repeat (first
        | (refine exec_more ?_; first
            | refine exec_seq ?_
            | refine exec_region ?_
            | refine exec_block ?_
            | refine exec_skip ?_
            | refine exec_exit ?_
            | refine exec_ret ?_
            | refine exec_true rfl ?_
            | refine exec_false rfl ?_)
        | refine ops_nil ?_
        | (refine ops_more ?_; first
            | (apply ops_pl rfl rfl rfl ?_ rfl ?_; rotate_left; focus first | exact (.bld rfl rfl rfl rfl) | exact (.cat rfl rfl rfl (by first | (simp; done) | (simp; omega))) | exact (.neSelf rfl rfl rfl rfl) | exact (.eqSelf rfl rfl rfl rfl) | exact (.wr64 rfl rfl (by omega) (by omega)) | exact (.p rfl rfl) | exact (.cv64 rfl (fun _ => rfl) (by omega) (by omega)) | exact (.l rfl (fun _ _ => rfl)) | exact (.l rfl (look_own 0 rfl rfl rfl rfl)) | exact (.l rfl (look_own 1 rfl rfl rfl rfl)) | exact (.l rfl (look_own 2 rfl rfl rfl rfl)) | exact (.l rfl (look_agg 0 rfl rfl rfl rfl)) | exact (.l rfl (look_agg 1 rfl rfl rfl rfl)))
            | refine ops_skip rfl rfl rfl ?_
            | (refine ops_step rfl rfl rfl ?_; first | (refine step_box rfl rfl rfl (fun _ => ?_)) | (refine step_alloc rfl rfl rfl rfl (fun _ => ?_)) | (refine step_buildSliceF rfl rfl rfl rfl rfl rfl (fun _ => ?_)) | (refine step_map rfl (fun _ => ?_)) | (refine step_storeZ 0 rfl rfl rfl rfl rfl rfl rfl rfl rfl ?_))))
    rename_i sb
    refine ops_step rfl rfl rfl (step_appendC 3 rfl rfl rfl rfl rfl rfl rfl rfl owna.full (fun H hs => src_own (j := 0) hs rfl rfl 1) rfl (by first | rfl | exact allCell_map (fun _ => rfl) _) (by first | rfl | (simp; done) | (simp; omega)) (by omega) (by omega) (fun a4 c4 p4 own4 => ?_))
    repeat (first
        | (refine exec_more ?_; first
            | refine exec_seq ?_
            | refine exec_region ?_
            | refine exec_block ?_
            | refine exec_skip ?_
            | refine exec_exit ?_
            | refine exec_ret ?_
            | refine exec_true rfl ?_
            | refine exec_false rfl ?_)
        | refine ops_nil ?_
        | (refine ops_more ?_; first
            | (apply ops_pl rfl rfl rfl ?_ rfl ?_; rotate_left; focus first | exact (.bld rfl rfl rfl rfl) | exact (.cat rfl rfl rfl (by first | (simp; done) | (simp; omega))) | exact (.neSelf rfl rfl rfl rfl) | exact (.eqSelf rfl rfl rfl rfl) | exact (.wr64 rfl rfl (by omega) (by omega)) | exact (.p rfl rfl) | exact (.cv64 rfl (fun _ => rfl) (by omega) (by omega)) | exact (.l rfl (fun _ _ => rfl)) | exact (.l rfl (look_own 0 rfl rfl rfl rfl)) | exact (.l rfl (look_own 1 rfl rfl rfl rfl)) | exact (.l rfl (look_own 2 rfl rfl rfl rfl)) | exact (.l rfl (look_agg 0 rfl rfl rfl rfl)) | exact (.l rfl (look_agg 1 rfl rfl rfl rfl)))
            | refine ops_skip rfl rfl rfl ?_
            | (refine ops_step rfl rfl rfl ?_; first | (refine step_box rfl rfl rfl (fun _ => ?_)) | (refine step_alloc rfl rfl rfl rfl (fun _ => ?_)) | (refine step_buildSliceF rfl rfl rfl rfl rfl rfl (fun _ => ?_)) | (refine step_map rfl (fun _ => ?_)) | (refine step_storeZ 0 rfl rfl rfl rfl rfl rfl rfl rfl rfl ?_))))
    refine ops_step rfl rfl rfl (step_call_fp [] _ rfl rfl rfl (List.Perm.refl _) (fun H hs hst => all_ok (l := liA l ++ [((1 : Int), [])]) hst hm ((hT.mono (by repeat first | exact List.Sublist.refl _ | apply List.Sublist.cons)).pure hs) (by rw [typC_app]; exact (own4.slM hs (by simp)).toX) (ownb.slM hs (by simp)).toX (by omega)) (fun v F' h => ?_))
    obtain ⟨ea, en, ec, pe, rfl, rfl, owne⟩ := h
    rw [if_neg (by omega)] at owne
    rw [decide_eq_false (by omega)]
    have hen : en = 0 := by have := owne.len; rw [typC_length] at this; simp at this; omega
    subst hen
    repeat (first
        | (refine exec_more ?_; first
            | refine exec_seq ?_
            | refine exec_region ?_
            | refine exec_block ?_
            | refine exec_skip ?_
            | refine exec_exit ?_
            | refine exec_ret ?_
            | refine exec_true rfl ?_
            | refine exec_false rfl ?_)
        | refine ops_nil ?_
        | (refine ops_more ?_; first
            | (apply ops_pl rfl rfl rfl ?_ rfl ?_; rotate_left; focus first | exact (.bld rfl rfl rfl rfl) | exact (.cat rfl rfl rfl (by first | (simp; done) | (simp; omega))) | exact (.neSelf rfl rfl rfl rfl) | exact (.eqSelf rfl rfl rfl rfl) | exact (.wr64 rfl rfl (by omega) (by omega)) | exact (.p rfl rfl) | exact (.cv64 rfl (fun _ => rfl) (by omega) (by omega)) | exact (.l rfl (fun _ _ => rfl)) | exact (.l rfl (look_own 0 rfl rfl rfl rfl)) | exact (.l rfl (look_own 1 rfl rfl rfl rfl)) | exact (.l rfl (look_own 2 rfl rfl rfl rfl)) | exact (.l rfl (look_agg 0 rfl rfl rfl rfl)) | exact (.l rfl (look_agg 1 rfl rfl rfl rfl)))
            | refine ops_skip rfl rfl rfl ?_
            | (refine ops_step rfl rfl rfl ?_; first | (refine step_box rfl rfl rfl (fun _ => ?_)) | (refine step_alloc rfl rfl rfl rfl (fun _ => ?_)) | (refine step_buildSliceF rfl rfl rfl rfl rfl rfl (fun _ => ?_)) | (refine step_map rfl (fun _ => ?_)) | (refine step_storeZ 0 rfl rfl rfl rfl rfl rfl rfl rfl rfl ?_))))
    exact ⟨trivial, _, rfl, rfl⟩
end Go.Proofs.Ythifbkjkiijkoaa

