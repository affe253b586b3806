/-
  Walks: the classes of which things are made.
-/
import Derived.Test.YthifbkjkiijkoaaSeat2
import Derived.Test.YthifbkjkiijkoaaTree4
namespace Go.Proofs.Ythifbkjkiijkoaa
open Go.Ev Go.Ev.Wk
set_option linter.unusedVariables false
set_option linter.unusedSimpArgs false
variable {O : Old}



def nameB : List UInt8 := [110, 97, 109, 101]
def okM (m : MV) : Prop := m.nm = nameB → m.st = false ∧ m.ab = false ∧ m.rk = 2 ∧ m.rc = []
def okMs (l : List MV) : Prop := ∀ m ∈ l, okM m
theorem okMs.app {l : List MV} {m : MV} (h : okMs l) (hm : okM m) : okMs (l ++ [m]) := fun x hx => by
  rcases List.mem_append.1 hx with h1 | h1
  · exact h x h1
  · cases List.mem_singleton.1 h1; exact hm

/-- all of a class but its methods -/
structure CHead (c : CV) (nm su : List UInt8) (kd : Int) (ia : Option Addr) (iN ic : Nat) (fa : Option Addr) (fN fc : Nat) (ifs : List (List UInt8)) (fl : List FV) : Prop where
  nm : c.nm = nm
  su : c.su = su
  kd : c.kd = kd
  ia : c.ia = ia
  iN : c.iN = iN
  ic : c.ic = ic
  fa : c.fa = fa
  fN : c.fN = fN
  fc : c.fc = fc
  ifs : c.ifs = ifs
  fl : c.fl = fl
  core : c.core = true

/-- the same with other methods -/
abbrev CV.meth (c : CV) (a : Option Addr) (n k : Nat) (l : List MV) : CV := ⟨c.nm, c.su, c.ia, c.iN, c.ic, c.kd, c.fa, c.fN, c.fc, a, n, k, c.ifs, c.core, c.fl, l⟩

theorem CHead.meth {c : CV} {nm su : List UInt8} {kd : Int} {ia : Option Addr} {iN ic : Nat} {fa : Option Addr} {fN fc : Nat} {ifs : List (List UInt8)} {fl : List FV} (h : CHead c nm su kd ia iN ic fa fN fc ifs fl) (a : Option Addr) (n k : Nat) (l : List MV) : CHead (c.meth a n k l) nm su kd ia iN ic fa fN fc ifs fl :=
  ⟨h.nm, h.su, h.kd, h.ia, h.iN, h.ic, h.fa, h.fN, h.fc, h.ifs, h.fl, h.core⟩

/-- its methods' list is the walk's own -/
structure MOwn (c : CV) (p : Option Nat × Cont) : Prop where
  own : OwnC 9 65 c.ma c.mN c.mc (c.ml.flatMap MV.cells) p
  n : c.mN ≤ 5
  ok : okMs c.ml

theorem MOwn.app {c : CV} {p p' : Option Nat × Cont} {m : MV} {a : Option Addr} {k : Nat} (h : MOwn c p) (hn : c.mN + 1 ≤ 5) (hm : okM m) (own : OwnA 9 65 a (c.mN + 1) k (c.ml.flatMap MV.cells ++ m.cells) p') : MOwn (c.meth a (c.mN + 1) k (c.ml ++ [m])) p' :=
  ⟨.inl (by rw [List.flatMap_append]; simpa using own), hn, h.ok.app hm⟩

theorem okM_of {m : MV} (x : List UInt8) (h : m.nm = x) (hx : x ≠ nameB) : okM m := fun e => absurd (h.symm.trans e) hx
theorem okM_name {m : MV} (h : m.st = false ∧ m.ab = false ∧ m.rk = 2 ∧ m.rc = []) : okM m := fun _ => h

abbrev HBase (ib fb : Nat) (c : CV) : Prop := CHead c [66, 97, 115, 101] objB 2 (some ⟨ib, 0, some 0⟩) 1 1 (some ⟨fb, 0, some 0⟩) 4 4 [[73]] [⟨[120], 1, [], false⟩, ⟨[110, 101, 120, 116], 4, [66, 97, 115, 101], false⟩, ⟨[119], 1, [], false⟩, ⟨[117, 110, 117, 115, 101, 100], 2, [], false⟩]
abbrev HA (fb : Nat) (c : CV) : Prop := CHead c [65] [66, 97, 115, 101] 1 none 0 0 (some ⟨fb, 0, some 0⟩) 1 1 [] [⟨[99, 111, 117, 110, 116], 1, [], true⟩]
abbrev HB (kd : Int) (c : CV) : Prop := CHead c [66] [65] kd none 0 0 none 0 0 [] []
abbrev HMid (ia : Option Addr) (iN ic fb : Nat) (ifs : List (List UInt8)) (c : CV) : Prop := CHead c [77, 105, 100] [66, 97, 115, 101] 2 ia iN ic (some ⟨fb, 0, some 0⟩) 1 1 ifs [⟨[109], 1, [], false⟩]
abbrev HC (c : CV) : Prop := CHead c [67] [77, 105, 100] 1 none 0 0 none 0 0 [] []
abbrev HD (ib fb : Nat) (c : CV) : Prop := CHead c [68] [66, 97, 115, 101] 3 (some ⟨ib, 0, some 0⟩) 1 1 (some ⟨fb, 0, some 0⟩) 2 2 [[74]] [⟨[119, 97, 115, 116, 101], 1, [], true⟩, ⟨[120], 2, [], false⟩]

theorem CHead.rd {c : CV} {nm su : List UInt8} {kd : Int} {ia : Option Addr} {iN ic : Nat} {fa : Option Addr} {fN fc : Nat} {ifs : List (List UInt8)} {fl : List FV} {p : Option Nat × Cont} {Z : Atoms} (h : CHead c nm su kd ia iN ic fa fN fc ifs fl) (hp : MOwn c p) (hpz : p ∈ Z) (hN : iN ≤ 1000000)
    (hi : Rd Z fun H => Sl O H (.slice ia iN ic) 1 iN (ifs.map str)) (hf : Rd Z fun H => Sl O H (.slice fa fN fc) 4 fN (fl.flatMap FV.cells)) : Rd Z fun H => ClsF O H c := fun X H0 H hst =>
  ⟨by rw [h.ia, h.iN, h.ic, h.ifs]; exact hi X H0 H hst, by rw [h.iN]; exact hN, fun _ => by rw [h.fa, h.fN, h.fc, h.fl]; exact hf X H0 H hst, fun _ => hp.own.rd hpz X H0 H hst⟩
theorem rdNil {z : Nat} {Z : Atoms} : Rd Z fun H => Sl O H (.slice none 0 0) z 0 [] := fun _ _ _ _ => Sl.nil

/-- what a class is, apart from any memory -/
structure PH (c : CV) (nm su : List UInt8) (kd : Int) (ifs : List (List UInt8)) (fl : List FV) : Prop where
  nm : c.nm = nm
  su : c.su = su
  kd : c.kd = kd
  ifs : c.ifs = ifs
  fl : c.fl = fl
  core : c.core = true
theorem CHead.pure {c : CV} {nm su : List UInt8} {kd : Int} {ia : Option Addr} {iN ic : Nat} {fa : Option Addr} {fN fc : Nat} {ifs : List (List UInt8)} {fl : List FV} (h : CHead c nm su kd ia iN ic fa fN fc ifs fl) : PH c nm su kd ifs fl := ⟨h.nm, h.su, h.kd, h.ifs, h.fl, h.core⟩

def HasN (c : CV) : Prop := ∃ m ∈ c.ml, m.nm = nameB ∧ m.rk = 2 ∧ m.rc = []
theorem HasN.app {c : CV} {a : Option Addr} {n k : Nat} {m : MV} (h : HasN c) : HasN (c.meth a n k (c.ml ++ [m])) := by
  obtain ⟨x, hx, h⟩ := h
  exact ⟨x, List.mem_append.2 (.inl hx), h⟩

/-- the classes of which things are made -/
structure Fam (m6 : Bool) (kd : Int) (c4 c5 c6 c7 c8 c9 : CV) : Prop where
  hkd : kd = 1 ∨ kd = 3
  h4 : PH c4 [66, 97, 115, 101] objB 2 [[73]] [⟨[120], 1, [], false⟩, ⟨[110, 101, 120, 116], 4, [66, 97, 115, 101], false⟩, ⟨[119], 1, [], false⟩, ⟨[117, 110, 117, 115, 101, 100], 2, [], false⟩]
  h5 : PH c5 [65] [66, 97, 115, 101] 1 [] [⟨[99, 111, 117, 110, 116], 1, [], true⟩]
  h6 : PH c6 [66] [65] kd [] []
  h7 : PH c7 [77, 105, 100] [66, 97, 115, 101] 2 (match m6 with | true => [[74]] | false => []) [⟨[109], 1, [], false⟩]
  h8 : PH c8 [67] [77, 105, 100] 1 [] []
  h9 : PH c9 [68] [66, 97, 115, 101] 3 [[74]] [⟨[119, 97, 115, 116, 101], 1, [], true⟩, ⟨[120], 2, [], false⟩]
  m4 : okMs c4.ml ∧ c4.mN ≤ 5
  m5 : okMs c5.ml ∧ c5.mN ≤ 5
  m6 : okMs c6.ml ∧ c6.mN ≤ 5
  m7 : okMs c7.ml ∧ c7.mN ≤ 5
  m8 : okMs c8.ml ∧ c8.mN ≤ 5
  m9 : okMs c9.ml ∧ c9.mN ≤ 5
  nm : HasN c4

set_option maxHeartbeats 64000000 in
set_option maxRecDepth 100000 in
theorem seatFamily_ok {H : Heap} {k0 k1 k2 k3 : Int} (hst : St (blksOf []) H H []) (h0 : 0 ≤ k0 ∧ k0 ≤ 255) (h1 : 0 ≤ k1 ∧ k1 ≤ 255) (h2 : 0 ≤ k2 ∧ k2 ≤ 255) (h3 : 0 ≤ k3 ∧ k3 ≤ 255) :
    FpC TT O 47 [.agg #[.int .u8 k0, .int .u8 k1, .int .u8 k2, .int .u8 k3]] H [] fun v F' => ∃ (a : Option Addr) (c : Nat) (m6 : Bool) (kd : Int) (c4 c5 c6 c7 c8 c9 : CV), v = .slice a 6 c ∧ Fam m6 kd c4 c5 c6 c7 c8 c9 ∧ Rd F' fun H => ClsH O H v [c4, c5, c6, c7, c8, c9] := by
  refine call_fp rfl rfl rfl rfl rfl hst ?_
  repeat (first | refine zrb ?_ | (refine zn ?_; intro _) | refine ops_step rfl rfl rfl (step_call_pure rfl rfl rfl (fun H hs => by first | exact seatTyp_ok | exact seatRef_ok | exact seatOne_ok | exact seatNum_ok | exact seatStr_ok | exact seatAt_ok | exact seatOf_ok | exact seatPart_ok | exact seatCall_ok | exact seatMethod_ok) ?_))
  refine ExecS.pick [1, 3, 4, 32] [true, false, true, true, true, true] rfl rfl ?_
  rename_i kb ib fb b4 cd mb
  obtain ⟨c4, hc4⟩ : ∃ c4 : CV, c4 = ⟨[66, 97, 115, 101], objB, some ⟨ib, 0, some 0⟩, 1, 1, 2, some ⟨fb, 0, some 0⟩, 4, 4, some ⟨mb, 0, some 0⟩, 1, 1, [[73]], true, [⟨[120], 1, [], false⟩, ⟨[110, 101, 120, 116], 4, [66, 97, 115, 101], false⟩, ⟨[119], 1, [], false⟩, ⟨[117, 110, 117, 115, 101, 100], 2, [], false⟩], [(⟨[110, 97, 109, 101], 2, [], false, false, 1, some ⟨cd, 0, some 0⟩, 2, 2⟩ : MV)]⟩ := ⟨_, rfl⟩
  obtain ⟨p, hpe⟩ : ∃ p : Option Nat × Cont, p = (some mb, .cells 0 (c4.ml.flatMap MV.cells) 9 65) := ⟨_, rfl⟩
  have hc : HBase ib fb c4 := by subst hc4; exact ⟨rfl, rfl, rfl, rfl, rfl, rfl, rfl, rfl, rfl, rfl, rfl, rfl⟩
  have hp : MOwn c4 p := by subst hc4; subst hpe; exact ⟨.full rfl, Nat.le_of_ble_eq_true rfl, fun m hm => by cases List.mem_singleton.1 hm; exact okM_name ⟨rfl, rfl, rfl, rfl⟩⟩
  have hx : HasN c4 := by subst hc4; exact ⟨_, List.mem_singleton.2 rfl, rfl, rfl, rfl⟩
  have hn : c4.mN ≤ 1 := by subst hc4; exact Nat.le_refl _
  obtain ⟨fbA, hfbA⟩ : ∃ q : Option Nat × Cont, q = (some fb, .cells 0 (([⟨[120], 1, [], false⟩, ⟨[110, 101, 120, 116], 4, [66, 97, 115, 101], false⟩, ⟨[119], 1, [], false⟩, ⟨[117, 110, 117, 115, 101, 100], 2, [], false⟩] : List FV).flatMap FV.cells) 4 59) := ⟨_, rfl⟩
  obtain ⟨ibA, hibA⟩ : ∃ q : Option Nat × Cont, q = (some ib, .cells 0 [str [73]] 1 9) := ⟨_, rfl⟩
  refine ExecS.weakL (L' := [p, (some b4, .cells 0 c4.cells 0 70), fbA, ibA, (some kb, .cells 0 [.int .u8 k0, .int .u8 k1, .int .u8 k2, .int .u8 k3] 0 22)]) (by rw [hpe, hfbA, hibA, hc4]; exact List.Sublist.refl _) ?_
  clear hc4 hpe
  refine exec_mid (fun E L => SubE [(1, ptr kb), (3, .slice none 0 0), (4, ptr b4)] E ∧ ∃ (c4 : CV) (p : Option Nat × Cont), HBase ib fb c4 ∧ MOwn c4 p ∧ HasN c4 ∧ c4.mN ≤ 2 ∧ (p :: (some b4, .cells 0 c4.cells 0 70) :: fbA :: ibA :: (some kb, .cells 0 [.int .u8 k0, .int .u8 k1, .int .u8 k2, .int .u8 k3] 0 22) :: []).Sublist L) ?_ ?_
  · refine exec_cond rfl (fun _ => ?_) (fun _ => ?_)
    · refine exec_draw (lst := [(0, 0), (1, 1), (2, 0), (3, 4), (4, 12), (5, 31), (6, 63), (7, 127)]) (full := 255) (by kernel_rfl) (by kernel_rfl) (by kernel_rfl) (by kernel_rfl) ?_
      repeat (first | refine zdb ?_ | refine draw_w rfl rfl rfl rfl rfl rfl (step_call_pure rfl rfl rfl (fun H hs => by first | exact seatTyp_ok | exact seatRef_ok | exact seatOne_ok | exact seatNum_ok | exact seatStr_ok | exact seatAt_ok | exact seatOf_ok | exact seatPart_ok | exact seatCall_ok | exact seatMethod_ok) (zst ?_)) | refine draw_a rfl rfl rfl rfl rfl (step_buildSliceF rfl rfl rfl rfl rfl rfl (fun _ => (zst ?_))) | refine draw_a rfl rfl rfl rfl rfl (step_alloc rfl rfl rfl rfl (fun _ => (zst ?_))))
      try refine draw_nil ?_
      refine draw_w rfl rfl rfl rfl rfl rfl (step_appendC 1 rfl rfl rfl rfl rfl rfl rfl rfl hp.own (fun H hs => src_own (j := 0) hs rfl rfl 1) rfl (by first | rfl | exact allCell_map (fun _ => rfl) _) (by first | rfl | (simp; done) | (simp; omega)) (by omega) (by omega) (fun a2 c2 p2 own2 => (zst ?_)))
      repeat (first | refine zdb ?_)
      try refine draw_nil ?_
      refine draw_w rfl rfl rfl rfl rfl rfl (step_storeZ 2 rfl rfl rfl rfl rfl rfl rfl rfl rfl (zst ?_))
      refine draw_nil ?_
      refine ⟨⟨rfl, rfl, rfl, trivial⟩, c4.meth a2 (c4.mN + 1) c2 (c4.ml ++ [(⟨[114, 117, 110], 1, [], false, true, 0, none, 0, 0⟩ : MV)]), p2, hc.meth _ _ _ _, hp.app (by omega) (okM_of [114, 117, 110] rfl (by decide)) own2, hx.app, by simp only; omega, List.Sublist.cons_cons _ (List.Sublist.cons _ (List.Sublist.refl _))⟩
    · repeat (first | refine zrb ?_ | (refine zn ?_; intro _))
      exact ⟨⟨rfl, rfl, rfl, trivial⟩, c4, p, hc, hp, hx, by omega, List.Sublist.refl _⟩
  clear hc hp hn hx
  rintro E L ⟨hE, c4, p, hc, hp, hx, hn, hL⟩
  refine ExecS.weak hE hL ?_
  clear hE hL

  repeat (first | refine zrb ?_ | (refine zn ?_; intro _))
  refine ExecS.weak (pickE_sub (ks := [1, 3, 4, 43]) rfl) (List.Sublist.refl _) ?_
  refine exec_mid (fun E L => SubE [(1, ptr kb), (3, .slice none 0 0), (4, ptr b4)] E ∧ ∃ (c4 : CV) (p : Option Nat × Cont), HBase ib fb c4 ∧ MOwn c4 p ∧ HasN c4 ∧ c4.mN ≤ 3 ∧ (p :: (some b4, .cells 0 c4.cells 0 70) :: fbA :: ibA :: (some kb, .cells 0 [.int .u8 k0, .int .u8 k1, .int .u8 k2, .int .u8 k3] 0 22) :: []).Sublist L) ?_ ?_
  · refine exec_cond rfl (fun _ => ?_) (fun _ => ?_)
    · refine exec_draw (lst := [(0, 0), (1, 1), (2, 0), (3, 4), (4, 15), (5, 31), (6, 63)]) (full := 127) (by kernel_rfl) (by kernel_rfl) (by kernel_rfl) (by kernel_rfl) ?_
      repeat (first | refine zdb ?_)
      try refine draw_nil ?_
      refine draw_w rfl rfl rfl rfl rfl rfl (step_call_ex rfl rfl rfl (fun H hs => seatClinit_ok) (fun v h => (zst ?_)))
      obtain ⟨ca, cN, cc, rfl⟩ := h
      repeat (first | refine zdb ?_ | refine draw_w rfl rfl rfl rfl rfl rfl (step_call_pure rfl rfl rfl (fun H hs => by first | exact seatTyp_ok | exact seatRef_ok | exact seatOne_ok | exact seatNum_ok | exact seatStr_ok | exact seatAt_ok | exact seatOf_ok | exact seatPart_ok | exact seatCall_ok | exact seatMethod_ok) (zst ?_)) | refine draw_a rfl rfl rfl rfl rfl (step_buildSliceF rfl rfl rfl rfl rfl rfl (fun _ => (zst ?_))) | refine draw_a rfl rfl rfl rfl rfl (step_alloc rfl rfl rfl rfl (fun _ => (zst ?_))))
      try refine draw_nil ?_
      refine draw_w rfl rfl rfl rfl rfl rfl (step_appendC 1 rfl rfl rfl rfl rfl rfl rfl rfl hp.own (fun H hs => src_own (j := 0) hs rfl rfl 1) rfl (by first | rfl | exact allCell_map (fun _ => rfl) _) (by first | rfl | (simp; done) | (simp; omega)) (by omega) (by omega) (fun a2 c2 p2 own2 => (zst ?_)))
      repeat (first | refine zdb ?_)
      try refine draw_nil ?_
      refine draw_w rfl rfl rfl rfl rfl rfl (step_storeZ 2 rfl rfl rfl rfl rfl rfl rfl rfl rfl (zst ?_))
      refine draw_nil ?_
      refine ⟨⟨rfl, rfl, rfl, trivial⟩, c4.meth a2 (c4.mN + 1) c2 (c4.ml ++ [(⟨[99, 108, 105, 110, 105, 116], 5, [], true, false, 0, ca, cN, cc⟩ : MV)]), p2, hc.meth _ _ _ _, hp.app (by omega) (okM_of [99, 108, 105, 110, 105, 116] rfl (by decide)) own2, hx.app, by simp only; omega, List.Sublist.cons_cons _ (List.Sublist.cons _ (List.Sublist.refl _))⟩
    · repeat (first | refine zrb ?_ | (refine zn ?_; intro _))
      exact ⟨⟨rfl, rfl, rfl, trivial⟩, c4, p, hc, hp, hx, by omega, List.Sublist.refl _⟩
  clear hc hp hn hx
  rintro E L ⟨hE, c4, p, hc, hp, hx, hn, hL⟩
  refine ExecS.weak hE hL ?_
  clear hE hL

  refine ExecS.reord [1, 3] rfl ?_
  obtain ⟨Z, hZ⟩ : ∃ Z : Atoms, Z = [p, fbA, ibA] := ⟨_, rfl⟩
  rw [← hZ]
  have r4 : Rd Z fun H => ClsF O H c4 := hc.rd hp (by rw [hZ]; simp) (by omega) (Rd.sl (i := 2) (by rw [hZ, hibA]; rfl) rfl 1) (Rd.sl (i := 1) (by rw [hZ, hfbA]; rfl) rfl 4)
  have c4h := hc
  have c4m := And.intro hp.ok hp.n
  have c4x := hx
  clear hc hp hn hx hZ hfbA hibA
  clear p fbA ibA
  repeat (first | refine zrb ?_ | (refine zn ?_; intro _))
  refine exec_draw (lst := [(3, 0), (4, 8), (8, 0), (0, 0), (1, 1), (2, 3), (5, 25), (6, 57), (7, 127), (9, 511)]) (full := 1023) (by kernel_rfl) (by kernel_rfl) (by kernel_rfl) (by kernel_rfl) ?_
  repeat (first | refine zdb ?_ | refine draw_w rfl rfl rfl rfl rfl rfl (step_call_pure rfl rfl rfl (fun H hs => by first | exact seatTyp_ok | exact seatRef_ok | exact seatOne_ok | exact seatNum_ok | exact seatStr_ok | exact seatAt_ok | exact seatOf_ok | exact seatPart_ok | exact seatCall_ok | exact seatMethod_ok) (zst ?_)) | refine draw_a rfl rfl rfl rfl rfl (step_buildSliceF rfl rfl rfl rfl rfl rfl (fun _ => (zst ?_))) | refine draw_a rfl rfl rfl rfl rfl (step_alloc rfl rfl rfl rfl (fun _ => (zst ?_))))
  try refine draw_nil ?_
  refine draw_w rfl rfl rfl rfl rfl rfl (step_call_ex rfl rfl rfl (fun H hs => seatRun_ok) (fun v h => (zst ?_)))
  obtain ⟨ca, cN, cc, rfl⟩ := h
  repeat (first | refine zdb ?_ | refine draw_w rfl rfl rfl rfl rfl rfl (step_call_pure rfl rfl rfl (fun H hs => by first | exact seatTyp_ok | exact seatRef_ok | exact seatOne_ok | exact seatNum_ok | exact seatStr_ok | exact seatAt_ok | exact seatOf_ok | exact seatPart_ok | exact seatCall_ok | exact seatMethod_ok) (zst ?_)) | refine draw_a rfl rfl rfl rfl rfl (step_buildSliceF rfl rfl rfl rfl rfl rfl (fun _ => (zst ?_))) | refine draw_a rfl rfl rfl rfl rfl (step_alloc rfl rfl rfl rfl (fun _ => (zst ?_))))
  try refine draw_nil ?_
  refine draw_w rfl rfl rfl rfl rfl rfl (step_storeZ 2 rfl rfl rfl rfl rfl rfl rfl rfl rfl (zst ?_))
  refine draw_nil ?_
  rename_i b5 fb mb
  repeat (first | refine zrb ?_ | (refine zn ?_; intro _))
  refine ExecS.weak (pickE_sub (ks := [1, 3, 4, 5, 61]) rfl) (List.Sublist.refl _) ?_
  obtain ⟨c5, hc5⟩ : ∃ c5 : CV, c5 = ⟨[65], [66, 97, 115, 101], none, 0, 0, 1, some ⟨fb, 0, some 0⟩, 1, 1, some ⟨mb, 0, some 0⟩, 1, 1, [], true, [⟨[99, 111, 117, 110, 116], 1, [], true⟩], [(⟨[114, 117, 110], 1, [], false, false, 1, ca, cN, cc⟩ : MV)]⟩ := ⟨_, rfl⟩
  obtain ⟨p, hpe⟩ : ∃ p : Option Nat × Cont, p = (some mb, .cells 0 (c5.ml.flatMap MV.cells) 9 65) := ⟨_, rfl⟩
  have hc : HA fb c5 := by subst hc5; exact ⟨rfl, rfl, rfl, rfl, rfl, rfl, rfl, rfl, rfl, rfl, rfl, rfl⟩
  have hp : MOwn c5 p := by subst hc5; subst hpe; exact ⟨.full rfl, Nat.le_of_ble_eq_true rfl, fun m hm => by cases List.mem_singleton.1 hm; exact okM_of [114, 117, 110] rfl (by decide)⟩
  have hn : c5.mN ≤ 1 := by subst hc5; exact Nat.le_refl _
  obtain ⟨fbA, hfbA⟩ : ∃ q : Option Nat × Cont, q = (some fb, .cells 0 (([⟨[99, 111, 117, 110, 116], 1, [], true⟩] : List FV).flatMap FV.cells) 4 59) := ⟨_, rfl⟩
  refine ExecS.weakL (L' := p :: fbA :: (some b5, .cells 0 c5.cells 0 70) :: (some b4, .cells 0 c4.cells 0 70) :: (some kb, .cells 0 [.int .u8 k0, .int .u8 k1, .int .u8 k2, .int .u8 k3] 0 22) :: Z) (by rw [hpe, hfbA, hc5]; exact List.Sublist.refl _) ?_
  clear hc5 hpe
  refine exec_mid (fun E L => SubE [(1, ptr kb), (3, .slice none 0 0), (4, ptr b4), (5, ptr b5)] E ∧ ∃ (c5 : CV) (p : Option Nat × Cont), HA fb c5 ∧ MOwn c5 p ∧ c5.mN ≤ 2 ∧ (p :: fbA :: (some b5, .cells 0 c5.cells 0 70) :: (some b4, .cells 0 c4.cells 0 70) :: (some kb, .cells 0 [.int .u8 k0, .int .u8 k1, .int .u8 k2, .int .u8 k3] 0 22) :: Z).Sublist L) ?_ ?_
  · refine exec_cond rfl (fun _ => ?_) (fun _ => ?_)
    · refine exec_draw (lst := [(0, 0), (1, 1), (2, 0), (3, 4), (4, 15), (5, 31), (6, 63)]) (full := 127) (by kernel_rfl) (by kernel_rfl) (by kernel_rfl) (by kernel_rfl) ?_
      repeat (first | refine zdb ?_)
      try refine draw_nil ?_
      refine draw_w rfl rfl rfl rfl rfl rfl (step_call_ex rfl rfl rfl (fun H hs => seatClinit_ok) (fun v h => (zst ?_)))
      obtain ⟨ca, cN, cc, rfl⟩ := h
      repeat (first | refine zdb ?_ | refine draw_w rfl rfl rfl rfl rfl rfl (step_call_pure rfl rfl rfl (fun H hs => by first | exact seatTyp_ok | exact seatRef_ok | exact seatOne_ok | exact seatNum_ok | exact seatStr_ok | exact seatAt_ok | exact seatOf_ok | exact seatPart_ok | exact seatCall_ok | exact seatMethod_ok) (zst ?_)) | refine draw_a rfl rfl rfl rfl rfl (step_buildSliceF rfl rfl rfl rfl rfl rfl (fun _ => (zst ?_))) | refine draw_a rfl rfl rfl rfl rfl (step_alloc rfl rfl rfl rfl (fun _ => (zst ?_))))
      try refine draw_nil ?_
      refine draw_w rfl rfl rfl rfl rfl rfl (step_appendC 1 rfl rfl rfl rfl rfl rfl rfl rfl hp.own (fun H hs => src_own (j := 0) hs rfl rfl 1) rfl (by first | rfl | exact allCell_map (fun _ => rfl) _) (by first | rfl | (simp; done) | (simp; omega)) (by omega) (by omega) (fun a2 c2 p2 own2 => (zst ?_)))
      repeat (first | refine zdb ?_)
      try refine draw_nil ?_
      refine draw_w rfl rfl rfl rfl rfl rfl (step_storeZ 3 rfl rfl rfl rfl rfl rfl rfl rfl rfl (zst ?_))
      refine draw_nil ?_
      refine ⟨⟨rfl, rfl, rfl, rfl, trivial⟩, c5.meth a2 (c5.mN + 1) c2 (c5.ml ++ [(⟨[99, 108, 105, 110, 105, 116], 5, [], true, false, 0, ca, cN, cc⟩ : MV)]), p2, hc.meth _ _ _ _, hp.app (by omega) (okM_of [99, 108, 105, 110, 105, 116] rfl (by decide)) own2, by simp only; omega, List.Sublist.cons_cons _ (List.Sublist.cons _ (List.Sublist.refl _))⟩
    · repeat (first | refine zrb ?_ | (refine zn ?_; intro _))
      exact ⟨⟨rfl, rfl, rfl, rfl, trivial⟩, c5, p, hc, hp, by omega, List.Sublist.refl _⟩
  clear hc hp hn
  rintro E L ⟨hE, c5, p, hc, hp, hn, hL⟩
  refine ExecS.weak hE hL ?_
  clear hE hL

  refine ExecS.reord [2, 2, 2] rfl ?_
  obtain ⟨Z2, hZ⟩ : ∃ Z2 : Atoms, Z2 = p :: fbA :: Z := ⟨_, rfl⟩
  rw [← hZ]
  have r5 : Rd Z2 fun H => ClsF O H c5 := hc.rd hp (by rw [hZ]; simp) (by omega) rdNil (Rd.sl (i := 1) (by rw [hZ, hfbA]; rfl) rfl 1)
  replace r4 : Rd Z2 fun H => ClsF O H c4 := r4.mono (by rw [hZ]; exact List.Sublist.cons _ (List.Sublist.cons _ (List.Sublist.refl _)))
  have c5h := hc
  have c5m := And.intro hp.ok hp.n
  clear hc hp hn hZ hfbA
  clear p fbA

  have hkv : (IntKind.u8.wrap (k0.tdiv 8)).tmod 2 = ((k0.toNat / 8 % 2 : Nat) : Int) := by
    have e1 : k0.tdiv 8 = ((k0.toNat / 8 : Nat) : Int) := tdivN (m := 8) (by omega) (by omega)
    rw [w8 e1 (by omega) (by omega)]
    exact tmodN (m := 2) (by omega) (by omega)
  obtain ⟨kd, hkd, hv⟩ : ∃ kd : Int, (kd = 1 ∨ kd = 3) ∧ [Value.int IntKind.i64 1, Value.int IntKind.i64 3][0 + ((k0.toNat / 8 % 2 : Nat) : Int).toNat * 1]? = some (.int .i64 kd) := by
    rcases (by omega : k0.toNat / 8 % 2 = 0 ∨ k0.toNat / 8 % 2 = 1) with h | h <;> rw [h]
    · exact ⟨1, .inl rfl, rfl⟩
    · exact ⟨3, .inr rfl, rfl⟩
  repeat (first | refine zrb ?_ | (refine zn ?_; intro _))
  rw [hkv]
  (first | apply ops_pl rfl rfl rfl ?_ rfl ?_ | apply draw_pl rfl rfl rfl rfl ?_ rfl rfl ?_); rotate_left; focus exact (.p rfl (opP_idxo (z := 1) rfl rfl rfl rfl (by omega) (by omega)))
  first | refine ops_pl rfl rfl rfl (.l rfl (look_own 0 rfl rfl rfl hv)) rfl ?_ | refine draw_pl rfl rfl rfl rfl (.l rfl (look_own 0 rfl rfl rfl hv)) rfl rfl ?_
  repeat (first | refine zrb ?_ | (refine zn ?_; intro _))
  rename_i kdb b6
  refine ExecS.weak (pickE_sub (ks := [1, 3, 4, 5, 6, 79]) rfl) (List.Sublist.refl _) ?_
  refine ExecS.ghost ?_
  obtain ⟨c6, hc6⟩ : ∃ c6 : CV, c6 = ⟨[66], [65], none, 0, 0, kd, none, 0, 0, none, 0, 0, [], true, [], []⟩ := ⟨_, rfl⟩
  obtain ⟨p, hpe⟩ : ∃ p : Option Nat × Cont, p = (none, .map []) := ⟨_, rfl⟩
  have hc : HB kd c6 := by subst hc6; exact ⟨rfl, rfl, rfl, rfl, rfl, rfl, rfl, rfl, rfl, rfl, rfl, rfl⟩
  have hp : MOwn c6 p := by subst hc6; subst hpe; exact ⟨.nil _, Nat.zero_le _, fun m hm => by cases hm⟩
  have hn : c6.mN ≤ 0 := by subst hc6; exact Nat.le_refl _
  refine ExecS.weakL (L' := p :: (some b6, .cells 0 c6.cells 0 70) :: (some b5, .cells 0 c5.cells 0 70) :: (some b4, .cells 0 c4.cells 0 70) :: (some kb, .cells 0 [.int .u8 k0, .int .u8 k1, .int .u8 k2, .int .u8 k3] 0 22) :: Z2) (by rw [hpe, hc6]; exact List.Sublist.cons_cons _ (List.Sublist.cons_cons _ (List.Sublist.cons _ (List.Sublist.refl _)))) ?_
  clear hc6 hpe hkv hv
  refine exec_mid (fun E L => SubE [(1, ptr kb), (3, .slice none 0 0), (4, ptr b4), (5, ptr b5), (6, ptr b6)] E ∧ ∃ (c6 : CV) (p : Option Nat × Cont), HB kd c6 ∧ MOwn c6 p ∧ c6.mN ≤ 1 ∧ (p :: (some b6, .cells 0 c6.cells 0 70) :: (some b5, .cells 0 c5.cells 0 70) :: (some b4, .cells 0 c4.cells 0 70) :: (some kb, .cells 0 [.int .u8 k0, .int .u8 k1, .int .u8 k2, .int .u8 k3] 0 22) :: Z2).Sublist L) ?_ ?_
  · refine exec_cond rfl (fun _ => ?_) (fun _ => ?_)
    · refine exec_draw (lst := [(0, 0), (1, 1), (2, 0), (3, 4), (4, 12), (5, 28), (6, 63), (7, 127), (8, 255)]) (full := 511) (by kernel_rfl) (by kernel_rfl) (by kernel_rfl) (by kernel_rfl) ?_
      repeat (first | refine zdb ?_)
      try refine draw_nil ?_
      refine draw_w rfl rfl rfl rfl rfl rfl (step_call_ex rfl rfl rfl (fun H hs => seatRun_ok) (fun v h => (zst ?_)))
      obtain ⟨ca, cN, cc, rfl⟩ := h
      repeat (first | refine zdb ?_ | refine draw_w rfl rfl rfl rfl rfl rfl (step_call_pure rfl rfl rfl (fun H hs => by first | exact seatTyp_ok | exact seatRef_ok | exact seatOne_ok | exact seatNum_ok | exact seatStr_ok | exact seatAt_ok | exact seatOf_ok | exact seatPart_ok | exact seatCall_ok | exact seatMethod_ok) (zst ?_)) | refine draw_a rfl rfl rfl rfl rfl (step_buildSliceF rfl rfl rfl rfl rfl rfl (fun _ => (zst ?_))) | refine draw_a rfl rfl rfl rfl rfl (step_alloc rfl rfl rfl rfl (fun _ => (zst ?_))))
      try refine draw_nil ?_
      refine draw_w rfl rfl rfl rfl rfl rfl (step_appendC 1 rfl rfl rfl rfl rfl rfl rfl rfl hp.own (fun H hs => src_own (j := 0) hs rfl rfl 1) rfl (by first | rfl | exact allCell_map (fun _ => rfl) _) (by first | rfl | (simp; done) | (simp; omega)) (by omega) (by omega) (fun a2 c2 p2 own2 => (zst ?_)))
      repeat (first | refine zdb ?_)
      try refine draw_nil ?_
      refine draw_w rfl rfl rfl rfl rfl rfl (step_storeZ 2 rfl rfl rfl rfl rfl rfl rfl rfl rfl (zst ?_))
      refine draw_nil ?_
      refine ⟨⟨rfl, rfl, rfl, rfl, rfl, trivial⟩, c6.meth a2 (c6.mN + 1) c2 (c6.ml ++ [(⟨[114, 117, 110], 1, [], false, false, 1, ca, cN, cc⟩ : MV)]), p2, hc.meth _ _ _ _, hp.app (by omega) (okM_of [114, 117, 110] rfl (by decide)) own2, by simp only; omega, List.Sublist.cons_cons _ (List.Sublist.cons _ (List.Sublist.refl _))⟩
    · repeat (first | refine zrb ?_ | (refine zn ?_; intro _))
      exact ⟨⟨rfl, rfl, rfl, rfl, rfl, trivial⟩, c6, p, hc, hp, by omega, List.Sublist.refl _⟩
  clear hc hp hn
  rintro E L ⟨hE, c6, p, hc, hp, hn, hL⟩
  refine ExecS.weak hE hL ?_
  clear hE hL

  repeat (first | refine zrb ?_ | (refine zn ?_; intro _))
  refine ExecS.weak (pickE_sub (ks := [1, 3, 4, 5, 6, 91]) rfl) (List.Sublist.refl _) ?_
  refine exec_mid (fun E L => SubE [(1, ptr kb), (3, .slice none 0 0), (4, ptr b4), (5, ptr b5), (6, ptr b6)] E ∧ ∃ (c6 : CV) (p : Option Nat × Cont), HB kd c6 ∧ MOwn c6 p ∧ c6.mN ≤ 2 ∧ (p :: (some b6, .cells 0 c6.cells 0 70) :: (some b5, .cells 0 c5.cells 0 70) :: (some b4, .cells 0 c4.cells 0 70) :: (some kb, .cells 0 [.int .u8 k0, .int .u8 k1, .int .u8 k2, .int .u8 k3] 0 22) :: Z2).Sublist L) ?_ ?_
  · refine exec_cond rfl (fun _ => ?_) (fun _ => ?_)
    · refine exec_draw (lst := [(0, 0), (1, 1), (2, 0), (3, 0), (4, 8), (5, 24), (6, 56), (7, 120), (8, 248), (9, 504), (10, 1020), (11, 2044), (12, 4095), (13, 8191), (14, 16383)]) (full := 32767) (by kernel_rfl) (by kernel_rfl) (by kernel_rfl) (by kernel_rfl) ?_
      repeat (first | refine zdb ?_ | refine draw_w rfl rfl rfl rfl rfl rfl (step_call_pure rfl rfl rfl (fun H hs => by first | exact seatTyp_ok | exact seatRef_ok | exact seatOne_ok | exact seatNum_ok | exact seatStr_ok | exact seatAt_ok | exact seatOf_ok | exact seatPart_ok | exact seatCall_ok | exact seatMethod_ok) (zst ?_)) | refine draw_a rfl rfl rfl rfl rfl (step_buildSliceF rfl rfl rfl rfl rfl rfl (fun _ => (zst ?_))) | refine draw_a rfl rfl rfl rfl rfl (step_alloc rfl rfl rfl rfl (fun _ => (zst ?_))))
      try refine draw_nil ?_
      refine draw_w rfl rfl rfl rfl rfl rfl (step_appendC 2 rfl rfl rfl rfl rfl rfl rfl rfl hp.own (fun H hs => src_own (j := 0) hs rfl rfl 1) rfl (by first | rfl | exact allCell_map (fun _ => rfl) _) (by first | rfl | (simp; done) | (simp; omega)) (by omega) (by omega) (fun a2 c2 p2 own2 => (zst ?_)))
      repeat (first | refine zdb ?_)
      try refine draw_nil ?_
      refine draw_w rfl rfl rfl rfl rfl rfl (step_storeZ 3 rfl rfl rfl rfl rfl rfl rfl rfl rfl (zst ?_))
      refine draw_nil ?_
      refine ⟨⟨rfl, rfl, rfl, rfl, rfl, trivial⟩, c6.meth a2 (c6.mN + 1) c2 (c6.ml ++ [(⟨[110, 97, 109, 101], 2, [], false, false, 1, _, _, _⟩ : MV)]), p2, hc.meth _ _ _ _, hp.app (by omega) (okM_name ⟨rfl, rfl, rfl, rfl⟩) own2, by simp only; omega, List.Sublist.cons_cons _ (List.Sublist.cons _ (List.Sublist.cons _ (List.Sublist.refl _)))⟩
    · repeat (first | refine zrb ?_ | (refine zn ?_; intro _))
      exact ⟨⟨rfl, rfl, rfl, rfl, rfl, trivial⟩, c6, p, hc, hp, by omega, List.Sublist.refl _⟩
  clear hc hp hn
  rintro E L ⟨hE, c6, p, hc, hp, hn, hL⟩
  refine ExecS.weak hE hL ?_
  clear hE hL

  refine ExecS.reord [1, 1, 1, 1] rfl ?_
  obtain ⟨Z3, hZ⟩ : ∃ Z3 : Atoms, Z3 = p :: Z2 := ⟨_, rfl⟩
  rw [← hZ]
  have r6 : Rd Z3 fun H => ClsF O H c6 := hc.rd hp (by rw [hZ]; simp) (by omega) rdNil rdNil
  replace r5 : Rd Z3 fun H => ClsF O H c5 := r5.mono (by rw [hZ]; exact List.Sublist.cons _ (List.Sublist.refl _))
  replace r4 : Rd Z3 fun H => ClsF O H c4 := r4.mono (by rw [hZ]; exact List.Sublist.cons _ (List.Sublist.refl _))
  have c6h := hc
  have c6m := And.intro hp.ok hp.n
  clear hc hp hn hZ
  clear p

  repeat (first | refine zrb ?_ | (refine zn ?_; intro _) | refine ops_step rfl rfl rfl (step_call_pure rfl rfl rfl (fun H hs => by first | exact seatTyp_ok | exact seatRef_ok | exact seatOne_ok | exact seatNum_ok | exact seatStr_ok | exact seatAt_ok | exact seatOf_ok | exact seatPart_ok | exact seatCall_ok | exact seatMethod_ok) ?_))
  rename_i fb b7
  refine ExecS.weak (pickE_sub (ks := [1, 3, 4, 5, 6, 7, 113]) rfl) (List.Sublist.refl _) ?_
  refine ExecS.ghost ?_
  obtain ⟨fbA, hfbA⟩ : ∃ q : Option Nat × Cont, q = (some fb, .cells 0 (([⟨[109], 1, [], false⟩] : List FV).flatMap FV.cells) 4 59) := ⟨_, rfl⟩
  refine ExecS.weakL (L' := (none, .map []) :: (some b7, .cells 0 [str [77, 105, 100], str [66, 97, 115, 101], .slice none 0 0, .int .i64 2, .slice (some ⟨fb, 0, some 0⟩) 1 1, .slice none 0 0] 0 70) :: fbA :: (some b6, .cells 0 c6.cells 0 70) :: (some b5, .cells 0 c5.cells 0 70) :: (some b4, .cells 0 c4.cells 0 70) :: (some kb, .cells 0 [.int .u8 k0, .int .u8 k1, .int .u8 k2, .int .u8 k3] 0 22) :: Z3) (by rw [hfbA]; exact List.Sublist.refl _) ?_
  refine exec_mid (fun E L => SubE [(1, ptr kb), (3, .slice none 0 0), (4, ptr b4), (5, ptr b5), (6, ptr b6), (7, ptr b7)] E ∧ ∃ (m6 : Bool) (ia : Option Addr) (iN ic : Nat) (ifs : List (List UInt8)) (pi : Option Nat × Cont), ifs = (match m6 with | true => [[74]] | false => []) ∧ iN ≤ 1 ∧ OwnC 1 9 ia iN ic (ifs.map str) pi ∧ (pi :: (some b7, .cells 0 [str [77, 105, 100], str [66, 97, 115, 101], .slice ia iN ic, .int .i64 2, .slice (some ⟨fb, 0, some 0⟩) 1 1, .slice none 0 0] 0 70) :: fbA :: (some b6, .cells 0 c6.cells 0 70) :: (some b5, .cells 0 c5.cells 0 70) :: (some b4, .cells 0 c4.cells 0 70) :: (some kb, .cells 0 [.int .u8 k0, .int .u8 k1, .int .u8 k2, .int .u8 k3] 0 22) :: Z3).Sublist L) ?_ ?_
  · refine exec_cond rfl (fun _ => ?_) (fun _ => ?_)
    · repeat (first | refine zrb ?_ | (refine zn ?_; intro _))
      exact ⟨⟨rfl, rfl, rfl, rfl, rfl, rfl, trivial⟩, true, _, 1, 1, [[74]], _, rfl, Nat.le_refl _, .full rfl, List.Sublist.cons_cons _ (List.Sublist.cons _ (List.Sublist.refl _))⟩
    · repeat (first | refine zrb ?_ | (refine zn ?_; intro _))
      exact ⟨⟨rfl, rfl, rfl, rfl, rfl, rfl, trivial⟩, false, none, 0, 0, [], _, rfl, by omega, .nil _, List.Sublist.refl _⟩
  rintro E L ⟨hE, m6, ia, iN, ic, ifs, pi, hifs, hiN, howi, hL⟩
  refine ExecS.weak hE hL ?_
  clear hE hL
  refine ExecS.ghost ?_
  obtain ⟨c7, hc7⟩ : ∃ c7 : CV, c7 = ⟨[77, 105, 100], [66, 97, 115, 101], ia, iN, ic, 2, some ⟨fb, 0, some 0⟩, 1, 1, none, 0, 0, ifs, true, [⟨[109], 1, [], false⟩], []⟩ := ⟨_, rfl⟩
  obtain ⟨p, hpe⟩ : ∃ p : Option Nat × Cont, p = (none, .map []) := ⟨_, rfl⟩
  have hc : HMid ia iN ic fb ifs c7 := by subst hc7; exact ⟨rfl, rfl, rfl, rfl, rfl, rfl, rfl, rfl, rfl, rfl, rfl, rfl⟩
  have hp : MOwn c7 p := by subst hc7; subst hpe; exact ⟨.nil _, Nat.zero_le _, fun m hm => by cases hm⟩
  refine ExecS.weakL (L' := p :: pi :: (some b7, .cells 0 c7.cells 0 70) :: fbA :: (some b6, .cells 0 c6.cells 0 70) :: (some b5, .cells 0 c5.cells 0 70) :: (some b4, .cells 0 c4.cells 0 70) :: (some kb, .cells 0 [.int .u8 k0, .int .u8 k1, .int .u8 k2, .int .u8 k3] 0 22) :: Z3) (by rw [hpe, hc7]; exact List.Sublist.refl _) ?_
  refine ExecS.reord [2, 3, 3, 3, 3] rfl ?_
  obtain ⟨Z4, hZ⟩ : ∃ Z4 : Atoms, Z4 = p :: pi :: fbA :: Z3 := ⟨_, rfl⟩
  rw [← hZ]
  have sub34 : Z3.Sublist Z4 := by rw [hZ]; exact List.Sublist.cons _ (List.Sublist.cons _ (List.Sublist.cons _ (List.Sublist.refl _)))
  have r7 : Rd Z4 fun H => ClsF O H c7 := hc.rd hp (by rw [hZ]; simp) (by omega) (howi.rd (by rw [hZ]; simp)) (Rd.sl (i := 2) (by rw [hZ, hfbA]; rfl) rfl 1)
  replace r6 : Rd Z4 fun H => ClsF O H c6 := r6.mono sub34
  replace r5 : Rd Z4 fun H => ClsF O H c5 := r5.mono sub34
  replace r4 : Rd Z4 fun H => ClsF O H c4 := r4.mono sub34
  have c7h := hc
  have c7m := And.intro hp.ok hp.n
  clear hc hp hZ hfbA hpe hc7 howi sub34
  clear p fbA pi

  repeat (first | refine zrc ?_ | (refine zn ?_; intro _))
  refine ops_step rfl rfl rfl (step_call_ex rfl rfl rfl (fun H hs => seatRun_ok) (fun v h => ?_))
  obtain ⟨ca, cN, cc, rfl⟩ := h
  repeat (first | refine zrc ?_ | (refine zn ?_; intro _) | refine ops_step rfl rfl rfl (step_call_pure rfl rfl rfl (fun H hs => by first | exact seatTyp_ok | exact seatRef_ok | exact seatOne_ok | exact seatNum_ok | exact seatStr_ok | exact seatAt_ok | exact seatOf_ok | exact seatPart_ok | exact seatCall_ok | exact seatMethod_ok) ?_))
  rename_i cd mb b8
  refine ExecS.weak (pickE_sub (ks := [1, 3, 4, 5, 6, 7, 8, 131]) rfl) (List.Sublist.refl _) ?_
  refine ExecS.reord [1] rfl ?_
  obtain ⟨c8, hc8⟩ : ∃ c8 : CV, c8 = ⟨[67], [77, 105, 100], none, 0, 0, 1, none, 0, 0, some ⟨mb, 0, some 0⟩, 2, 2, [], true, [], [(⟨[114, 117, 110], 1, [], false, false, 1, ca, cN, cc⟩ : MV), (⟨[101, 120, 116, 114, 97], 1, [], false, false, 1, some ⟨cd, 0, some 0⟩, 3, 3⟩ : MV)]⟩ := ⟨_, rfl⟩
  obtain ⟨p, hpe⟩ : ∃ p : Option Nat × Cont, p = (some mb, .cells 0 (c8.ml.flatMap MV.cells) 9 65) := ⟨_, rfl⟩
  have hc : HC c8 := by subst hc8; exact ⟨rfl, rfl, rfl, rfl, rfl, rfl, rfl, rfl, rfl, rfl, rfl, rfl⟩
  have hp : MOwn c8 p := by subst hc8; subst hpe; exact ⟨.full rfl, Nat.le_of_ble_eq_true rfl, fun m hm => by
    simp only [List.mem_cons, List.not_mem_nil, or_false] at hm
    rcases hm with rfl | rfl
    · exact okM_of [114, 117, 110] rfl (by decide)
    · exact okM_of [101, 120, 116, 114, 97] rfl (by decide)⟩
  have hn : c8.mN ≤ 2 := by subst hc8; exact Nat.le_refl _
  refine ExecS.weakL (L' := p :: (some b8, .cells 0 c8.cells 0 70) :: (some b7, .cells 0 c7.cells 0 70) :: (some b6, .cells 0 c6.cells 0 70) :: (some b5, .cells 0 c5.cells 0 70) :: (some b4, .cells 0 c4.cells 0 70) :: (some kb, .cells 0 [.int .u8 k0, .int .u8 k1, .int .u8 k2, .int .u8 k3] 0 22) :: Z4) (by rw [hpe, hc8]; exact List.Sublist.cons_cons _ (List.Sublist.cons_cons _ (List.Sublist.cons _ (List.Sublist.refl _)))) ?_
  clear hc8 hpe
  refine exec_mid (fun E L => SubE [(1, ptr kb), (3, .slice none 0 0), (4, ptr b4), (5, ptr b5), (6, ptr b6), (7, ptr b7), (8, ptr b8)] E ∧ ∃ (c8 : CV) (p : Option Nat × Cont), HC c8 ∧ MOwn c8 p ∧ c8.mN ≤ 3 ∧ (p :: (some b8, .cells 0 c8.cells 0 70) :: (some b7, .cells 0 c7.cells 0 70) :: (some b6, .cells 0 c6.cells 0 70) :: (some b5, .cells 0 c5.cells 0 70) :: (some b4, .cells 0 c4.cells 0 70) :: (some kb, .cells 0 [.int .u8 k0, .int .u8 k1, .int .u8 k2, .int .u8 k3] 0 22) :: Z4).Sublist L) ?_ ?_
  · refine exec_cond rfl (fun _ => ?_) (fun _ => ?_)
    · refine exec_draw (lst := [(0, 0), (1, 1), (2, 0), (3, 0), (4, 8), (5, 24), (6, 56), (7, 120), (8, 248), (9, 504), (10, 1020), (11, 2044), (12, 4095), (13, 8191), (14, 16383)]) (full := 32767) (by kernel_rfl) (by kernel_rfl) (by kernel_rfl) (by kernel_rfl) ?_
      repeat (first | refine zdc ?_ | refine draw_w rfl rfl rfl rfl rfl rfl (step_call_pure rfl rfl rfl (fun H hs => by first | exact seatTyp_ok | exact seatRef_ok | exact seatOne_ok | exact seatNum_ok | exact seatStr_ok | exact seatAt_ok | exact seatOf_ok | exact seatPart_ok | exact seatCall_ok | exact seatMethod_ok) (zst ?_)) | refine draw_a rfl rfl rfl rfl rfl (step_buildSliceF rfl rfl rfl rfl rfl rfl (fun _ => (zst ?_))) | refine draw_a rfl rfl rfl rfl rfl (step_alloc rfl rfl rfl rfl (fun _ => (zst ?_))))
      try refine draw_nil ?_
      refine draw_w rfl rfl rfl rfl rfl rfl (step_appendC 2 rfl rfl rfl rfl rfl rfl rfl rfl hp.own (fun H hs => src_own (j := 0) hs rfl rfl 1) rfl (by first | rfl | exact allCell_map (fun _ => rfl) _) (by first | rfl | (simp; done) | (simp; omega)) (by omega) (by omega) (fun a2 c2 p2 own2 => (zst ?_)))
      repeat (first | refine zdc ?_)
      try refine draw_nil ?_
      refine draw_w rfl rfl rfl rfl rfl rfl (step_storeZ 3 rfl rfl rfl rfl rfl rfl rfl rfl rfl (zst ?_))
      refine draw_nil ?_
      refine ⟨⟨rfl, rfl, rfl, rfl, rfl, rfl, rfl, trivial⟩, c8.meth a2 (c8.mN + 1) c2 (c8.ml ++ [(⟨[110, 97, 109, 101], 2, [], false, false, 1, _, _, _⟩ : MV)]), p2, hc.meth _ _ _ _, hp.app (by omega) (okM_name ⟨rfl, rfl, rfl, rfl⟩) own2, by simp only; omega, List.Sublist.cons_cons _ (List.Sublist.cons _ (List.Sublist.cons _ (List.Sublist.refl _)))⟩
    · repeat (first | refine zrc ?_ | (refine zn ?_; intro _))
      exact ⟨⟨rfl, rfl, rfl, rfl, rfl, rfl, rfl, trivial⟩, c8, p, hc, hp, by omega, List.Sublist.refl _⟩
  clear hc hp hn
  rintro E L ⟨hE, c8, p, hc, hp, hn, hL⟩
  refine ExecS.weak hE hL ?_
  clear hE hL

  refine ExecS.reord [1, 1, 1, 1, 1, 1] rfl ?_
  obtain ⟨Z5, hZ⟩ : ∃ Z5 : Atoms, Z5 = p :: Z4 := ⟨_, rfl⟩
  rw [← hZ]
  have sub45 : Z4.Sublist Z5 := by rw [hZ]; exact List.Sublist.cons _ (List.Sublist.refl _)
  have r8 : Rd Z5 fun H => ClsF O H c8 := hc.rd hp (by rw [hZ]; simp) (by omega) rdNil rdNil
  replace r7 : Rd Z5 fun H => ClsF O H c7 := r7.mono sub45
  replace r6 : Rd Z5 fun H => ClsF O H c6 := r6.mono sub45
  replace r5 : Rd Z5 fun H => ClsF O H c5 := r5.mono sub45
  replace r4 : Rd Z5 fun H => ClsF O H c4 := r4.mono sub45
  have c8h := hc
  have c8m := And.intro hp.ok hp.n
  clear hc hp hn hZ sub45
  clear p

  repeat (first | refine zrc ?_ | (refine zn ?_; intro _))
  refine exec_draw (lst := [(0, 0), (6, 0), (7, 64), (8, 0), (9, 256), (10, 960), (14, 0), (1, 0), (2, 2), (3, 2), (4, 10), (5, 30), (11, 1994), (12, 4042), (13, 8191), (15, 32767)]) (full := 65535) (by kernel_rfl) (by kernel_rfl) (by kernel_rfl) (by kernel_rfl) ?_
  repeat (first | refine zdc ?_ | refine draw_w rfl rfl rfl rfl rfl rfl (step_call_pure rfl rfl rfl (fun H hs => by first | exact seatTyp_ok | exact seatRef_ok | exact seatOne_ok | exact seatNum_ok | exact seatStr_ok | exact seatAt_ok | exact seatOf_ok | exact seatPart_ok | exact seatCall_ok | exact seatMethod_ok) (zst ?_)) | refine draw_a rfl rfl rfl rfl rfl (step_buildSliceF rfl rfl rfl rfl rfl rfl (fun _ => (zst ?_))) | refine draw_a rfl rfl rfl rfl rfl (step_alloc rfl rfl rfl rfl (fun _ => (zst ?_))))
  try refine draw_nil ?_
  refine draw_w rfl rfl rfl rfl rfl rfl (step_call_ex rfl rfl rfl (fun H hs => seatRun_ok) (fun v h => (zst ?_)))
  obtain ⟨ca, cN, cc, rfl⟩ := h
  repeat (first | refine zdc ?_ | refine draw_w rfl rfl rfl rfl rfl rfl (step_call_pure rfl rfl rfl (fun H hs => by first | exact seatTyp_ok | exact seatRef_ok | exact seatOne_ok | exact seatNum_ok | exact seatStr_ok | exact seatAt_ok | exact seatOf_ok | exact seatPart_ok | exact seatCall_ok | exact seatMethod_ok) (zst ?_)) | refine draw_a rfl rfl rfl rfl rfl (step_buildSliceF rfl rfl rfl rfl rfl rfl (fun _ => (zst ?_))) | refine draw_a rfl rfl rfl rfl rfl (step_alloc rfl rfl rfl rfl (fun _ => (zst ?_))))
  try refine draw_nil ?_
  refine draw_w rfl rfl rfl rfl rfl rfl (step_storeZ 2 rfl rfl rfl rfl rfl rfl rfl rfl rfl (zst ?_))
  refine draw_nil ?_
  rename_i ib b9 fb mb
  repeat (first | refine zrc ?_ | (refine zn ?_; intro _))
  refine ExecS.weak (pickE_sub (ks := [1, 3, 4, 5, 6, 7, 8, 9, 163]) rfl) (List.Sublist.refl _) ?_
  obtain ⟨c9, hc9⟩ : ∃ c9 : CV, c9 = ⟨[68], [66, 97, 115, 101], some ⟨ib, 0, some 0⟩, 1, 1, 3, some ⟨fb, 0, some 0⟩, 2, 2, some ⟨mb, 0, some 0⟩, 1, 1, [[74]], true, [⟨[119, 97, 115, 116, 101], 1, [], true⟩, ⟨[120], 2, [], false⟩], [(⟨[114, 117, 110], 1, [], false, false, 1, ca, cN, cc⟩ : MV)]⟩ := ⟨_, rfl⟩
  obtain ⟨p, hpe⟩ : ∃ p : Option Nat × Cont, p = (some mb, .cells 0 (c9.ml.flatMap MV.cells) 9 65) := ⟨_, rfl⟩
  have hc : HD ib fb c9 := by subst hc9; exact ⟨rfl, rfl, rfl, rfl, rfl, rfl, rfl, rfl, rfl, rfl, rfl, rfl⟩
  have hp : MOwn c9 p := by subst hc9; subst hpe; exact ⟨.full rfl, Nat.le_of_ble_eq_true rfl, fun m hm => by cases List.mem_singleton.1 hm; exact okM_of [114, 117, 110] rfl (by decide)⟩
  have hn : c9.mN ≤ 1 := by subst hc9; exact Nat.le_refl _
  obtain ⟨fbA, hfbA⟩ : ∃ q : Option Nat × Cont, q = (some fb, .cells 0 (([⟨[119, 97, 115, 116, 101], 1, [], true⟩, ⟨[120], 2, [], false⟩] : List FV).flatMap FV.cells) 4 59) := ⟨_, rfl⟩
  obtain ⟨ibA, hibA⟩ : ∃ q : Option Nat × Cont, q = (some ib, .cells 0 [str [74]] 1 9) := ⟨_, rfl⟩
  refine ExecS.weakL (L' := p :: fbA :: (some b9, .cells 0 c9.cells 0 70) :: ibA :: (some b8, .cells 0 c8.cells 0 70) :: (some b7, .cells 0 c7.cells 0 70) :: (some b6, .cells 0 c6.cells 0 70) :: (some b5, .cells 0 c5.cells 0 70) :: (some b4, .cells 0 c4.cells 0 70) :: (some kb, .cells 0 [.int .u8 k0, .int .u8 k1, .int .u8 k2, .int .u8 k3] 0 22) :: Z5) (by rw [hpe, hfbA, hibA, hc9]; exact List.Sublist.refl _) ?_
  clear hc9 hpe
  refine exec_mid (fun E L => SubE [(1, ptr kb), (3, .slice none 0 0), (4, ptr b4), (5, ptr b5), (6, ptr b6), (7, ptr b7), (8, ptr b8), (9, ptr b9)] E ∧ ∃ (c9 : CV) (p : Option Nat × Cont), HD ib fb c9 ∧ MOwn c9 p ∧ c9.mN ≤ 2 ∧ (p :: fbA :: (some b9, .cells 0 c9.cells 0 70) :: ibA :: (some b8, .cells 0 c8.cells 0 70) :: (some b7, .cells 0 c7.cells 0 70) :: (some b6, .cells 0 c6.cells 0 70) :: (some b5, .cells 0 c5.cells 0 70) :: (some b4, .cells 0 c4.cells 0 70) :: (some kb, .cells 0 [.int .u8 k0, .int .u8 k1, .int .u8 k2, .int .u8 k3] 0 22) :: Z5).Sublist L) ?_ ?_
  · refine exec_cond rfl (fun _ => ?_) (fun _ => ?_)
    · refine exec_draw (lst := [(0, 0), (1, 1), (2, 0), (3, 4), (4, 15), (5, 31), (6, 63)]) (full := 127) (by kernel_rfl) (by kernel_rfl) (by kernel_rfl) (by kernel_rfl) ?_
      repeat (first | refine zdc ?_)
      try refine draw_nil ?_
      refine draw_w rfl rfl rfl rfl rfl rfl (step_call_ex rfl rfl rfl (fun H hs => seatClinit_ok) (fun v h => (zst ?_)))
      obtain ⟨ca, cN, cc, rfl⟩ := h
      repeat (first | refine zdc ?_ | refine draw_w rfl rfl rfl rfl rfl rfl (step_call_pure rfl rfl rfl (fun H hs => by first | exact seatTyp_ok | exact seatRef_ok | exact seatOne_ok | exact seatNum_ok | exact seatStr_ok | exact seatAt_ok | exact seatOf_ok | exact seatPart_ok | exact seatCall_ok | exact seatMethod_ok) (zst ?_)) | refine draw_a rfl rfl rfl rfl rfl (step_buildSliceF rfl rfl rfl rfl rfl rfl (fun _ => (zst ?_))) | refine draw_a rfl rfl rfl rfl rfl (step_alloc rfl rfl rfl rfl (fun _ => (zst ?_))))
      try refine draw_nil ?_
      refine draw_w rfl rfl rfl rfl rfl rfl (step_appendC 1 rfl rfl rfl rfl rfl rfl rfl rfl hp.own (fun H hs => src_own (j := 0) hs rfl rfl 1) rfl (by first | rfl | exact allCell_map (fun _ => rfl) _) (by first | rfl | (simp; done) | (simp; omega)) (by omega) (by omega) (fun a2 c2 p2 own2 => (zst ?_)))
      repeat (first | refine zdc ?_)
      try refine draw_nil ?_
      refine draw_w rfl rfl rfl rfl rfl rfl (step_storeZ 3 rfl rfl rfl rfl rfl rfl rfl rfl rfl (zst ?_))
      refine draw_nil ?_
      refine ⟨⟨rfl, rfl, rfl, rfl, rfl, rfl, rfl, rfl, trivial⟩, c9.meth a2 (c9.mN + 1) c2 (c9.ml ++ [(⟨[99, 108, 105, 110, 105, 116], 5, [], true, false, 0, ca, cN, cc⟩ : MV)]), p2, hc.meth _ _ _ _, hp.app (by omega) (okM_of [99, 108, 105, 110, 105, 116] rfl (by decide)) own2, by simp only; omega, List.Sublist.cons_cons _ (List.Sublist.cons _ (List.Sublist.refl _))⟩
    · repeat (first | refine zrc ?_ | (refine zn ?_; intro _))
      exact ⟨⟨rfl, rfl, rfl, rfl, rfl, rfl, rfl, rfl, trivial⟩, c9, p, hc, hp, by omega, List.Sublist.refl _⟩
  clear hc hp hn
  rintro E L ⟨hE, c9, p, hc, hp, hn, hL⟩
  refine ExecS.weak hE hL ?_
  clear hE hL

  refine ExecS.reord [2, 3, 3, 3, 3, 3, 3] rfl ?_
  obtain ⟨Z6, hZ⟩ : ∃ Z6 : Atoms, Z6 = p :: fbA :: ibA :: Z5 := ⟨_, rfl⟩
  rw [← hZ]
  have sub56 : Z5.Sublist Z6 := by rw [hZ]; exact List.Sublist.cons _ (List.Sublist.cons _ (List.Sublist.cons _ (List.Sublist.refl _)))
  have r9 : Rd Z6 fun H => ClsF O H c9 := hc.rd hp (by rw [hZ]; simp) (by omega) (Rd.sl (i := 2) (by rw [hZ, hibA]; rfl) rfl 1) (Rd.sl (i := 1) (by rw [hZ, hfbA]; rfl) rfl 2)
  replace r8 : Rd Z6 fun H => ClsF O H c8 := r8.mono sub56
  replace r7 : Rd Z6 fun H => ClsF O H c7 := r7.mono sub56
  replace r6 : Rd Z6 fun H => ClsF O H c6 := r6.mono sub56
  replace r5 : Rd Z6 fun H => ClsF O H c5 := r5.mono sub56
  replace r4 : Rd Z6 fun H => ClsF O H c4 := r4.mono sub56
  have c9h := hc
  have c9m := And.intro hp.ok hp.n
  clear hc hp hn hZ hfbA hibA sub56
  clear p fbA ibA

  repeat (first | refine zrb ?_ | (refine zn ?_; intro _))
  rename_i cb
  refine ⟨trivial, _, rfl, (some cb, .cells 0 ([c4, c5, c6, c7, c8, c9].flatMap CV.cells) 6 70) :: Z6, [(some b9, .cells 0 c9.cells 0 70), (some b8, .cells 0 c8.cells 0 70), (some b7, .cells 0 c7.cells 0 70), (some b6, .cells 0 c6.cells 0 70), (some b5, .cells 0 c5.cells 0 70), (some b4, .cells 0 c4.cells 0 70), (some kb, .cells 0 [.int .u8 k0, .int .u8 k1, .int .u8 k2, .int .u8 k3] 0 22)], ?_, some ⟨cb, 0, some 0⟩, 6, m6, kd, c4, c5, c6, c7, c8, c9, rfl, ⟨hkd, c4h.pure, c5h.pure, c6h.pure, ?_, c8h.pure, c9h.pure, c4m, c5m, c6m, c7m, c8m, c9m, c4x⟩, fun X' H0' H' hst' => ⟨?_, ?_⟩⟩
  · exact (List.perm_append_comm (l₁ := [(some b9, .cells 0 c9.cells 0 70), (some b8, .cells 0 c8.cells 0 70), (some b7, .cells 0 c7.cells 0 70), (some b6, .cells 0 c6.cells 0 70), (some b5, .cells 0 c5.cells 0 70), (some b4, .cells 0 c4.cells 0 70), (some kb, .cells 0 [.int .u8 k0, .int .u8 k1, .int .u8 k2, .int .u8 k3] 0 22)]) (l₂ := Z6)).cons _
  · have := c7h.pure; rw [hifs] at this; exact this
  · exact Rd.sl (i := 0) rfl rfl 6 X' H0' H' hst'
  · have hz := hst'.sublist (List.sublist_cons_self _ _)
    intro c hcm
    simp only [List.mem_cons, List.not_mem_nil, or_false] at hcm
    rcases hcm with rfl | rfl | rfl | rfl | rfl | rfl
    · exact r4 _ _ _ hz
    · exact r5 _ _ _ hz
    · exact r6 _ _ _ hz
    · exact r7 _ _ _ hz
    · exact r8 _ _ _ hz
    · exact r9 _ _ _ hz
end Go.Proofs.Ythifbkjkiijkoaa

