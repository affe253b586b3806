/-
  Lemmas for the laws of this seat.
-/
import Derived.Test.YtlhkndjloeoodaaGreatK8
import Derived.Test.YtlhkndjloeoodaaGreatK6
set_option linter.unusedVariables false
set_option linter.unusedSimpArgs false
namespace Go.Proofs.YtlhkndjloeoodaaGreat
open Go.Ev Go.Ev.Wk
variable {O : Old}
structure Ms (O : Old) (k j : Nat) (ml : List MV) (ma : Option Addr) (mc : Nat) (p : Option Nat × Cont) (Zn : Atoms) : Prop where
  own : OwnC 9 59 ma ml.length mc (ml.flatMap MV.cells) p
  rd : ∀ m ∈ ml, Rd Zn fun H => MethF O H m
  good : ∀ m ∈ ml, GoodM k m.toPM
  n : ml.length ≤ j
theorem Ms.app {k j : Nat} {ml : List MV} {ma a : Option Addr} {mc c : Nat} {p p2 : Option Nat × Cont} {Zn Zm : Atoms} {m : MV} (h : Ms O k j ml ma mc p Zn) (own : OwnA 9 59 a (ml.length + 1) c (ml.flatMap MV.cells ++ m.cells) p2) (hs : Zn.Sublist Zm) (hr : Rd Zm fun H => MethF O H m) (hg : GoodM k m.toPM) : Ms O k (j + 1) (ml ++ [m]) a c p2 Zm where
  own := .inl (by rw [List.length_append, List.length_singleton, flat_one (f := MV.cells)]; exact own)
  rd := fun x hx => (List.mem_append.1 hx).elim (fun h1 => (h.rd x h1).mono hs) (fun h1 => by cases List.mem_singleton.1 h1; exact hr)
  good := fun x hx => (List.mem_append.1 hx).elim (h.good x) (fun h1 => by cases List.mem_singleton.1 h1; exact hg)
  n := by rw [List.length_append, List.length_singleton]; have := h.n; omega
theorem Ms.mono {k j j' : Nat} {ml : List MV} {ma : Option Addr} {mc : Nat} {p : Option Nat × Cont} {Zn : Atoms} (h : Ms O k j ml ma mc p Zn) (e : j ≤ j') : Ms O k j' ml ma mc p Zn := ⟨h.own, h.rd, h.good, Nat.le_trans h.n e⟩
theorem perm_code {p2 nl pc cl : Option Nat × Cont} {rest X : Atoms} : (p2 :: nl :: pc :: cl :: (rest ++ X)).Perm (nl :: p2 :: cl :: (rest ++ (pc :: X))) :=
  (List.Perm.swap nl p2 _).trans (((((List.Perm.swap cl pc _).trans ((List.perm_middle.symm).cons cl))).cons p2).cons nl)
theorem perm_fold {p cl : Option Nat × Cont} {rest X : Atoms} : (p :: cl :: (rest ++ X)).Perm (cl :: (rest ++ (p :: X))) := (List.Perm.swap cl p _).trans ((List.perm_middle.symm).cons cl)
structure Hd (O : Old) (Z : Atoms) (nm su : List UInt8) (ifs : List (List UInt8)) (kd : Int) (fl : List FV) (ia : Option Addr) (ic : Nat) (fa : Option Addr) (fc : Nat) : Prop where
  nm : nameL nm = true
  su : nameL su = true
  hifs : allB ifs 20 nameL = true
  kd : 1 ≤ kd ∧ kd ≤ 4
  hfl : allB fl 10 rightF = true
  ri : Rd Z fun H => Sl O H (.slice ia ifs.length ic) 1 ifs.length (ifs.map str)
  rf : Rd Z fun H => Sl O H (.slice fa fl.length fc) 4 fl.length (fl.flatMap FV.cells)
structure Closed (c : PC) : Prop where
  su : closedB c.su c.ifs = true
  ms : ∀ m ∈ c.ml, tyB m.ps m.rk m.rc = true
  sh : ∀ m ∈ c.ml, ∀ i ∈ m.cl, ShI i
structure GC (O : Old) (k : Nat) (Z : Atoms) (c : CV) : Prop where
  cd : Closed c.pc
  rt : RtC c.pc
  wf : WfC c.pc
  n : cntC c.pc ≤ k
  rd : Rd Z fun H => ClsF O H c
theorem GC.mono {k : Nat} {Z Z' : Atoms} {c : CV} (h : GC O k Z c) (s : Z.Sublist Z') : GC O k Z' c := ⟨h.cd, h.rt, h.wf, h.n, h.rd.mono s⟩
theorem GC.le {k k' : Nat} {Z : Atoms} {c : CV} (h : GC O k Z c) (s : k ≤ k') : GC O k' Z c := ⟨h.cd, h.rt, h.wf, Nat.le_trans h.n s, h.rd⟩
theorem sum_le {α : Type} {f : α → Nat} {k : Nat} : ∀ {l : List α}, (∀ x ∈ l, f x ≤ k) → (l.map f).sum ≤ l.length * k
  | [], _ => by simp
  | x :: l, h => by
    have h1 := h x (by simp)
    have h2 := sum_le (l := l) fun y hy => h y (by simp [hy])
    simp only [List.map_cons, List.sum_cons, List.length_cons, Nat.add_mul, Nat.one_mul]
    omega
theorem Hd.gc {Z Zn : Atoms} {nm su : List UInt8} {ifs : List (List UInt8)} {kd : Int} {fl : List FV} {ia : Option Addr} {ic : Nat} {fa : Option Addr} {fc : Nat} {k j : Nat} {ml : List MV} {ma : Option Addr} {mc : Nat} {p : Option Nat × Cont} (h : Hd O Z nm su ifs kd fl ia ic fa fc) (hm : Ms O k j ml ma mc p Zn) (hj : j ≤ 20) (hk : k ≤ 1000) (hN : closedB su ifs = true := by decide) : GC O (31 + j * (k + 1)) (p :: (Zn ++ Z)) ⟨nm, su, ifs, kd, fl, ml, ia, ic, fa, fc, ma, mc⟩ := by
  have hi := allB_iff.1 h.hifs
  have hf := allB_iff.1 h.hfl
  have hn := hm.n
  refine ⟨⟨hN, fun m hmm => ?_, fun m hmm => ?_⟩, ⟨h.nm, h.su, hi.1, hi.2, h.kd, Nat.le_trans hf.1 (by decide), hf.2, by simp only [List.length_map]; omega, fun m hmm => ?_⟩, ⟨nlen h.nm, nlen h.su, fun s hs => nlen (hi.2 s hs), fun f hff => ?_, fun m hmm => ?_, Nat.le_trans hi.1 (by decide), Nat.le_trans hf.1 (by decide), by simp only [List.length_map]; omega⟩, ?_, ?_⟩
  · obtain ⟨m', h1, rfl⟩ := List.mem_map.1 hmm
    exact (hm.good m' h1).ty
  · obtain ⟨m', h1, rfl⟩ := List.mem_map.1 hmm
    exact (hm.good m' h1).sh
  · obtain ⟨m', h1, rfl⟩ := List.mem_map.1 hmm
    exact (hm.good m' h1).rt
  · have := hf.2 f hff
    simp only [rightF, Bool.and_eq_true] at this
    exact ⟨nlen this.1, Nat.le_trans (typed_len this.2) (by decide)⟩
  · obtain ⟨m', h1, rfl⟩ := List.mem_map.1 hmm
    exact (hm.good m' h1).wf
  · have h1 := sum_le (f := fun m : MV => cntM m.toPM) (k := k + 1) (l := ml) fun m hmm => by have := (hm.good m hmm).n; simp only [cntM]; omega
    have h2 : (List.map cntM (ml.map MV.toPM)).sum = (ml.map fun m : MV => cntM m.toPM).sum := by rw [List.map_map]; rfl
    have h3 : ml.length * (k + 1) ≤ j * (k + 1) := Nat.mul_le_mul_right _ hn
    have h4 := hi.1
    have h5 := hf.1
    simp only [cntC, h2]
    omega
  · have s1 : Z.Sublist (p :: (Zn ++ Z)) := .cons _ (List.sublist_append_right _ _)
    have s2 : Zn.Sublist (p :: (Zn ++ Z)) := .cons _ (List.sublist_append_left _ _)
    exact fun X H0 H hst => ⟨(h.ri.mono s1) X H0 H hst, (h.rf.mono s1) X H0 H hst, hm.own.rd (by simp) X H0 H hst, fun m hmm => ((hm.rd m hmm).mono s2) X H0 H hst⟩
theorem rdNil {z : Nat} {Z : Atoms} : Rd Z fun H => Sl O H (.slice none 0 0) z 0 [] := fun _ _ _ _ => Sl.nil
theorem absM {nm : List UInt8} {rk : Int} {Z : Atoms} : Rd Z fun H => MethF O H ⟨⟨nm, [], rk, [], false, true, 0, [], []⟩, none, 0, none, 0, none, 0⟩ := fun _ _ _ _ => ⟨Sl.nil, Sl.nil, Sl.nil⟩
theorem absGood {k : Nat} {nm : List UInt8} {rk : Int} (h : nameL nm = true) (hr : rightL rk [] = true) (hq : tyB [] rk [] = true := by decide) : GoodM k ⟨nm, [], rk, [], false, true, 0, [], []⟩ := goodM_of h (by decide) hr (by omega) trivial (fun _ h => by cases h) (by simp) (by simp) (by simp) hq
set_option maxHeartbeats 64000000 in
set_option maxRecDepth 100000 in
theorem seatFamily_ok {H : Heap} {k0 k1 k2 k3 : Int} (h0 : 0 ≤ k0 ∧ k0 ≤ 255) :
    FpC TT O 33 [.agg #[.int .u8 k0, .int .u8 k1, .int .u8 k2, .int .u8 k3]] H [] fun v F' => ∃ (fb : Nat) (cl : List CV) (Z : Atoms), v = .slice (some ⟨fb, 0, some 0⟩) 6 6 ∧ F' = (some fb, .cells 0 (cl.flatMap CV.cells) 6 52) :: Z ∧ cl.length = 6 ∧ cl.map CV.nm = [[66, 97, 115, 101], [65], [66], [77, 105, 100], [67], [68]] ∧ ∀ c ∈ cl, GC O 125 Z c := by
  refine call_fp rfl rfl rfl rfl rfl (St.start H) ?_
  repeat (first | refine zrb ?_ | (refine zn ?_; intro _) | refine ops_step rfl rfl rfl (step_call_pure rfl rfl rfl (fun H hs => by first | exact seatTyp_ok | exact seatRef_ok | exact seatOne_ok | exact seatNum_ok | exact seatStr_ok | exact seatAt_ok | exact seatOf_ok | exact seatPart_ok | exact seatCall_ok | exact seatMethod_ok) ?_))
  refine ExecS.pick [1, 3, 4, 32] [true, true, true, true, true, true] rfl rfl ?_
  rename_i kb ib fb b4 cd mb
  refine ExecS.reord [0, 1, 3] rfl ?_
  refine (?_ : ∀ (ml : List MV) (ma : Option Addr) (mc : Nat) (p : Option Nat × Cont) (Zn Z : Atoms), Ms O 30 1 ml ma mc p Zn → Hd O Z [66, 97, 115, 101] [79, 98, 106, 101, 99, 116] [[73]] 2 [(⟨[120], 1, [], false⟩ : FV), (⟨[110, 101, 120, 116], 4, [66, 97, 115, 101], false⟩ : FV), (⟨[119], 1, [], false⟩ : FV), (⟨[117, 110, 117, 115, 101, 100], 2, [], false⟩ : FV)] (some ⟨ib, 0, some 0⟩) 1 (some ⟨fb, 0, some 0⟩) 4 → True → ExecS TT O _ _ _ _ _ (p :: (some b4, Cont.cells 0 ([str [66, 97, 115, 101], str [79, 98, 106, 101, 99, 116], .slice (some ⟨ib, 0, some 0⟩) ([[73]] : List (List UInt8)).length 1, .int .i64 2, .slice (some ⟨fb, 0, some 0⟩) ([(⟨[120], 1, [], false⟩ : FV), (⟨[110, 101, 120, 116], 4, [66, 97, 115, 101], false⟩ : FV), (⟨[119], 1, [], false⟩ : FV), (⟨[117, 110, 117, 115, 101, 100], 2, [], false⟩ : FV)] : List FV).length 4, .slice ma (ml : List MV).length mc] : List Value) 0 52) :: ([(some kb, .cells 0 [.int .u8 k0, .int .u8 k1, .int .u8 k2, .int .u8 k3] 0 25)] ++ (Zn ++ Z))) _) ([methC [110, 97, 109, 101] none [] 0 2 [] false 1 ([⟨2, 0, 0, [98, 97, 115, 101], [], [], []⟩, ⟨39, 0, 0, [], [], [], []⟩] : List Ins) (some ⟨cd, 0, some 0⟩) 2]) (some ⟨mb, 0, some 0⟩) 1 (some mb, Cont.cells 0 (([methC [110, 97, 109, 101] none [] 0 2 [] false 1 ([⟨2, 0, 0, [98, 97, 115, 101], [], [], []⟩, ⟨39, 0, 0, [], [], [], []⟩] : List Ins) (some ⟨cd, 0, some 0⟩) 2] : List MV).flatMap MV.cells) 9 59) ([(some cd, Cont.cells 0 (([⟨2, 0, 0, [98, 97, 115, 101], [], [], []⟩, ⟨39, 0, 0, [], [], [], []⟩] : List Ins).flatMap insL) 7 61)]) ([(some fb, Cont.cells 0 (([(⟨[120], 1, [], false⟩ : FV), (⟨[110, 101, 120, 116], 4, [66, 97, 115, 101], false⟩ : FV), (⟨[119], 1, [], false⟩ : FV), (⟨[117, 110, 117, 115, 101, 100], 2, [], false⟩ : FV)]).flatMap FV.cells) 4 63), (some ib, Cont.cells 0 [str [73]] 1 9)]) (⟨.full rfl, fun m hm => by cases List.mem_singleton.1 hm; exact methC_rd (.full rfl) (List.mem_cons_self ..), fun m hm => by cases List.mem_singleton.1 hm; exact goodM_of (by decide) (by decide) (by decide) (by omega) ⟨gStr (by decide), gOne (by decide) (by decide), trivial⟩ (fun _ h => by cases h) (by simp) (by simp) (by simp), by simp⟩) (⟨by decide, by decide, by decide, by decide, by decide +kernel, Rd.sl (i := 1) rfl rfl 1, Rd.sl (i := 0) rfl rfl 4⟩) trivial
  intro ml ma mc p Zn Z hms hhd hsub
  have hn := hms.n
  refine exec_mid (fun E L => SubE [(1, ptr kb), (3, .slice none 0 0), (4, ptr b4)] E ∧ ∃ (ml : List MV) (ma : Option Addr) (mc : Nat) (p : Option Nat × Cont) (Zn L' : Atoms), Ms O 30 2 ml ma mc p Zn ∧ L.Perm L' ∧ (p :: (some b4, Cont.cells 0 ([str [66, 97, 115, 101], str [79, 98, 106, 101, 99, 116], .slice (some ⟨ib, 0, some 0⟩) ([[73]] : List (List UInt8)).length 1, .int .i64 2, .slice (some ⟨fb, 0, some 0⟩) ([(⟨[120], 1, [], false⟩ : FV), (⟨[110, 101, 120, 116], 4, [66, 97, 115, 101], false⟩ : FV), (⟨[119], 1, [], false⟩ : FV), (⟨[117, 110, 117, 115, 101, 100], 2, [], false⟩ : FV)] : List FV).length 4, .slice ma (ml : List MV).length mc] : List Value) 0 52) :: ([(some kb, .cells 0 [.int .u8 k0, .int .u8 k1, .int .u8 k2, .int .u8 k3] 0 25)] ++ (Zn ++ Z))).Sublist L') ?_ ?_
  · refine exec_cond rfl (fun _ => ?_) (fun _ => ?_)
    · refine exec_draw (lst := [(0, 0), (1, 1), (2, 0), (3, 4), (4, 12), (5, 31), (6, 63), (7, 127)]) (full := 255) (by kernel_rfl) (by kernel_rfl) (by kernel_rfl) (by kernel_rfl) ?_
      repeat (first | refine zdb ?_ | refine draw_w rfl rfl rfl rfl rfl rfl (step_call_pure rfl rfl rfl (fun H hs => by first | exact seatTyp_ok | exact seatRef_ok | exact seatOne_ok | exact seatNum_ok | exact seatStr_ok | exact seatAt_ok | exact seatOf_ok | exact seatPart_ok | exact seatCall_ok | exact seatMethod_ok) (zst ?_)) | refine draw_a rfl rfl rfl rfl rfl (step_buildSliceF rfl rfl rfl rfl rfl rfl (fun _ => (zst ?_))) | refine draw_a rfl rfl rfl rfl rfl (step_alloc rfl rfl rfl rfl (fun _ => (zst ?_))))
      try refine draw_nil ?_
      refine draw_w rfl rfl rfl rfl rfl rfl (step_appendC (z := 9) 1 rfl rfl rfl rfl rfl rfl rfl rfl hms.own (fun H hs => src_own (j := 0) hs rfl rfl 1) rfl (by first | rfl | exact allCell_map (fun _ => rfl) _) (by first | rfl | (simp; done) | (simp; omega)) (by omega) (by omega) (fun a2 c2 p2 own2 => (zst ?_)))
      repeat (first | refine zdb ?_)
      try refine draw_nil ?_
      refine draw_w rfl rfl rfl rfl rfl rfl (step_storeZ 2 rfl rfl rfl rfl rfl rfl rfl rfl rfl (zst ?_))
      refine draw_nil ?_
      exact ⟨⟨rfl, rfl, rfl, trivial⟩, ml ++ [⟨⟨[114, 117, 110], [], 1, [], false, true, 0, [], []⟩, none, 0, none, 0, none, 0⟩], a2, c2, p2, Zn, _, hms.app own2 (.refl _) absM (absGood (by decide) (by decide)), List.Perm.swap _ _ _, by simp only [List.length_append, List.length_singleton]; exact .cons _ (.refl _)⟩
    · repeat (first | refine zrb ?_ | (refine zn ?_; intro _))
      exact ⟨⟨rfl, rfl, rfl, trivial⟩, ml, ma, mc, p, Zn, _, hms.mono (by omega), List.Perm.refl _, .refl _⟩
  clear hn hms
  clear Zn p mc ma ml
  rintro E L ⟨hE, ml, ma, mc, p, Zn, L', hms, hP, hL⟩
  refine ExecS.weak hE (.refl _) ?_
  refine ExecS.perm hP ?_
  refine ExecS.weakL hL ?_
  clear hE hP hL
  have hn := hms.n
  repeat (first | refine zrb ?_ | (refine zn ?_; intro _))
  refine ExecS.weak (pickE_sub (ks := [1, 3, 4, 43]) rfl) (List.Sublist.refl _) ?_
  refine exec_mid (fun E L => SubE [(1, ptr kb), (3, .slice none 0 0), (4, ptr b4)] E ∧ ∃ (ml : List MV) (ma : Option Addr) (mc : Nat) (p : Option Nat × Cont) (Zn L' : Atoms), Ms O 30 3 ml ma mc p Zn ∧ L.Perm L' ∧ (p :: (some b4, Cont.cells 0 ([str [66, 97, 115, 101], str [79, 98, 106, 101, 99, 116], .slice (some ⟨ib, 0, some 0⟩) ([[73]] : List (List UInt8)).length 1, .int .i64 2, .slice (some ⟨fb, 0, some 0⟩) ([(⟨[120], 1, [], false⟩ : FV), (⟨[110, 101, 120, 116], 4, [66, 97, 115, 101], false⟩ : FV), (⟨[119], 1, [], false⟩ : FV), (⟨[117, 110, 117, 115, 101, 100], 2, [], false⟩ : FV)] : List FV).length 4, .slice ma (ml : List MV).length mc] : List Value) 0 52) :: ([(some kb, .cells 0 [.int .u8 k0, .int .u8 k1, .int .u8 k2, .int .u8 k3] 0 25)] ++ (Zn ++ Z))).Sublist L') ?_ ?_
  · refine exec_cond rfl (fun _ => ?_) (fun _ => ?_)
    · refine exec_draw (lst := [(0, 0), (1, 1), (2, 0), (3, 4), (4, 15), (5, 31), (6, 63)]) (full := 127) (by kernel_rfl) (by kernel_rfl) (by kernel_rfl) (by kernel_rfl) ?_
      repeat (first | refine zdb ?_)
      try refine draw_nil ?_
      refine draw_w rfl rfl rfl rfl rfl rfl (step_call_fp [] _ rfl rfl rfl (List.Perm.refl _) (fun H hs hst => seatClinit_ok) (fun v1 F1 h1 => ?_))
      obtain ⟨ca, cc, pc, rfl, rfl, ownc⟩ := h1
      refine (zst ?_)
      repeat (first | refine zdb ?_ | refine draw_w rfl rfl rfl rfl rfl rfl (step_call_pure rfl rfl rfl (fun H hs => by first | exact seatTyp_ok | exact seatRef_ok | exact seatOne_ok | exact seatNum_ok | exact seatStr_ok | exact seatAt_ok | exact seatOf_ok | exact seatPart_ok | exact seatCall_ok | exact seatMethod_ok) (zst ?_)) | refine draw_a rfl rfl rfl rfl rfl (step_buildSliceF rfl rfl rfl rfl rfl rfl (fun _ => (zst ?_))) | refine draw_a rfl rfl rfl rfl rfl (step_alloc rfl rfl rfl rfl (fun _ => (zst ?_))))
      try refine draw_nil ?_
      refine draw_w rfl rfl rfl rfl rfl rfl (step_appendC (z := 9) 2 rfl rfl rfl rfl rfl rfl rfl rfl hms.own (fun H hs => src_own (j := 0) hs rfl rfl 1) rfl (by first | rfl | exact allCell_map (fun _ => rfl) _) (by first | rfl | (simp; done) | (simp; omega)) (by omega) (by omega) (fun a2 c2 p2 own2 => (zst ?_)))
      repeat (first | refine zdb ?_)
      try refine draw_nil ?_
      refine draw_w rfl rfl rfl rfl rfl rfl (step_storeZ 3 rfl rfl rfl rfl rfl rfl rfl rfl rfl (zst ?_))
      refine draw_nil ?_
      exact ⟨⟨rfl, rfl, rfl, trivial⟩, ml ++ [methC [99, 108, 105, 110, 105, 116] none [] 0 5 [] true 0 [⟨2, 0, 0, [98, 97, 115, 101], [], [], []⟩, ⟨41, 0, 0, [], [], [], []⟩, ⟨40, 0, 0, [], [], [], []⟩] ca cc], a2, c2, p2, _ :: Zn, _, hms.app own2 (.cons _ (.refl _)) (methC_rd (ownc) (List.mem_cons_self ..)) (goodM_of (by decide) (by decide) (by decide) (by omega) ⟨gStr (by decide), gOne (by decide) (by decide), gOne (by decide) (by decide), trivial⟩ (fun _ h => by cases h) (by simp) (by simp) (by simp)), perm_code, by simp only [List.length_append, List.length_singleton]; exact .cons _ (.refl _)⟩
    · repeat (first | refine zrb ?_ | (refine zn ?_; intro _))
      exact ⟨⟨rfl, rfl, rfl, trivial⟩, ml, ma, mc, p, Zn, _, hms.mono (by omega), List.Perm.refl _, .refl _⟩
  clear hn hms
  clear Zn p mc ma ml
  rintro E L ⟨hE, ml, ma, mc, p, Zn, L', hms, hP, hL⟩
  refine ExecS.weak hE (.refl _) ?_
  refine ExecS.perm hP ?_
  refine ExecS.weakL hL ?_
  clear hE hP hL
  have hn := hms.n
  have gc4 := hhd.gc hms (by omega) (by omega)
  refine ExecS.perm perm_fold ?_
  obtain ⟨c4, hc4, hd4⟩ : ∃ c4 : CV, c4 = (⟨[66, 97, 115, 101], [79, 98, 106, 101, 99, 116], [[73]], 2, [(⟨[120], 1, [], false⟩ : FV), (⟨[110, 101, 120, 116], 4, [66, 97, 115, 101], false⟩ : FV), (⟨[119], 1, [], false⟩ : FV), (⟨[117, 110, 117, 115, 101, 100], 2, [], false⟩ : FV)], ml, (some ⟨ib, 0, some 0⟩), 1, (some ⟨fb, 0, some 0⟩), 4, ma, mc⟩ : CV) ∧ c4.cells = ([str [66, 97, 115, 101], str [79, 98, 106, 101, 99, 116], .slice (some ⟨ib, 0, some 0⟩) ([[73]] : List (List UInt8)).length 1, .int .i64 2, .slice (some ⟨fb, 0, some 0⟩) ([(⟨[120], 1, [], false⟩ : FV), (⟨[110, 101, 120, 116], 4, [66, 97, 115, 101], false⟩ : FV), (⟨[119], 1, [], false⟩ : FV), (⟨[117, 110, 117, 115, 101, 100], 2, [], false⟩ : FV)] : List FV).length 4, .slice ma (ml : List MV).length mc] : List Value) := ⟨_, rfl, rfl⟩
  have nm4 : c4.nm = [66, 97, 115, 101] := by rw [hc4]
  rw [← hc4] at gc4
  rw [← hd4]
  obtain ⟨Z4, hZ4⟩ : ∃ Z4 : Atoms, Z4 = p :: (Zn ++ Z) := ⟨_, rfl⟩
  rw [← hZ4] at gc4 ⊢
  clear hn hms hhd hsub hc4 hd4 hZ4
  clear ml ma mc p Zn Z
  repeat (first | refine zrb ?_ | (refine zn ?_; intro _))
  refine exec_draw (lst := [(3, 0), (4, 8), (8, 0), (0, 0), (1, 1), (2, 3), (5, 25), (6, 57), (7, 127), (9, 511)]) (full := 1023) (by kernel_rfl) (by kernel_rfl) (by kernel_rfl) (by kernel_rfl) ?_
  repeat (first | refine zdb ?_ | refine draw_w rfl rfl rfl rfl rfl rfl (step_call_pure rfl rfl rfl (fun H hs => by first | exact seatTyp_ok | exact seatRef_ok | exact seatOne_ok | exact seatNum_ok | exact seatStr_ok | exact seatAt_ok | exact seatOf_ok | exact seatPart_ok | exact seatCall_ok | exact seatMethod_ok) (zst ?_)) | refine draw_a rfl rfl rfl rfl rfl (step_buildSliceF rfl rfl rfl rfl rfl rfl (fun _ => (zst ?_))) | refine draw_a rfl rfl rfl rfl rfl (step_alloc rfl rfl rfl rfl (fun _ => (zst ?_))))
  try refine draw_nil ?_
  refine draw_w rfl rfl rfl rfl rfl rfl (step_call_fp [] _ rfl rfl rfl (List.Perm.refl _) (fun H hs hst => seatRun_ok (by decide)) (fun v1 F1 h1 => ?_))
  obtain ⟨cl, ca, cc, pc, rfl, rfl, gcl, gn, ownc⟩ := h1
  refine (zst ?_)
  repeat (first | refine zdb ?_ | refine draw_w rfl rfl rfl rfl rfl rfl (step_call_pure rfl rfl rfl (fun H hs => by first | exact seatTyp_ok | exact seatRef_ok | exact seatOne_ok | exact seatNum_ok | exact seatStr_ok | exact seatAt_ok | exact seatOf_ok | exact seatPart_ok | exact seatCall_ok | exact seatMethod_ok) (zst ?_)) | refine draw_a rfl rfl rfl rfl rfl (step_buildSliceF rfl rfl rfl rfl rfl rfl (fun _ => (zst ?_))) | refine draw_a rfl rfl rfl rfl rfl (step_alloc rfl rfl rfl rfl (fun _ => (zst ?_))))
  try refine draw_nil ?_
  refine draw_w rfl rfl rfl rfl rfl rfl (step_storeZ 3 rfl rfl rfl rfl rfl rfl rfl rfl rfl (zst ?_))
  refine draw_nil ?_
  rename_i b5 fb mb
  repeat (first | refine zrb ?_ | (refine zn ?_; intro _))
  refine ExecS.reord [0, 2, 2, 2] rfl ?_
  refine ExecS.weak (pickE_sub (ks := [1, 3, 4, 5, 61]) rfl) (List.Sublist.refl _) ?_
  refine (?_ : ∀ (ml : List MV) (ma : Option Addr) (mc : Nat) (p : Option Nat × Cont) (Zn Z : Atoms), Ms O 30 1 ml ma mc p Zn → Hd O Z [65] [66, 97, 115, 101] ([] : List (List UInt8)) 1 [(⟨[99, 111, 117, 110, 116], 1, [], true⟩ : FV)] none 0 (some ⟨fb, 0, some 0⟩) 1 → Z4.Sublist Z → ExecS TT O _ _ _ _ _ (p :: (some b5, Cont.cells 0 ([str [65], str [66, 97, 115, 101], .slice none (([] : List (List UInt8)) : List (List UInt8)).length 0, .int .i64 1, .slice (some ⟨fb, 0, some 0⟩) ([(⟨[99, 111, 117, 110, 116], 1, [], true⟩ : FV)] : List FV).length 1, .slice ma (ml : List MV).length mc] : List Value) 0 52) :: ([(some b4, Cont.cells 0 c4.cells 0 52), (some kb, .cells 0 [.int .u8 k0, .int .u8 k1, .int .u8 k2, .int .u8 k3] 0 25)] ++ (Zn ++ Z))) _) ([methC [114, 117, 110] none [] 0 1 [] false 1 cl ca cc]) (some ⟨mb, 0, some 0⟩) 1 (some mb, Cont.cells 0 (([methC [114, 117, 110] none [] 0 1 [] false 1 cl ca cc] : List MV).flatMap MV.cells) 9 59) ([pc]) ((some fb, Cont.cells 0 (([(⟨[99, 111, 117, 110, 116], 1, [], true⟩ : FV)]).flatMap FV.cells) 4 63) :: Z4) (⟨.full rfl, fun m hm => by cases List.mem_singleton.1 hm; exact methC_rd (ownc) ((List.mem_cons_self ..)), fun m hm => by cases List.mem_singleton.1 hm; exact goodM_of (by decide) (by decide) (by decide) (by omega) gcl (fun _ h => by cases h) (by omega) (by simp) (by simp; omega), by simp⟩) (⟨by decide, by decide, by decide, by decide, by decide +kernel, rdNil, Rd.sl (i := 0) rfl rfl 1⟩) (.cons _ (.refl _))
  intro ml ma mc p Zn Z hms hhd hsub
  have hn := hms.n
  clear gcl gn ownc
  clear pc cc ca cl
  refine exec_mid (fun E L => SubE [(1, ptr kb), (3, .slice none 0 0), (4, ptr b4), (5, ptr b5)] E ∧ ∃ (ml : List MV) (ma : Option Addr) (mc : Nat) (p : Option Nat × Cont) (Zn L' : Atoms), Ms O 30 2 ml ma mc p Zn ∧ L.Perm L' ∧ (p :: (some b5, Cont.cells 0 ([str [65], str [66, 97, 115, 101], .slice none (([] : List (List UInt8)) : List (List UInt8)).length 0, .int .i64 1, .slice (some ⟨fb, 0, some 0⟩) ([(⟨[99, 111, 117, 110, 116], 1, [], true⟩ : FV)] : List FV).length 1, .slice ma (ml : List MV).length mc] : List Value) 0 52) :: ([(some b4, Cont.cells 0 c4.cells 0 52), (some kb, .cells 0 [.int .u8 k0, .int .u8 k1, .int .u8 k2, .int .u8 k3] 0 25)] ++ (Zn ++ Z))).Sublist L') ?_ ?_
  · refine exec_cond rfl (fun _ => ?_) (fun _ => ?_)
    · refine exec_draw (lst := [(0, 0), (1, 1), (2, 0), (3, 4), (4, 15), (5, 31), (6, 63)]) (full := 127) (by kernel_rfl) (by kernel_rfl) (by kernel_rfl) (by kernel_rfl) ?_
      repeat (first | refine zdb ?_)
      try refine draw_nil ?_
      refine draw_w rfl rfl rfl rfl rfl rfl (step_call_fp [] _ rfl rfl rfl (List.Perm.refl _) (fun H hs hst => seatClinit_ok) (fun v1 F1 h1 => ?_))
      obtain ⟨ca, cc, pc, rfl, rfl, ownc⟩ := h1
      refine (zst ?_)
      repeat (first | refine zdb ?_ | refine draw_w rfl rfl rfl rfl rfl rfl (step_call_pure rfl rfl rfl (fun H hs => by first | exact seatTyp_ok | exact seatRef_ok | exact seatOne_ok | exact seatNum_ok | exact seatStr_ok | exact seatAt_ok | exact seatOf_ok | exact seatPart_ok | exact seatCall_ok | exact seatMethod_ok) (zst ?_)) | refine draw_a rfl rfl rfl rfl rfl (step_buildSliceF rfl rfl rfl rfl rfl rfl (fun _ => (zst ?_))) | refine draw_a rfl rfl rfl rfl rfl (step_alloc rfl rfl rfl rfl (fun _ => (zst ?_))))
      try refine draw_nil ?_
      refine draw_w rfl rfl rfl rfl rfl rfl (step_appendC (z := 9) 2 rfl rfl rfl rfl rfl rfl rfl rfl hms.own (fun H hs => src_own (j := 0) hs rfl rfl 1) rfl (by first | rfl | exact allCell_map (fun _ => rfl) _) (by first | rfl | (simp; done) | (simp; omega)) (by omega) (by omega) (fun a2 c2 p2 own2 => (zst ?_)))
      repeat (first | refine zdb ?_)
      try refine draw_nil ?_
      refine draw_w rfl rfl rfl rfl rfl rfl (step_storeZ 3 rfl rfl rfl rfl rfl rfl rfl rfl rfl (zst ?_))
      refine draw_nil ?_
      exact ⟨⟨rfl, rfl, rfl, rfl, trivial⟩, ml ++ [methC [99, 108, 105, 110, 105, 116] none [] 0 5 [] true 0 [⟨2, 0, 0, [97], [], [], []⟩, ⟨41, 0, 0, [], [], [], []⟩, ⟨40, 0, 0, [], [], [], []⟩] ca cc], a2, c2, p2, _ :: Zn, _, hms.app own2 (.cons _ (.refl _)) (methC_rd (ownc) (List.mem_cons_self ..)) (goodM_of (by decide) (by decide) (by decide) (by omega) ⟨gStr (by decide), gOne (by decide) (by decide), gOne (by decide) (by decide), trivial⟩ (fun _ h => by cases h) (by simp) (by simp) (by simp)), perm_code, by simp only [List.length_append, List.length_singleton]; exact .cons _ (.refl _)⟩
    · repeat (first | refine zrb ?_ | (refine zn ?_; intro _))
      exact ⟨⟨rfl, rfl, rfl, rfl, trivial⟩, ml, ma, mc, p, Zn, _, hms.mono (by omega), List.Perm.refl _, .refl _⟩
  clear hn hms
  clear Zn p mc ma ml
  rintro E L ⟨hE, ml, ma, mc, p, Zn, L', hms, hP, hL⟩
  refine ExecS.weak hE (.refl _) ?_
  refine ExecS.perm hP ?_
  refine ExecS.weakL hL ?_
  clear hE hP hL
  have hn := hms.n
  have gc5 := hhd.gc hms (by omega) (by omega)
  refine ExecS.perm perm_fold ?_
  obtain ⟨c5, hc5, hd5⟩ : ∃ c5 : CV, c5 = (⟨[65], [66, 97, 115, 101], ([] : List (List UInt8)), 1, [(⟨[99, 111, 117, 110, 116], 1, [], true⟩ : FV)], ml, none, 0, (some ⟨fb, 0, some 0⟩), 1, ma, mc⟩ : CV) ∧ c5.cells = ([str [65], str [66, 97, 115, 101], .slice none (([] : List (List UInt8)) : List (List UInt8)).length 0, .int .i64 1, .slice (some ⟨fb, 0, some 0⟩) ([(⟨[99, 111, 117, 110, 116], 1, [], true⟩ : FV)] : List FV).length 1, .slice ma (ml : List MV).length mc] : List Value) := ⟨_, rfl, rfl⟩
  have nm5 : c5.nm = [65] := by rw [hc5]
  rw [← hc5] at gc5
  rw [← hd5]
  obtain ⟨Z5, hZ5⟩ : ∃ Z5 : Atoms, Z5 = p :: (Zn ++ Z) := ⟨_, rfl⟩
  rw [← hZ5] at gc5 ⊢
  have hs5 : Z4.Sublist Z5 := by rw [hZ5]; exact (hsub.trans (List.sublist_append_right _ _)).trans (.cons _ (.refl _))
  replace gc4 := gc4.mono hs5
  clear hn hms hhd hsub hc5 hd5 hZ5
  clear ml ma mc p Zn Z
  have hkv : (IntKind.u8.wrap (k0.tdiv 8)).tmod 2 = ((k0.toNat / 8 % 2 : Nat) : Int) := by
    have e1 : k0.tdiv 8 = ((k0.toNat / 8 : Nat) : Int) := tdivN (m := 8) (by omega) (by omega)
    rw [w8 e1 (by omega) (by omega)]
    exact tmodN (m := 2) (by omega) (by omega)
  obtain ⟨kd, hkd, hv⟩ : ∃ kd : Int, (1 ≤ kd ∧ kd ≤ 4) ∧ [Value.int IntKind.i64 1, Value.int IntKind.i64 3][0 + ((k0.toNat / 8 % 2 : Nat) : Int).toNat * 1]? = some (.int .i64 kd) := by
    rcases (by omega : k0.toNat / 8 % 2 = 0 ∨ k0.toNat / 8 % 2 = 1) with h | h <;> rw [h]
    · exact ⟨1, by omega, rfl⟩
    · exact ⟨3, by omega, rfl⟩
  repeat (first | refine zrb ?_ | (refine zn ?_; intro _))
  rw [hkv]
  (first | apply ops_pl rfl rfl rfl ?_ rfl ?_ | apply draw_pl rfl rfl rfl rfl ?_ rfl rfl ?_); rotate_left; focus exact (.p rfl (opP_idxo (z := 1) rfl rfl rfl rfl (by omega) (by omega)))
  first | refine ops_pl rfl rfl rfl (.l rfl (look_own 0 rfl rfl rfl hv)) rfl ?_ | refine draw_pl rfl rfl rfl rfl (.l rfl (look_own 0 rfl rfl rfl hv)) rfl rfl ?_
  repeat (first | refine zrb ?_ | (refine zn ?_; intro _))
  rename_i kdb b6
  refine ExecS.weak (pickE_sub (ks := [1, 3, 4, 5, 6, 79]) rfl) (List.Sublist.refl _) ?_
  refine ExecS.ghost ?_
  refine ExecS.reord [0, 0, 1, 1, 1] rfl ?_
  clear hkv hv
  refine (?_ : ∀ (ml : List MV) (ma : Option Addr) (mc : Nat) (p : Option Nat × Cont) (Zn Z : Atoms), Ms O 30 0 ml ma mc p Zn → Hd O Z [66] [65] ([] : List (List UInt8)) kd ([] : List FV) none 0 none 0 → Z5.Sublist Z → ExecS TT O _ _ _ _ _ (p :: (some b6, Cont.cells 0 ([str [66], str [65], .slice none (([] : List (List UInt8)) : List (List UInt8)).length 0, .int .i64 kd, .slice none (([] : List FV) : List FV).length 0, .slice ma (ml : List MV).length mc] : List Value) 0 52) :: ([(some b5, Cont.cells 0 c5.cells 0 52), (some b4, Cont.cells 0 c4.cells 0 52), (some kb, .cells 0 [.int .u8 k0, .int .u8 k1, .int .u8 k2, .int .u8 k3] 0 25)] ++ (Zn ++ Z))) _) ([]) none 0 (none, .map []) ([]) ((some kdb, .cells 0 [.int .i64 1, .int .i64 3] 1 3) :: Z5) (⟨.nil _, (fun m hm => by cases hm), (fun m hm => by cases hm), by simp⟩) (⟨by decide, by decide, by decide, hkd, by decide +kernel, rdNil, rdNil⟩) (.cons _ (.refl _))
  intro ml ma mc p Zn Z hms hhd hsub
  have hn := hms.n
  clear hkd
  refine exec_mid (fun E L => SubE [(1, ptr kb), (3, .slice none 0 0), (4, ptr b4), (5, ptr b5), (6, ptr b6)] E ∧ ∃ (ml : List MV) (ma : Option Addr) (mc : Nat) (p : Option Nat × Cont) (Zn L' : Atoms), Ms O 30 1 ml ma mc p Zn ∧ L.Perm L' ∧ (p :: (some b6, Cont.cells 0 ([str [66], str [65], .slice none (([] : List (List UInt8)) : List (List UInt8)).length 0, .int .i64 kd, .slice none (([] : List FV) : List FV).length 0, .slice ma (ml : List MV).length mc] : List Value) 0 52) :: ([(some b5, Cont.cells 0 c5.cells 0 52), (some b4, Cont.cells 0 c4.cells 0 52), (some kb, .cells 0 [.int .u8 k0, .int .u8 k1, .int .u8 k2, .int .u8 k3] 0 25)] ++ (Zn ++ Z))).Sublist L') ?_ ?_
  · refine exec_cond rfl (fun _ => ?_) (fun _ => ?_)
    · refine exec_draw (lst := [(0, 0), (1, 1), (2, 0), (3, 4), (4, 12), (5, 28), (6, 63), (7, 127), (8, 255)]) (full := 511) (by kernel_rfl) (by kernel_rfl) (by kernel_rfl) (by kernel_rfl) ?_
      repeat (first | refine zdb ?_)
      try refine draw_nil ?_
      refine draw_w rfl rfl rfl rfl rfl rfl (step_call_fp [] _ rfl rfl rfl (List.Perm.refl _) (fun H hs hst => seatRun_ok (by decide)) (fun v1 F1 h1 => ?_))
      obtain ⟨cl, ca, cc, pc, rfl, rfl, gcl, gn, ownc⟩ := h1
      refine (zst ?_)
      repeat (first | refine zdb ?_ | refine draw_w rfl rfl rfl rfl rfl rfl (step_call_pure rfl rfl rfl (fun H hs => by first | exact seatTyp_ok | exact seatRef_ok | exact seatOne_ok | exact seatNum_ok | exact seatStr_ok | exact seatAt_ok | exact seatOf_ok | exact seatPart_ok | exact seatCall_ok | exact seatMethod_ok) (zst ?_)) | refine draw_a rfl rfl rfl rfl rfl (step_buildSliceF rfl rfl rfl rfl rfl rfl (fun _ => (zst ?_))) | refine draw_a rfl rfl rfl rfl rfl (step_alloc rfl rfl rfl rfl (fun _ => (zst ?_))))
      try refine draw_nil ?_
      refine draw_w rfl rfl rfl rfl rfl rfl (step_appendC (z := 9) 2 rfl rfl rfl rfl rfl rfl rfl rfl hms.own (fun H hs => src_own (j := 0) hs rfl rfl 1) rfl (by first | rfl | exact allCell_map (fun _ => rfl) _) (by first | rfl | (simp; done) | (simp; omega)) (by omega) (by omega) (fun a2 c2 p2 own2 => (zst ?_)))
      repeat (first | refine zdb ?_)
      try refine draw_nil ?_
      refine draw_w rfl rfl rfl rfl rfl rfl (step_storeZ 3 rfl rfl rfl rfl rfl rfl rfl rfl rfl (zst ?_))
      refine draw_nil ?_
      exact ⟨⟨rfl, rfl, rfl, rfl, rfl, trivial⟩, ml ++ [methC [114, 117, 110] none [] 0 1 [] false 1 cl ca cc], a2, c2, p2, _ :: Zn, _, hms.app own2 (.cons _ (.refl _)) (methC_rd (ownc) (List.mem_cons_self ..)) (goodM_of (by decide) (by decide) (by decide) (by omega) gcl (fun _ h => by cases h) (by omega) (by simp) (by simp; omega)), perm_code, by simp only [List.length_append, List.length_singleton]; exact .cons _ (.refl _)⟩
    · repeat (first | refine zrb ?_ | (refine zn ?_; intro _))
      exact ⟨⟨rfl, rfl, rfl, rfl, rfl, trivial⟩, ml, ma, mc, p, Zn, _, hms.mono (by omega), List.Perm.refl _, .refl _⟩
  clear hn hms
  clear Zn p mc ma ml
  rintro E L ⟨hE, ml, ma, mc, p, Zn, L', hms, hP, hL⟩
  refine ExecS.weak hE (.refl _) ?_
  refine ExecS.perm hP ?_
  refine ExecS.weakL hL ?_
  clear hE hP hL
  have hn := hms.n
  repeat (first | refine zrb ?_ | (refine zn ?_; intro _))
  refine ExecS.weak (pickE_sub (ks := [1, 3, 4, 5, 6, 91]) rfl) (List.Sublist.refl _) ?_
  refine exec_mid (fun E L => SubE [(1, ptr kb), (3, .slice none 0 0), (4, ptr b4), (5, ptr b5), (6, ptr b6)] E ∧ ∃ (ml : List MV) (ma : Option Addr) (mc : Nat) (p : Option Nat × Cont) (Zn L' : Atoms), Ms O 30 2 ml ma mc p Zn ∧ L.Perm L' ∧ (p :: (some b6, Cont.cells 0 ([str [66], str [65], .slice none (([] : List (List UInt8)) : List (List UInt8)).length 0, .int .i64 kd, .slice none (([] : List FV) : List FV).length 0, .slice ma (ml : List MV).length mc] : List Value) 0 52) :: ([(some b5, Cont.cells 0 c5.cells 0 52), (some b4, Cont.cells 0 c4.cells 0 52), (some kb, .cells 0 [.int .u8 k0, .int .u8 k1, .int .u8 k2, .int .u8 k3] 0 25)] ++ (Zn ++ Z))).Sublist L') ?_ ?_
  · refine exec_cond rfl (fun _ => ?_) (fun _ => ?_)
    · refine exec_draw (lst := [(0, 0), (1, 1), (2, 0), (3, 0), (4, 8), (5, 24), (6, 56), (7, 120), (8, 248), (9, 504), (10, 1020), (11, 2044), (12, 4095), (13, 8191), (14, 16383)]) (full := 32767) (by kernel_rfl) (by kernel_rfl) (by kernel_rfl) (by kernel_rfl) ?_
      repeat (first | refine zdb ?_ | refine draw_w rfl rfl rfl rfl rfl rfl (step_call_pure rfl rfl rfl (fun H hs => by first | exact seatTyp_ok | exact seatRef_ok | exact seatOne_ok | exact seatNum_ok | exact seatStr_ok | exact seatAt_ok | exact seatOf_ok | exact seatPart_ok | exact seatCall_ok | exact seatMethod_ok) (zst ?_)) | refine draw_a rfl rfl rfl rfl rfl (step_buildSliceF rfl rfl rfl rfl rfl rfl (fun _ => (zst ?_))) | refine draw_a rfl rfl rfl rfl rfl (step_alloc rfl rfl rfl rfl (fun _ => (zst ?_))))
      try refine draw_nil ?_
      refine draw_w rfl rfl rfl rfl rfl rfl (step_appendC (z := 9) 2 rfl rfl rfl rfl rfl rfl rfl rfl hms.own (fun H hs => src_own (j := 0) hs rfl rfl 1) rfl (by first | rfl | exact allCell_map (fun _ => rfl) _) (by first | rfl | (simp; done) | (simp; omega)) (by omega) (by omega) (fun a2 c2 p2 own2 => (zst ?_)))
      repeat (first | refine zdb ?_)
      try refine draw_nil ?_
      refine draw_w rfl rfl rfl rfl rfl rfl (step_storeZ 3 rfl rfl rfl rfl rfl rfl rfl rfl rfl (zst ?_))
      refine draw_nil ?_
      exact ⟨⟨rfl, rfl, rfl, rfl, rfl, trivial⟩, ml ++ [methC [110, 97, 109, 101] none [] 0 2 [] false 1 [⟨4, 0, 0, [], [], [], []⟩, ⟨37, 0, 0, [], [65], [110, 97, 109, 101], [40, 41, 83]⟩, ⟨2, 0, 0, [43, 98], [], [], []⟩, ⟨16, 0, 0, [], [], [], []⟩, ⟨39, 0, 0, [], [], [], []⟩] _ _], a2, c2, p2, _ :: Zn, _, hms.app own2 (.cons _ (.refl _)) (methC_rd (OwnC.full rfl) (List.mem_cons_self ..)) (goodM_of (by decide) (by decide) (by decide) (by omega) ⟨gAt (by decide) (by decide) (by omega), gCall (by decide) (by decide) (by decide) (by decide) (by decide +kernel) (by decide), gStr (by decide), gOne (by decide) (by decide), gOne (by decide) (by decide), trivial⟩ (fun _ h => by cases h) (by simp) (by simp) (by simp)), perm_code, by simp only [List.length_append, List.length_singleton]; exact .cons _ (.refl _)⟩
    · repeat (first | refine zrb ?_ | (refine zn ?_; intro _))
      exact ⟨⟨rfl, rfl, rfl, rfl, rfl, trivial⟩, ml, ma, mc, p, Zn, _, hms.mono (by omega), List.Perm.refl _, .refl _⟩
  clear hn hms
  clear Zn p mc ma ml
  rintro E L ⟨hE, ml, ma, mc, p, Zn, L', hms, hP, hL⟩
  refine ExecS.weak hE (.refl _) ?_
  refine ExecS.perm hP ?_
  refine ExecS.weakL hL ?_
  clear hE hP hL
  have hn := hms.n
  have gc6 := hhd.gc hms (by omega) (by omega)
  refine ExecS.perm perm_fold ?_
  obtain ⟨c6, hc6, hd6⟩ : ∃ c6 : CV, c6 = (⟨[66], [65], ([] : List (List UInt8)), kd, ([] : List FV), ml, none, 0, none, 0, ma, mc⟩ : CV) ∧ c6.cells = ([str [66], str [65], .slice none (([] : List (List UInt8)) : List (List UInt8)).length 0, .int .i64 kd, .slice none (([] : List FV) : List FV).length 0, .slice ma (ml : List MV).length mc] : List Value) := ⟨_, rfl, rfl⟩
  have nm6 : c6.nm = [66] := by rw [hc6]
  rw [← hc6] at gc6
  rw [← hd6]
  obtain ⟨Z6, hZ6⟩ : ∃ Z6 : Atoms, Z6 = p :: (Zn ++ Z) := ⟨_, rfl⟩
  rw [← hZ6] at gc6 ⊢
  have hs6 : Z5.Sublist Z6 := by rw [hZ6]; exact (hsub.trans (List.sublist_append_right _ _)).trans (.cons _ (.refl _))
  replace gc4 := gc4.mono hs6
  replace gc5 := gc5.mono hs6
  clear hn hms hhd hsub hc6 hd6 hZ6
  clear ml ma mc p Zn Z
  repeat (first | refine zrb ?_ | (refine zn ?_; intro _) | refine ops_step rfl rfl rfl (step_call_pure rfl rfl rfl (fun H hs => by first | exact seatTyp_ok | exact seatRef_ok | exact seatOne_ok | exact seatNum_ok | exact seatStr_ok | exact seatAt_ok | exact seatOf_ok | exact seatPart_ok | exact seatCall_ok | exact seatMethod_ok) ?_))
  rename_i fb b7
  refine ExecS.weak (pickE_sub (ks := [1, 3, 4, 5, 6, 7, 113]) rfl) (List.Sublist.refl _) ?_
  refine ExecS.ghost ?_
  refine exec_mid (fun E L => SubE [(1, ptr kb), (3, .slice none 0 0), (4, ptr b4), (5, ptr b5), (6, ptr b6), (7, ptr b7)] E ∧ ∃ (ia : Option Addr) (ic : Nat) (ifs : List (List UInt8)) (pi : Option Nat × Cont), (allB ifs 20 nameL = true ∧ closedB [66, 97, 115, 101] ifs = true) ∧ ifs.length ≤ 1 ∧ OwnC 1 9 ia ifs.length ic (ifs.map str) pi ∧ (pi :: (some b7, Cont.cells 0 ([str [77, 105, 100], str [66, 97, 115, 101], .slice ia (ifs : List (List UInt8)).length ic, .int .i64 2, .slice (some ⟨fb, 0, some 0⟩) ([(⟨[109], 1, [], false⟩ : FV)] : List FV).length 1, .slice none ([] : List MV).length 0] : List Value) 0 52) :: (some fb, Cont.cells 0 (([(⟨[109], 1, [], false⟩ : FV)]).flatMap FV.cells) 4 63) :: ([(some b6, Cont.cells 0 c6.cells 0 52), (some b5, Cont.cells 0 c5.cells 0 52), (some b4, Cont.cells 0 c4.cells 0 52), (some kb, .cells 0 [.int .u8 k0, .int .u8 k1, .int .u8 k2, .int .u8 k3] 0 25)] ++ Z6)).Sublist L) ?_ ?_
  · refine exec_cond rfl (fun _ => ?_) (fun _ => ?_)
    · repeat (first | refine zrb ?_ | (refine zn ?_; intro _))
      exact ⟨⟨rfl, rfl, rfl, rfl, rfl, rfl, trivial⟩, _, 1, [[74]], _, ⟨by decide, by decide⟩, by simp, .full rfl, .cons_cons _ (.cons _ (.refl _))⟩
    · repeat (first | refine zrb ?_ | (refine zn ?_; intro _))
      exact ⟨⟨rfl, rfl, rfl, rfl, rfl, rfl, trivial⟩, none, 0, [], _, ⟨by decide, by decide⟩, by simp, .nil _, .refl _⟩
  rintro E L ⟨hE, ia, ic, ifs, pi, ⟨hifs, hifc⟩, hifn, howi, hL⟩
  refine ExecS.weak hE hL ?_
  clear hE hL
  refine ExecS.ghost ?_
  refine ExecS.reord [0, 1, 2, 2, 2, 2] rfl ?_
  refine (?_ : ∀ (ml : List MV) (ma : Option Addr) (mc : Nat) (p : Option Nat × Cont) (Zn Z : Atoms), Ms O 30 0 ml ma mc p Zn → Hd O Z [77, 105, 100] [66, 97, 115, 101] ifs 2 [(⟨[109], 1, [], false⟩ : FV)] ia ic (some ⟨fb, 0, some 0⟩) 1 → Z6.Sublist Z → ExecS TT O _ _ _ _ _ (p :: (some b7, Cont.cells 0 ([str [77, 105, 100], str [66, 97, 115, 101], .slice ia (ifs : List (List UInt8)).length ic, .int .i64 2, .slice (some ⟨fb, 0, some 0⟩) ([(⟨[109], 1, [], false⟩ : FV)] : List FV).length 1, .slice ma (ml : List MV).length mc] : List Value) 0 52) :: ([(some b6, Cont.cells 0 c6.cells 0 52), (some b5, Cont.cells 0 c5.cells 0 52), (some b4, Cont.cells 0 c4.cells 0 52), (some kb, .cells 0 [.int .u8 k0, .int .u8 k1, .int .u8 k2, .int .u8 k3] 0 25)] ++ (Zn ++ Z))) _) ([]) none 0 (none, .map []) ([]) (pi :: (some fb, Cont.cells 0 (([(⟨[109], 1, [], false⟩ : FV)]).flatMap FV.cells) 4 63) :: Z6) (⟨.nil _, (fun m hm => by cases hm), (fun m hm => by cases hm), by simp⟩) (⟨by decide, by decide, hifs, by decide, by decide +kernel, howi.rd (List.mem_cons_self ..), Rd.sl (i := 1) rfl rfl 1⟩) (.cons _ (.cons _ (.refl _)))
  intro ml ma mc p Zn Z hms hhd hsub
  have hn := hms.n
  have gc7 := hhd.gc hms (by omega) (by omega) hifc
  refine ExecS.perm perm_fold ?_
  obtain ⟨c7, hc7, hd7⟩ : ∃ c7 : CV, c7 = (⟨[77, 105, 100], [66, 97, 115, 101], ifs, 2, [(⟨[109], 1, [], false⟩ : FV)], ml, ia, ic, (some ⟨fb, 0, some 0⟩), 1, ma, mc⟩ : CV) ∧ c7.cells = ([str [77, 105, 100], str [66, 97, 115, 101], .slice ia (ifs : List (List UInt8)).length ic, .int .i64 2, .slice (some ⟨fb, 0, some 0⟩) ([(⟨[109], 1, [], false⟩ : FV)] : List FV).length 1, .slice ma (ml : List MV).length mc] : List Value) := ⟨_, rfl, rfl⟩
  have nm7 : c7.nm = [77, 105, 100] := by rw [hc7]
  rw [← hc7] at gc7
  rw [← hd7]
  obtain ⟨Z7, hZ7⟩ : ∃ Z7 : Atoms, Z7 = p :: (Zn ++ Z) := ⟨_, rfl⟩
  rw [← hZ7] at gc7 ⊢
  have hs7 : Z6.Sublist Z7 := by rw [hZ7]; exact (hsub.trans (List.sublist_append_right _ _)).trans (.cons _ (.refl _))
  replace gc4 := gc4.mono hs7
  replace gc5 := gc5.mono hs7
  replace gc6 := gc6.mono hs7
  clear hn hms hhd hsub hc7 hd7 hZ7
  clear ml ma mc p Zn Z
  clear hifs hifc hifn howi
  clear pi ifs ic ia
  repeat (first | refine zrc ?_ | (refine zn ?_; intro _))
  refine ops_step rfl rfl rfl (step_call_fp [] _ rfl rfl rfl (List.Perm.refl _) (fun H hs hst => seatRun_ok (by decide)) (fun v1 F1 h1 => ?_))
  obtain ⟨cl, ca, cc, pc, rfl, rfl, gcl, gn, ownc⟩ := h1
  repeat (first | refine zrc ?_ | (refine zn ?_; intro _) | refine ops_step rfl rfl rfl (step_call_pure rfl rfl rfl (fun H hs => by first | exact seatTyp_ok | exact seatRef_ok | exact seatOne_ok | exact seatNum_ok | exact seatStr_ok | exact seatAt_ok | exact seatOf_ok | exact seatPart_ok | exact seatCall_ok | exact seatMethod_ok) ?_))
  rename_i cd mb b8
  refine ExecS.weak (pickE_sub (ks := [1, 3, 4, 5, 6, 7, 8, 131]) rfl) (List.Sublist.refl _) ?_
  refine ExecS.reord [1, 0, 2, 2, 2, 2, 2] rfl ?_
  refine (?_ : ∀ (ml : List MV) (ma : Option Addr) (mc : Nat) (p : Option Nat × Cont) (Zn Z : Atoms), Ms O 30 2 ml ma mc p Zn → Hd O Z [67] [77, 105, 100] ([] : List (List UInt8)) 1 ([] : List FV) none 0 none 0 → Z7.Sublist Z → ExecS TT O _ _ _ _ _ (p :: (some b8, Cont.cells 0 ([str [67], str [77, 105, 100], .slice none (([] : List (List UInt8)) : List (List UInt8)).length 0, .int .i64 1, .slice none (([] : List FV) : List FV).length 0, .slice ma (ml : List MV).length mc] : List Value) 0 52) :: ([(some b7, Cont.cells 0 c7.cells 0 52), (some b6, Cont.cells 0 c6.cells 0 52), (some b5, Cont.cells 0 c5.cells 0 52), (some b4, Cont.cells 0 c4.cells 0 52), (some kb, .cells 0 [.int .u8 k0, .int .u8 k1, .int .u8 k2, .int .u8 k3] 0 25)] ++ (Zn ++ Z))) _) ([methC [114, 117, 110] none [] 0 1 [] false 1 cl ca cc, methC [101, 120, 116, 114, 97] none [] 0 1 [] false 1 ([⟨4, 0, 0, [], [], [], []⟩, ⟨26, 0, 0, [], [77, 105, 100], [109], []⟩, ⟨39, 0, 0, [], [], [], []⟩] : List Ins) (some ⟨cd, 0, some 0⟩) 3]) (some ⟨mb, 0, some 0⟩) 2 (some mb, Cont.cells 0 (([methC [114, 117, 110] none [] 0 1 [] false 1 cl ca cc, methC [101, 120, 116, 114, 97] none [] 0 1 [] false 1 ([⟨4, 0, 0, [], [], [], []⟩, ⟨26, 0, 0, [], [77, 105, 100], [109], []⟩, ⟨39, 0, 0, [], [], [], []⟩] : List Ins) (some ⟨cd, 0, some 0⟩) 3] : List MV).flatMap MV.cells) 9 59) ([(some cd, Cont.cells 0 (([⟨4, 0, 0, [], [], [], []⟩, ⟨26, 0, 0, [], [77, 105, 100], [109], []⟩, ⟨39, 0, 0, [], [], [], []⟩] : List Ins).flatMap insL) 7 61), pc]) (Z7) (⟨.full rfl, (fun m hm => by simp only [List.mem_cons, List.not_mem_nil, or_false] at hm; rcases hm with rfl | rfl <;> first | exact methC_rd ownc (.tail _ (.head _)) | exact methC_rd (.full rfl) (.head _)), (fun m hm => by simp only [List.mem_cons, List.not_mem_nil, or_false] at hm; rcases hm with rfl | rfl <;> first | exact goodM_of (by decide) (by decide) (by decide) (by omega) gcl (fun _ h => by cases h) (by omega) (by simp) (by simp; omega) | exact goodM_of (by decide) (by decide) (by decide) (by omega) ⟨gAt (by decide) (by decide) (by omega), gPart (by decide) (by decide) (by decide) (by decide), gOne (by decide) (by decide), trivial⟩ (fun _ h => by cases h) (by simp) (by simp) (by simp)), by simp⟩) (⟨by decide, by decide, by decide, by decide, by decide +kernel, rdNil, rdNil⟩) (.refl _)
  intro ml ma mc p Zn Z hms hhd hsub
  have hn := hms.n
  clear gcl gn ownc
  clear pc cc ca cl
  refine exec_mid (fun E L => SubE [(1, ptr kb), (3, .slice none 0 0), (4, ptr b4), (5, ptr b5), (6, ptr b6), (7, ptr b7), (8, ptr b8)] E ∧ ∃ (ml : List MV) (ma : Option Addr) (mc : Nat) (p : Option Nat × Cont) (Zn L' : Atoms), Ms O 30 3 ml ma mc p Zn ∧ L.Perm L' ∧ (p :: (some b8, Cont.cells 0 ([str [67], str [77, 105, 100], .slice none (([] : List (List UInt8)) : List (List UInt8)).length 0, .int .i64 1, .slice none (([] : List FV) : List FV).length 0, .slice ma (ml : List MV).length mc] : List Value) 0 52) :: ([(some b7, Cont.cells 0 c7.cells 0 52), (some b6, Cont.cells 0 c6.cells 0 52), (some b5, Cont.cells 0 c5.cells 0 52), (some b4, Cont.cells 0 c4.cells 0 52), (some kb, .cells 0 [.int .u8 k0, .int .u8 k1, .int .u8 k2, .int .u8 k3] 0 25)] ++ (Zn ++ Z))).Sublist L') ?_ ?_
  · refine exec_cond rfl (fun _ => ?_) (fun _ => ?_)
    · refine exec_draw (lst := [(0, 0), (1, 1), (2, 0), (3, 0), (4, 8), (5, 24), (6, 56), (7, 120), (8, 248), (9, 504), (10, 1020), (11, 2044), (12, 4095), (13, 8191), (14, 16383)]) (full := 32767) (by kernel_rfl) (by kernel_rfl) (by kernel_rfl) (by kernel_rfl) ?_
      repeat (first | refine zdc ?_ | refine draw_w rfl rfl rfl rfl rfl rfl (step_call_pure rfl rfl rfl (fun H hs => by first | exact seatTyp_ok | exact seatRef_ok | exact seatOne_ok | exact seatNum_ok | exact seatStr_ok | exact seatAt_ok | exact seatOf_ok | exact seatPart_ok | exact seatCall_ok | exact seatMethod_ok) (zst ?_)) | refine draw_a rfl rfl rfl rfl rfl (step_buildSliceF rfl rfl rfl rfl rfl rfl (fun _ => (zst ?_))) | refine draw_a rfl rfl rfl rfl rfl (step_alloc rfl rfl rfl rfl (fun _ => (zst ?_))))
      try refine draw_nil ?_
      refine draw_w rfl rfl rfl rfl rfl rfl (step_appendC (z := 9) 2 rfl rfl rfl rfl rfl rfl rfl rfl hms.own (fun H hs => src_own (j := 0) hs rfl rfl 1) rfl (by first | rfl | exact allCell_map (fun _ => rfl) _) (by first | rfl | (simp; done) | (simp; omega)) (by omega) (by omega) (fun a2 c2 p2 own2 => (zst ?_)))
      repeat (first | refine zdc ?_)
      try refine draw_nil ?_
      refine draw_w rfl rfl rfl rfl rfl rfl (step_storeZ 3 rfl rfl rfl rfl rfl rfl rfl rfl rfl (zst ?_))
      refine draw_nil ?_
      exact ⟨⟨rfl, rfl, rfl, rfl, rfl, rfl, rfl, trivial⟩, ml ++ [methC [110, 97, 109, 101] none [] 0 2 [] false 1 [⟨4, 0, 0, [], [], [], []⟩, ⟨37, 0, 0, [], [77, 105, 100], [110, 97, 109, 101], [40, 41, 83]⟩, ⟨2, 0, 0, [43, 99], [], [], []⟩, ⟨16, 0, 0, [], [], [], []⟩, ⟨39, 0, 0, [], [], [], []⟩] _ _], a2, c2, p2, _ :: Zn, _, hms.app own2 (.cons _ (.refl _)) (methC_rd (OwnC.full rfl) (List.mem_cons_self ..)) (goodM_of (by decide) (by decide) (by decide) (by omega) ⟨gAt (by decide) (by decide) (by omega), gCall (by decide) (by decide) (by decide) (by decide) (by decide +kernel) (by decide), gStr (by decide), gOne (by decide) (by decide), gOne (by decide) (by decide), trivial⟩ (fun _ h => by cases h) (by simp) (by simp) (by simp)), perm_code, by simp only [List.length_append, List.length_singleton]; exact .cons _ (.refl _)⟩
    · repeat (first | refine zrc ?_ | (refine zn ?_; intro _))
      exact ⟨⟨rfl, rfl, rfl, rfl, rfl, rfl, rfl, trivial⟩, ml, ma, mc, p, Zn, _, hms.mono (by omega), List.Perm.refl _, .refl _⟩
  clear hn hms
  clear Zn p mc ma ml
  rintro E L ⟨hE, ml, ma, mc, p, Zn, L', hms, hP, hL⟩
  refine ExecS.weak hE (.refl _) ?_
  refine ExecS.perm hP ?_
  refine ExecS.weakL hL ?_
  clear hE hP hL
  have hn := hms.n
  have gc8 := hhd.gc hms (by omega) (by omega)
  refine ExecS.perm perm_fold ?_
  obtain ⟨c8, hc8, hd8⟩ : ∃ c8 : CV, c8 = (⟨[67], [77, 105, 100], ([] : List (List UInt8)), 1, ([] : List FV), ml, none, 0, none, 0, ma, mc⟩ : CV) ∧ c8.cells = ([str [67], str [77, 105, 100], .slice none (([] : List (List UInt8)) : List (List UInt8)).length 0, .int .i64 1, .slice none (([] : List FV) : List FV).length 0, .slice ma (ml : List MV).length mc] : List Value) := ⟨_, rfl, rfl⟩
  have nm8 : c8.nm = [67] := by rw [hc8]
  rw [← hc8] at gc8
  rw [← hd8]
  obtain ⟨Z8, hZ8⟩ : ∃ Z8 : Atoms, Z8 = p :: (Zn ++ Z) := ⟨_, rfl⟩
  rw [← hZ8] at gc8 ⊢
  have hs8 : Z7.Sublist Z8 := by rw [hZ8]; exact (hsub.trans (List.sublist_append_right _ _)).trans (.cons _ (.refl _))
  replace gc4 := gc4.mono hs8
  replace gc5 := gc5.mono hs8
  replace gc6 := gc6.mono hs8
  replace gc7 := gc7.mono hs8
  clear hn hms hhd hsub hc8 hd8 hZ8
  clear ml ma mc p Zn Z
  repeat (first | refine zrc ?_ | (refine zn ?_; intro _))
  refine exec_draw (lst := [(0, 0), (6, 0), (7, 64), (8, 0), (9, 256), (10, 960), (14, 0), (1, 0), (2, 2), (3, 2), (4, 10), (5, 30), (11, 1994), (12, 4042), (13, 8191), (15, 32767)]) (full := 65535) (by kernel_rfl) (by kernel_rfl) (by kernel_rfl) (by kernel_rfl) ?_
  repeat (first | refine zdc ?_ | refine draw_w rfl rfl rfl rfl rfl rfl (step_call_pure rfl rfl rfl (fun H hs => by first | exact seatTyp_ok | exact seatRef_ok | exact seatOne_ok | exact seatNum_ok | exact seatStr_ok | exact seatAt_ok | exact seatOf_ok | exact seatPart_ok | exact seatCall_ok | exact seatMethod_ok) (zst ?_)) | refine draw_a rfl rfl rfl rfl rfl (step_buildSliceF rfl rfl rfl rfl rfl rfl (fun _ => (zst ?_))) | refine draw_a rfl rfl rfl rfl rfl (step_alloc rfl rfl rfl rfl (fun _ => (zst ?_))))
  try refine draw_nil ?_
  refine draw_w rfl rfl rfl rfl rfl rfl (step_call_fp [] _ rfl rfl rfl (List.Perm.refl _) (fun H hs hst => seatRun_ok (by decide)) (fun v1 F1 h1 => ?_))
  obtain ⟨cl, ca, cc, pc, rfl, rfl, gcl, gn, ownc⟩ := h1
  refine (zst ?_)
  repeat (first | refine zdc ?_ | refine draw_w rfl rfl rfl rfl rfl rfl (step_call_pure rfl rfl rfl (fun H hs => by first | exact seatTyp_ok | exact seatRef_ok | exact seatOne_ok | exact seatNum_ok | exact seatStr_ok | exact seatAt_ok | exact seatOf_ok | exact seatPart_ok | exact seatCall_ok | exact seatMethod_ok) (zst ?_)) | refine draw_a rfl rfl rfl rfl rfl (step_buildSliceF rfl rfl rfl rfl rfl rfl (fun _ => (zst ?_))) | refine draw_a rfl rfl rfl rfl rfl (step_alloc rfl rfl rfl rfl (fun _ => (zst ?_))))
  try refine draw_nil ?_
  refine draw_w rfl rfl rfl rfl rfl rfl (step_storeZ 3 rfl rfl rfl rfl rfl rfl rfl rfl rfl (zst ?_))
  refine draw_nil ?_
  rename_i ib b9 fb mb
  repeat (first | refine zrc ?_ | (refine zn ?_; intro _))
  refine ExecS.reord [0, 2, 3, 3, 3, 3, 3, 3] rfl ?_
  refine ExecS.weak (pickE_sub (ks := [1, 3, 4, 5, 6, 7, 8, 9, 163]) rfl) (List.Sublist.refl _) ?_
  refine (?_ : ∀ (ml : List MV) (ma : Option Addr) (mc : Nat) (p : Option Nat × Cont) (Zn Z : Atoms), Ms O 30 1 ml ma mc p Zn → Hd O Z [68] [66, 97, 115, 101] [[74]] 3 [(⟨[119, 97, 115, 116, 101], 1, [], true⟩ : FV), (⟨[120], 2, [], false⟩ : FV)] (some ⟨ib, 0, some 0⟩) 1 (some ⟨fb, 0, some 0⟩) 2 → Z8.Sublist Z → ExecS TT O _ _ _ _ _ (p :: (some b9, Cont.cells 0 ([str [68], str [66, 97, 115, 101], .slice (some ⟨ib, 0, some 0⟩) ([[74]] : List (List UInt8)).length 1, .int .i64 3, .slice (some ⟨fb, 0, some 0⟩) ([(⟨[119, 97, 115, 116, 101], 1, [], true⟩ : FV), (⟨[120], 2, [], false⟩ : FV)] : List FV).length 2, .slice ma (ml : List MV).length mc] : List Value) 0 52) :: ([(some b8, Cont.cells 0 c8.cells 0 52), (some b7, Cont.cells 0 c7.cells 0 52), (some b6, Cont.cells 0 c6.cells 0 52), (some b5, Cont.cells 0 c5.cells 0 52), (some b4, Cont.cells 0 c4.cells 0 52), (some kb, .cells 0 [.int .u8 k0, .int .u8 k1, .int .u8 k2, .int .u8 k3] 0 25)] ++ (Zn ++ Z))) _) ([methC [114, 117, 110] none [] 0 1 [] false 1 cl ca cc]) (some ⟨mb, 0, some 0⟩) 1 (some mb, Cont.cells 0 (([methC [114, 117, 110] none [] 0 1 [] false 1 cl ca cc] : List MV).flatMap MV.cells) 9 59) ([pc]) ((some fb, Cont.cells 0 (([(⟨[119, 97, 115, 116, 101], 1, [], true⟩ : FV), (⟨[120], 2, [], false⟩ : FV)]).flatMap FV.cells) 4 63) :: (some ib, Cont.cells 0 [str [74]] 1 9) :: Z8) (⟨.full rfl, fun m hm => by cases List.mem_singleton.1 hm; exact methC_rd (ownc) ((List.mem_cons_self ..)), fun m hm => by cases List.mem_singleton.1 hm; exact goodM_of (by decide) (by decide) (by decide) (by omega) gcl (fun _ h => by cases h) (by omega) (by simp) (by simp; omega), by simp⟩) (⟨by decide, by decide, by decide, by decide, by decide +kernel, Rd.sl (i := 1) rfl rfl 1, Rd.sl (i := 0) rfl rfl 2⟩) (.cons _ (.cons _ (.refl _)))
  intro ml ma mc p Zn Z hms hhd hsub
  have hn := hms.n
  clear gcl gn ownc
  clear pc cc ca cl
  refine exec_mid (fun E L => SubE [(1, ptr kb), (3, .slice none 0 0), (4, ptr b4), (5, ptr b5), (6, ptr b6), (7, ptr b7), (8, ptr b8), (9, ptr b9)] E ∧ ∃ (ml : List MV) (ma : Option Addr) (mc : Nat) (p : Option Nat × Cont) (Zn L' : Atoms), Ms O 30 2 ml ma mc p Zn ∧ L.Perm L' ∧ (p :: (some b9, Cont.cells 0 ([str [68], str [66, 97, 115, 101], .slice (some ⟨ib, 0, some 0⟩) ([[74]] : List (List UInt8)).length 1, .int .i64 3, .slice (some ⟨fb, 0, some 0⟩) ([(⟨[119, 97, 115, 116, 101], 1, [], true⟩ : FV), (⟨[120], 2, [], false⟩ : FV)] : List FV).length 2, .slice ma (ml : List MV).length mc] : List Value) 0 52) :: ([(some b8, Cont.cells 0 c8.cells 0 52), (some b7, Cont.cells 0 c7.cells 0 52), (some b6, Cont.cells 0 c6.cells 0 52), (some b5, Cont.cells 0 c5.cells 0 52), (some b4, Cont.cells 0 c4.cells 0 52), (some kb, .cells 0 [.int .u8 k0, .int .u8 k1, .int .u8 k2, .int .u8 k3] 0 25)] ++ (Zn ++ Z))).Sublist L') ?_ ?_
  · refine exec_cond rfl (fun _ => ?_) (fun _ => ?_)
    · refine exec_draw (lst := [(0, 0), (1, 1), (2, 0), (3, 4), (4, 15), (5, 31), (6, 63)]) (full := 127) (by kernel_rfl) (by kernel_rfl) (by kernel_rfl) (by kernel_rfl) ?_
      repeat (first | refine zdc ?_)
      try refine draw_nil ?_
      refine draw_w rfl rfl rfl rfl rfl rfl (step_call_fp [] _ rfl rfl rfl (List.Perm.refl _) (fun H hs hst => seatClinit_ok) (fun v1 F1 h1 => ?_))
      obtain ⟨ca, cc, pc, rfl, rfl, ownc⟩ := h1
      refine (zst ?_)
      repeat (first | refine zdc ?_ | refine draw_w rfl rfl rfl rfl rfl rfl (step_call_pure rfl rfl rfl (fun H hs => by first | exact seatTyp_ok | exact seatRef_ok | exact seatOne_ok | exact seatNum_ok | exact seatStr_ok | exact seatAt_ok | exact seatOf_ok | exact seatPart_ok | exact seatCall_ok | exact seatMethod_ok) (zst ?_)) | refine draw_a rfl rfl rfl rfl rfl (step_buildSliceF rfl rfl rfl rfl rfl rfl (fun _ => (zst ?_))) | refine draw_a rfl rfl rfl rfl rfl (step_alloc rfl rfl rfl rfl (fun _ => (zst ?_))))
      try refine draw_nil ?_
      refine draw_w rfl rfl rfl rfl rfl rfl (step_appendC (z := 9) 2 rfl rfl rfl rfl rfl rfl rfl rfl hms.own (fun H hs => src_own (j := 0) hs rfl rfl 1) rfl (by first | rfl | exact allCell_map (fun _ => rfl) _) (by first | rfl | (simp; done) | (simp; omega)) (by omega) (by omega) (fun a2 c2 p2 own2 => (zst ?_)))
      repeat (first | refine zdc ?_)
      try refine draw_nil ?_
      refine draw_w rfl rfl rfl rfl rfl rfl (step_storeZ 3 rfl rfl rfl rfl rfl rfl rfl rfl rfl (zst ?_))
      refine draw_nil ?_
      exact ⟨⟨rfl, rfl, rfl, rfl, rfl, rfl, rfl, rfl, trivial⟩, ml ++ [methC [99, 108, 105, 110, 105, 116] none [] 0 5 [] true 0 [⟨2, 0, 0, [100], [], [], []⟩, ⟨41, 0, 0, [], [], [], []⟩, ⟨40, 0, 0, [], [], [], []⟩] ca cc], a2, c2, p2, _ :: Zn, _, hms.app own2 (.cons _ (.refl _)) (methC_rd (ownc) (List.mem_cons_self ..)) (goodM_of (by decide) (by decide) (by decide) (by omega) ⟨gStr (by decide), gOne (by decide) (by decide), gOne (by decide) (by decide), trivial⟩ (fun _ h => by cases h) (by simp) (by simp) (by simp)), perm_code, by simp only [List.length_append, List.length_singleton]; exact .cons _ (.refl _)⟩
    · repeat (first | refine zrc ?_ | (refine zn ?_; intro _))
      exact ⟨⟨rfl, rfl, rfl, rfl, rfl, rfl, rfl, rfl, trivial⟩, ml, ma, mc, p, Zn, _, hms.mono (by omega), List.Perm.refl _, .refl _⟩
  clear hn hms
  clear Zn p mc ma ml
  rintro E L ⟨hE, ml, ma, mc, p, Zn, L', hms, hP, hL⟩
  refine ExecS.weak hE (.refl _) ?_
  refine ExecS.perm hP ?_
  refine ExecS.weakL hL ?_
  clear hE hP hL
  have hn := hms.n
  have gc9 := hhd.gc hms (by omega) (by omega)
  refine ExecS.perm perm_fold ?_
  obtain ⟨c9, hc9, hd9⟩ : ∃ c9 : CV, c9 = (⟨[68], [66, 97, 115, 101], [[74]], 3, [(⟨[119, 97, 115, 116, 101], 1, [], true⟩ : FV), (⟨[120], 2, [], false⟩ : FV)], ml, (some ⟨ib, 0, some 0⟩), 1, (some ⟨fb, 0, some 0⟩), 2, ma, mc⟩ : CV) ∧ c9.cells = ([str [68], str [66, 97, 115, 101], .slice (some ⟨ib, 0, some 0⟩) ([[74]] : List (List UInt8)).length 1, .int .i64 3, .slice (some ⟨fb, 0, some 0⟩) ([(⟨[119, 97, 115, 116, 101], 1, [], true⟩ : FV), (⟨[120], 2, [], false⟩ : FV)] : List FV).length 2, .slice ma (ml : List MV).length mc] : List Value) := ⟨_, rfl, rfl⟩
  have nm9 : c9.nm = [68] := by rw [hc9]
  rw [← hc9] at gc9
  rw [← hd9]
  obtain ⟨Z9, hZ9⟩ : ∃ Z9 : Atoms, Z9 = p :: (Zn ++ Z) := ⟨_, rfl⟩
  rw [← hZ9] at gc9 ⊢
  have hs9 : Z8.Sublist Z9 := by rw [hZ9]; exact (hsub.trans (List.sublist_append_right _ _)).trans (.cons _ (.refl _))
  replace gc4 := gc4.mono hs9
  replace gc5 := gc5.mono hs9
  replace gc6 := gc6.mono hs9
  replace gc7 := gc7.mono hs9
  replace gc8 := gc8.mono hs9
  clear hn hms hhd hsub hc9 hd9 hZ9
  clear ml ma mc p Zn Z
  repeat (first | refine zrb ?_ | (refine zn ?_; intro _))
  rename_i cb
  refine ⟨trivial, _, rfl, (some cb, .cells 0 ([c4, c5, c6, c7, c8, c9].flatMap CV.cells) 6 52) :: Z9, [(some b9, Cont.cells 0 c9.cells 0 52), (some b8, Cont.cells 0 c8.cells 0 52), (some b7, Cont.cells 0 c7.cells 0 52), (some b6, Cont.cells 0 c6.cells 0 52), (some b5, Cont.cells 0 c5.cells 0 52), (some b4, Cont.cells 0 c4.cells 0 52), (some kb, .cells 0 [.int .u8 k0, .int .u8 k1, .int .u8 k2, .int .u8 k3] 0 25)], ?_, cb, [c4, c5, c6, c7, c8, c9], Z9, rfl, rfl, rfl, by simp only [List.map_cons, List.map_nil, nm4, nm5, nm6, nm7, nm8, nm9], ?_⟩
  · exact (List.perm_append_comm (l₁ := [(some b9, Cont.cells 0 c9.cells 0 52), (some b8, Cont.cells 0 c8.cells 0 52), (some b7, Cont.cells 0 c7.cells 0 52), (some b6, Cont.cells 0 c6.cells 0 52), (some b5, Cont.cells 0 c5.cells 0 52), (some b4, Cont.cells 0 c4.cells 0 52), (some kb, .cells 0 [.int .u8 k0, .int .u8 k1, .int .u8 k2, .int .u8 k3] 0 25)]) (l₂ := Z9)).cons _
  · intro c hcm
    simp only [List.mem_cons, List.not_mem_nil, or_false] at hcm
    rcases hcm with rfl | rfl | rfl | rfl | rfl | rfl
    · exact gc4.le (by omega)
    · exact gc5.le (by omega)
    · exact gc6.le (by omega)
    · exact gc7.le (by omega)
    · exact gc8.le (by omega)
    · exact gc9.le (by omega)
end Go.Proofs.YtlhkndjloeoodaaGreat
namespace Go.Proofs.YtlhkndjloeoodaaGreat
open Go.Ev Go.Ev.Wk
variable {O : Old}
theorem methP_rd {nm : List UInt8} {ps : List (Int × List UInt8)} {rk : Int} {rc : List UInt8} {st : Bool} {lo : Int} {cl : List Ins} {pa : Option Addr} {pc : Nat} {ca : Option Addr} {cc : Nat} {p : Option Nat × Cont} {Z : Atoms} (hps : Rd Z fun H => Sl O H (.slice pa ps.length pc) 2 ps.length (typC ps)) (h : OwnC 7 61 ca cl.length cc (cl.flatMap insL) p) (hp : p ∈ Z) : Rd Z fun H => MethF O H (methC nm pa ps pc rk rc st lo cl ca cc) :=
  fun X H0 H hst => ⟨hps X H0 H hst, h.rd hp X H0 H hst, Sl.nil⟩
set_option maxHeartbeats 64000000 in
set_option maxRecDepth 100000 in
theorem seatUtil_ok {H : Heap} {k : Int} : FpC TT O 34 [.int .u8 k] H [] fun v F' => ∃ (c : CV), v = c.val ∧ c.nm = [85, 116, 105, 108] ∧ GC O 342 F' c := by
  refine call_fpM rfl rfl rfl rfl rfl (St.start H) ?_
  repeat (first | refine zrb ?_ | (refine zn ?_; intro _) | refine ops_step rfl rfl rfl (step_call_pure rfl rfl rfl (fun H hs => by first | exact seatTyp_ok | exact seatRef_ok | exact seatOne_ok | exact seatNum_ok | exact seatStr_ok | exact seatAt_ok | exact seatOf_ok | exact seatPart_ok | exact seatCall_ok | exact seatMethod_ok) ?_))
  refine ops_step rfl rfl rfl (step_storeZ 12 rfl rfl rfl rfl rfl rfl rfl rfl rfl ?_)
  repeat (first | refine zrb ?_ | (refine zn ?_; intro _))
  rename_i b2 pi fb b4 c0 c1 cx c3 ps c4 pp c5 c6 c7 c8 mb
  refine ExecS.weak (pickE_sub (ks := [0, 2, 3, 4]) rfl) (List.Sublist.refl _) ?_
  refine ExecS.reord [0, 11, 13] rfl ?_
  refine exec_draw (lst := [(0, 0), (1, 1), (2, 0), (3, 4), (4, 12), (5, 28), (6, 60), (7, 124), (8, 252), (9, 511), (10, 1023), (11, 2047)]) (full := 4095) (by kernel_rfl) (by kernel_rfl) (by kernel_rfl) (by kernel_rfl) ?_
  repeat (first | refine zdb ?_ | refine draw_w rfl rfl rfl rfl rfl rfl (step_call_pure rfl rfl rfl (fun H hs => by first | exact seatTyp_ok | exact seatRef_ok | exact seatOne_ok | exact seatNum_ok | exact seatStr_ok | exact seatAt_ok | exact seatOf_ok | exact seatPart_ok | exact seatCall_ok | exact seatMethod_ok) (zst ?_)) | refine draw_a rfl rfl rfl rfl rfl (step_buildSliceF rfl rfl rfl rfl rfl rfl (fun _ => (zst ?_))) | refine draw_a rfl rfl rfl rfl rfl (step_alloc rfl rfl rfl rfl (fun _ => (zst ?_))))
  try refine draw_nil ?_
  refine draw_w rfl rfl rfl rfl rfl rfl (step_storeZ 1 rfl rfl rfl rfl rfl rfl rfl rfl rfl (zst ?_))
  refine draw_nil ?_
  rename_i c2
  repeat (first | refine zrb ?_ | (refine zn ?_; intro _))
  refine ExecS.weak (pickE_sub (ks := [0, 2, 4, 102]) rfl) (List.Sublist.refl _) ?_
  refine ExecS.reord [1, 1, 1, 2, 0, 0, 0, 0, 0, 0, 0, 0, 1, 1, 2] rfl ?_
  obtain ⟨Zr, hZr⟩ : ∃ Zr : Atoms, Zr = [(some c2, Cont.cells 0 (([⟨4, 0, 0, [], [], [], []⟩, ⟨20, 0, 4, [], [], [], []⟩, ⟨1, IntKind.i32.wrap 7, 0, [], [], [], []⟩, ⟨39, 0, 0, [], [], [], []⟩, ⟨1, IntKind.i32.wrap 3, 0, [], [], [], []⟩, ⟨39, 0, 0, [], [], [], []⟩] : List Ins).flatMap insL) 7 61), (some c8, Cont.cells 0 (([⟨4, 0, 0, [], [], [], []⟩, ⟨36, 0, 0, [], [71, 111, 110, 101], [102], [40, 73, 41, 73]⟩, ⟨39, 0, 0, [], [], [], []⟩] : List Ins).flatMap insL) 7 61), (some c6, Cont.cells 0 (([⟨25, 0, 0, [], [69, 114, 114, 50], [], []⟩, ⟨38, 0, 0, [], [], [], []⟩] : List Ins).flatMap insL) 7 61), (some c5, Cont.cells 0 (([⟨4, 0, 0, [], [], [], []⟩, ⟨39, 0, 0, [], [], [], []⟩] : List Ins).flatMap insL) 7 61), (some pp, Cont.cells 0 (typC [(4, [73])]) 2 55), (some c4, Cont.cells 0 (([⟨4, 0, 0, [], [], [], []⟩, ⟨39, 0, 0, [], [], [], []⟩] : List Ins).flatMap insL) 7 61), (some ps, Cont.cells 0 (typC [(4, [66, 97, 115, 101])]) 2 55), (some c3, Cont.cells 0 (([⟨4, 0, 0, [], [], [], []⟩, ⟨1, IntKind.i32.wrap 1, 0, [], [], [], []⟩, ⟨14, 0, 0, [], [], [], []⟩, ⟨20, 0, 6, [], [], [], []⟩, ⟨1, IntKind.i32.wrap 0, 0, [], [], [], []⟩, ⟨39, 0, 0, [], [], [], []⟩, ⟨4, 0, 0, [], [], [], []⟩, ⟨1, IntKind.i32.wrap 50, 0, [], [], [], []⟩, ⟨9, 0, 0, [], [], [], []⟩, ⟨36, 0, 0, [], [85, 116, 105, 108], [100, 111, 119, 110], [40, 73, 41, 73]⟩, ⟨1, IntKind.i32.wrap 1, 0, [], [], [], []⟩, ⟨8, 0, 0, [], [], [], []⟩, ⟨39, 0, 0, [], [], [], []⟩] : List Ins).flatMap insL) 7 61), (some c1, Cont.cells 0 (([⟨4, 0, 0, [], [], [], []⟩, ⟨5, 0, 2, [], [], [], []⟩, ⟨4, 0, 2, [], [], [], []⟩, ⟨4, 0, 2, [], [], [], []⟩, ⟨8, 0, 0, [], [], [], []⟩, ⟨39, 0, 0, [], [], [], []⟩] : List Ins).flatMap insL) 7 61), (some c0, Cont.cells 0 (([⟨4, 0, 0, [], [], [], []⟩, ⟨1, IntKind.i32.wrap 1, 0, [], [], [], []⟩, ⟨8, 0, 0, [], [], [], []⟩, ⟨39, 0, 0, [], [], [], []⟩] : List Ins).flatMap insL) 7 61), (some pi, Cont.cells 0 (typC [(1, [])]) 2 55)] := ⟨_, rfl⟩
  have r0 : Rd Zr fun H => MethF O H (methC [105, 110, 99] (some ⟨pi, 0, some 0⟩) [(1, [])] 1 1 [] true 1 [⟨4, 0, 0, [], [], [], []⟩, ⟨1, IntKind.i32.wrap 1, 0, [], [], [], []⟩, ⟨8, 0, 0, [], [], [], []⟩, ⟨39, 0, 0, [], [], [], []⟩] (some ⟨c0, 0, some 0⟩) 4) := by rw [hZr]; exact methP_rd (Rd.sl (i := 10) rfl rfl 1) (.full rfl) (List.mem_of_getElem? (i := 9) rfl)
  have r1 : Rd Zr fun H => MethF O H (methC [116, 119, 105, 99, 101] (some ⟨pi, 0, some 0⟩) [(1, [])] 1 1 [] true 3 [⟨4, 0, 0, [], [], [], []⟩, ⟨5, 0, 2, [], [], [], []⟩, ⟨4, 0, 2, [], [], [], []⟩, ⟨4, 0, 2, [], [], [], []⟩, ⟨8, 0, 0, [], [], [], []⟩, ⟨39, 0, 0, [], [], [], []⟩] (some ⟨c1, 0, some 0⟩) 6) := by rw [hZr]; exact methP_rd (Rd.sl (i := 10) rfl rfl 1) (.full rfl) (List.mem_of_getElem? (i := 8) rfl)
  have r2 : Rd Zr fun H => MethF O H (methC [119, 111, 114, 107] (some ⟨pi, 0, some 0⟩) [(1, [])] 1 1 [] true 1 [⟨4, 0, 0, [], [], [], []⟩, ⟨20, 0, 4, [], [], [], []⟩, ⟨1, IntKind.i32.wrap 7, 0, [], [], [], []⟩, ⟨39, 0, 0, [], [], [], []⟩, ⟨1, IntKind.i32.wrap 3, 0, [], [], [], []⟩, ⟨39, 0, 0, [], [], [], []⟩] (some ⟨c2, 0, some 0⟩) 6) := by rw [hZr]; exact methP_rd (Rd.sl (i := 10) rfl rfl 1) (.full rfl) (List.mem_of_getElem? (i := 0) rfl)
  have r3 : Rd Zr fun H => MethF O H (methC [100, 111, 119, 110] (some ⟨pi, 0, some 0⟩) [(1, [])] 1 1 [] true 1 [⟨4, 0, 0, [], [], [], []⟩, ⟨1, IntKind.i32.wrap 1, 0, [], [], [], []⟩, ⟨14, 0, 0, [], [], [], []⟩, ⟨20, 0, 6, [], [], [], []⟩, ⟨1, IntKind.i32.wrap 0, 0, [], [], [], []⟩, ⟨39, 0, 0, [], [], [], []⟩, ⟨4, 0, 0, [], [], [], []⟩, ⟨1, IntKind.i32.wrap 50, 0, [], [], [], []⟩, ⟨9, 0, 0, [], [], [], []⟩, ⟨36, 0, 0, [], [85, 116, 105, 108], [100, 111, 119, 110], [40, 73, 41, 73]⟩, ⟨1, IntKind.i32.wrap 1, 0, [], [], [], []⟩, ⟨8, 0, 0, [], [], [], []⟩, ⟨39, 0, 0, [], [], [], []⟩] (some ⟨c3, 0, some 0⟩) 13) := by rw [hZr]; exact methP_rd (Rd.sl (i := 10) rfl rfl 1) (.full rfl) (List.mem_of_getElem? (i := 7) rfl)
  have r4 : Rd Zr fun H => MethF O H (methC [115, 97, 109, 101] (some ⟨ps, 0, some 0⟩) [(4, [66, 97, 115, 101])] 1 4 [66, 97, 115, 101] true 1 [⟨4, 0, 0, [], [], [], []⟩, ⟨39, 0, 0, [], [], [], []⟩] (some ⟨c4, 0, some 0⟩) 2) := by rw [hZr]; exact methP_rd (Rd.sl (i := 6) rfl rfl 1) (.full rfl) (List.mem_of_getElem? (i := 5) rfl)
  have r5 : Rd Zr fun H => MethF O H (methC [112, 97, 115, 115] (some ⟨pp, 0, some 0⟩) [(4, [73])] 1 4 [73] true 1 [⟨4, 0, 0, [], [], [], []⟩, ⟨39, 0, 0, [], [], [], []⟩] (some ⟨c5, 0, some 0⟩) 2) := by rw [hZr]; exact methP_rd (Rd.sl (i := 4) rfl rfl 1) (.full rfl) (List.mem_of_getElem? (i := 3) rfl)
  have r6 : Rd Zr fun H => MethF O H (methC [102, 97, 105, 108] none [] 0 5 [] true 0 [⟨25, 0, 0, [], [69, 114, 114, 50], [], []⟩, ⟨38, 0, 0, [], [], [], []⟩] (some ⟨c6, 0, some 0⟩) 2) := by rw [hZr]; exact methP_rd (rdNil) (.full rfl) (List.mem_of_getElem? (i := 2) rfl)
  have r8 : Rd Zr fun H => MethF O H (methC [100, 101, 97, 100] (some ⟨pi, 0, some 0⟩) [(1, [])] 1 1 [] true 1 [⟨4, 0, 0, [], [], [], []⟩, ⟨36, 0, 0, [], [71, 111, 110, 101], [102], [40, 73, 41, 73]⟩, ⟨39, 0, 0, [], [], [], []⟩] (some ⟨c8, 0, some 0⟩) 3) := by rw [hZr]; exact methP_rd (Rd.sl (i := 10) rfl rfl 1) (.full rfl) (List.mem_of_getElem? (i := 1) rfl)
  refine ExecS.weakL (L' := (some mb, Cont.cells 0 (([methC [105, 110, 99] (some ⟨pi, 0, some 0⟩) [(1, [])] 1 1 [] true 1 [⟨4, 0, 0, [], [], [], []⟩, ⟨1, IntKind.i32.wrap 1, 0, [], [], [], []⟩, ⟨8, 0, 0, [], [], [], []⟩, ⟨39, 0, 0, [], [], [], []⟩] (some ⟨c0, 0, some 0⟩) 4, methC [116, 119, 105, 99, 101] (some ⟨pi, 0, some 0⟩) [(1, [])] 1 1 [] true 3 [⟨4, 0, 0, [], [], [], []⟩, ⟨5, 0, 2, [], [], [], []⟩, ⟨4, 0, 2, [], [], [], []⟩, ⟨4, 0, 2, [], [], [], []⟩, ⟨8, 0, 0, [], [], [], []⟩, ⟨39, 0, 0, [], [], [], []⟩] (some ⟨c1, 0, some 0⟩) 6, methC [119, 111, 114, 107] (some ⟨pi, 0, some 0⟩) [(1, [])] 1 1 [] true 1 [⟨4, 0, 0, [], [], [], []⟩, ⟨20, 0, 4, [], [], [], []⟩, ⟨1, IntKind.i32.wrap 7, 0, [], [], [], []⟩, ⟨39, 0, 0, [], [], [], []⟩, ⟨1, IntKind.i32.wrap 3, 0, [], [], [], []⟩, ⟨39, 0, 0, [], [], [], []⟩] (some ⟨c2, 0, some 0⟩) 6, methC [100, 111, 119, 110] (some ⟨pi, 0, some 0⟩) [(1, [])] 1 1 [] true 1 [⟨4, 0, 0, [], [], [], []⟩, ⟨1, IntKind.i32.wrap 1, 0, [], [], [], []⟩, ⟨14, 0, 0, [], [], [], []⟩, ⟨20, 0, 6, [], [], [], []⟩, ⟨1, IntKind.i32.wrap 0, 0, [], [], [], []⟩, ⟨39, 0, 0, [], [], [], []⟩, ⟨4, 0, 0, [], [], [], []⟩, ⟨1, IntKind.i32.wrap 50, 0, [], [], [], []⟩, ⟨9, 0, 0, [], [], [], []⟩, ⟨36, 0, 0, [], [85, 116, 105, 108], [100, 111, 119, 110], [40, 73, 41, 73]⟩, ⟨1, IntKind.i32.wrap 1, 0, [], [], [], []⟩, ⟨8, 0, 0, [], [], [], []⟩, ⟨39, 0, 0, [], [], [], []⟩] (some ⟨c3, 0, some 0⟩) 13, methC [115, 97, 109, 101] (some ⟨ps, 0, some 0⟩) [(4, [66, 97, 115, 101])] 1 4 [66, 97, 115, 101] true 1 [⟨4, 0, 0, [], [], [], []⟩, ⟨39, 0, 0, [], [], [], []⟩] (some ⟨c4, 0, some 0⟩) 2, methC [112, 97, 115, 115] (some ⟨pp, 0, some 0⟩) [(4, [73])] 1 4 [73] true 1 [⟨4, 0, 0, [], [], [], []⟩, ⟨39, 0, 0, [], [], [], []⟩] (some ⟨c5, 0, some 0⟩) 2, methC [102, 97, 105, 108] none [] 0 5 [] true 0 [⟨25, 0, 0, [], [69, 114, 114, 50], [], []⟩, ⟨38, 0, 0, [], [], [], []⟩] (some ⟨c6, 0, some 0⟩) 2, methC [115, 104, 111, 119] none [] 0 5 [] true 0 [⟨2, 0, 0, [115, 104, 111, 119], [], [], []⟩, ⟨41, 0, 0, [], [], [], []⟩, ⟨40, 0, 0, [], [], [], []⟩] (some ⟨c7, 0, some 0⟩) 3, methC [100, 101, 97, 100] (some ⟨pi, 0, some 0⟩) [(1, [])] 1 1 [] true 1 [⟨4, 0, 0, [], [], [], []⟩, ⟨36, 0, 0, [], [71, 111, 110, 101], [102], [40, 73, 41, 73]⟩, ⟨39, 0, 0, [], [], [], []⟩] (some ⟨c8, 0, some 0⟩) 3] : List MV).flatMap MV.cells) 9 59) :: (some b4, Cont.cells 0 ([str [85, 116, 105, 108], str [79, 98, 106, 101, 99, 116], .slice none (([] : List (List UInt8)) : List (List UInt8)).length 0, .int .i64 1, .slice (some ⟨fb, 0, some 0⟩) ([(⟨[119, 97, 115, 116, 101], 1, [], true⟩ : FV)] : List FV).length 1, .slice (some ⟨mb, 0, some 0⟩) 9 9] : List Value) 0 52) :: (some b2, Cont.cells 0 [str [], str [], .slice none 0 0, .int .i64 0, .slice none 0 0, .slice none 0 0] 0 52) :: (some c7, Cont.cells 0 (([⟨2, 0, 0, [115, 104, 111, 119], [], [], []⟩, ⟨41, 0, 0, [], [], [], []⟩, ⟨40, 0, 0, [], [], [], []⟩] : List Ins).flatMap insL) 7 61) :: (Zr ++ [(some fb, Cont.cells 0 (([(⟨[119, 97, 115, 116, 101], 1, [], true⟩ : FV)]).flatMap FV.cells) 4 63)])) (by rw [hZr]; exact (List.Sublist.refl _ : List.Sublist _ (_ :: _ :: _ :: _ :: _ :: _ :: _ :: _ :: _ :: _ :: _ :: _ :: _ :: _ :: _ :: [(some fb, Cont.cells 0 (([(⟨[119, 97, 115, 116, 101], 1, [], true⟩ : FV)]).flatMap FV.cells) 4 63)])).trans (by exact .cons_cons _ (.cons_cons _ (.cons_cons _ (.cons_cons _ (.cons_cons _ (.cons_cons _ (.cons_cons _ (.cons_cons _ (.cons_cons _ (.cons_cons _ (.cons_cons _ (.cons_cons _ (.cons_cons _ (.cons_cons _ (.cons_cons _ (.cons _ (.refl _))))))))))))))))) ) ?_
  clear hZr
  refine exec_mid (fun E L => SubE [(0, .int .u8 k), (2, ptr b2), (4, ptr b4)] E ∧ ∃ (cl : List Ins) (ca : Option Addr) (cc : Nat) (p : Option Nat × Cont) (L' : Atoms), GL cl ∧ cl.length ≤ 20 ∧ OwnC 7 61 ca cl.length cc (cl.flatMap insL) p ∧ L.Perm L' ∧ ((some mb, Cont.cells 0 (([methC [105, 110, 99] (some ⟨pi, 0, some 0⟩) [(1, [])] 1 1 [] true 1 [⟨4, 0, 0, [], [], [], []⟩, ⟨1, IntKind.i32.wrap 1, 0, [], [], [], []⟩, ⟨8, 0, 0, [], [], [], []⟩, ⟨39, 0, 0, [], [], [], []⟩] (some ⟨c0, 0, some 0⟩) 4, methC [116, 119, 105, 99, 101] (some ⟨pi, 0, some 0⟩) [(1, [])] 1 1 [] true 3 [⟨4, 0, 0, [], [], [], []⟩, ⟨5, 0, 2, [], [], [], []⟩, ⟨4, 0, 2, [], [], [], []⟩, ⟨4, 0, 2, [], [], [], []⟩, ⟨8, 0, 0, [], [], [], []⟩, ⟨39, 0, 0, [], [], [], []⟩] (some ⟨c1, 0, some 0⟩) 6, methC [119, 111, 114, 107] (some ⟨pi, 0, some 0⟩) [(1, [])] 1 1 [] true 1 [⟨4, 0, 0, [], [], [], []⟩, ⟨20, 0, 4, [], [], [], []⟩, ⟨1, IntKind.i32.wrap 7, 0, [], [], [], []⟩, ⟨39, 0, 0, [], [], [], []⟩, ⟨1, IntKind.i32.wrap 3, 0, [], [], [], []⟩, ⟨39, 0, 0, [], [], [], []⟩] (some ⟨c2, 0, some 0⟩) 6, methC [100, 111, 119, 110] (some ⟨pi, 0, some 0⟩) [(1, [])] 1 1 [] true 1 [⟨4, 0, 0, [], [], [], []⟩, ⟨1, IntKind.i32.wrap 1, 0, [], [], [], []⟩, ⟨14, 0, 0, [], [], [], []⟩, ⟨20, 0, 6, [], [], [], []⟩, ⟨1, IntKind.i32.wrap 0, 0, [], [], [], []⟩, ⟨39, 0, 0, [], [], [], []⟩, ⟨4, 0, 0, [], [], [], []⟩, ⟨1, IntKind.i32.wrap 50, 0, [], [], [], []⟩, ⟨9, 0, 0, [], [], [], []⟩, ⟨36, 0, 0, [], [85, 116, 105, 108], [100, 111, 119, 110], [40, 73, 41, 73]⟩, ⟨1, IntKind.i32.wrap 1, 0, [], [], [], []⟩, ⟨8, 0, 0, [], [], [], []⟩, ⟨39, 0, 0, [], [], [], []⟩] (some ⟨c3, 0, some 0⟩) 13, methC [115, 97, 109, 101] (some ⟨ps, 0, some 0⟩) [(4, [66, 97, 115, 101])] 1 4 [66, 97, 115, 101] true 1 [⟨4, 0, 0, [], [], [], []⟩, ⟨39, 0, 0, [], [], [], []⟩] (some ⟨c4, 0, some 0⟩) 2, methC [112, 97, 115, 115] (some ⟨pp, 0, some 0⟩) [(4, [73])] 1 4 [73] true 1 [⟨4, 0, 0, [], [], [], []⟩, ⟨39, 0, 0, [], [], [], []⟩] (some ⟨c5, 0, some 0⟩) 2, methC [102, 97, 105, 108] none [] 0 5 [] true 0 [⟨25, 0, 0, [], [69, 114, 114, 50], [], []⟩, ⟨38, 0, 0, [], [], [], []⟩] (some ⟨c6, 0, some 0⟩) 2, methC [115, 104, 111, 119] none [] 0 5 [] true 0 cl ca cc, methC [100, 101, 97, 100] (some ⟨pi, 0, some 0⟩) [(1, [])] 1 1 [] true 1 [⟨4, 0, 0, [], [], [], []⟩, ⟨36, 0, 0, [], [71, 111, 110, 101], [102], [40, 73, 41, 73]⟩, ⟨39, 0, 0, [], [], [], []⟩] (some ⟨c8, 0, some 0⟩) 3] : List MV).flatMap MV.cells) 9 59) :: (some b4, Cont.cells 0 ([str [85, 116, 105, 108], str [79, 98, 106, 101, 99, 116], .slice none (([] : List (List UInt8)) : List (List UInt8)).length 0, .int .i64 1, .slice (some ⟨fb, 0, some 0⟩) ([(⟨[119, 97, 115, 116, 101], 1, [], true⟩ : FV)] : List FV).length 1, .slice (some ⟨mb, 0, some 0⟩) 9 9] : List Value) 0 52) :: (some b2, Cont.cells 0 [str [], str [], .slice none 0 0, .int .i64 0, .slice none 0 0, .slice none 0 0] 0 52) :: p :: (Zr ++ [(some fb, Cont.cells 0 (([(⟨[119, 97, 115, 116, 101], 1, [], true⟩ : FV)]).flatMap FV.cells) 4 63)])).Sublist L') ?_ ?_
  · refine exec_cond rfl (fun _ => ?_) (fun _ => ?_)
    · refine exec_draw (lst := [(0, 0), (1, 1), (2, 0), (3, 4), (4, 12), (5, 28), (6, 60), (7, 127), (8, 255), (9, 511)]) (full := 1023) (by kernel_rfl) (by kernel_rfl) (by kernel_rfl) (by kernel_rfl) ?_
      repeat (first | refine zdb ?_ | refine draw_w rfl rfl rfl rfl rfl rfl (step_call_pure rfl rfl rfl (fun H hs => by first | exact seatTyp_ok | exact seatRef_ok | exact seatOne_ok | exact seatNum_ok | exact seatStr_ok | exact seatAt_ok | exact seatOf_ok | exact seatPart_ok | exact seatCall_ok | exact seatMethod_ok) (zst ?_)) | refine draw_a rfl rfl rfl rfl rfl (step_buildSliceF rfl rfl rfl rfl rfl rfl (fun _ => (zst ?_))) | refine draw_a rfl rfl rfl rfl rfl (step_alloc rfl rfl rfl rfl (fun _ => (zst ?_))))
      try refine draw_nil ?_
      refine draw_w rfl rfl rfl rfl rfl rfl (step_storeZ 1 rfl rfl rfl rfl rfl rfl rfl rfl rfl (zst ?_))
      refine draw_nil ?_
      exact ⟨⟨rfl, rfl, rfl, trivial⟩, [⟨1, IntKind.i32.wrap 5, 0, [], [], [], []⟩, ⟨2, 0, 0, [108, 101, 102, 116], [], [], []⟩, ⟨41, 0, 0, [], [], [], []⟩, ⟨40, 0, 0, [], [], [], []⟩], _, 4, _, _, ⟨gNum, gStr (by decide), gOne (by decide) (by decide), gOne (by decide) (by decide), trivial⟩, by simp, .full rfl, (List.perm_middle (l₁ := [_, _, _])).symm, .cons_cons _ (.cons_cons _ (.cons_cons _ (.cons_cons _ (.cons _ (.refl _)))))⟩
    · repeat (first | refine zrb ?_ | (refine zn ?_; intro _))
      exact ⟨⟨rfl, rfl, rfl, trivial⟩, [⟨2, 0, 0, [115, 104, 111, 119], [], [], []⟩, ⟨41, 0, 0, [], [], [], []⟩, ⟨40, 0, 0, [], [], [], []⟩], _, 3, _, _, ⟨gStr (by decide), gOne (by decide) (by decide), gOne (by decide) (by decide), trivial⟩, by simp, .full rfl, .refl _, .refl _⟩
  rintro E L ⟨hE, cl, ca, cc, pc, L', gcl, gn, ownc, hP, hL⟩
  refine ExecS.weak hE (.refl _) ?_
  refine ExecS.perm hP ?_
  refine ExecS.weakL hL ?_
  clear hE hP hL
  have g0 : GoodM 30 ((methC [105, 110, 99] (some ⟨pi, 0, some 0⟩) [(1, [])] 1 1 [] true 1 [⟨4, 0, 0, [], [], [], []⟩, ⟨1, IntKind.i32.wrap 1, 0, [], [], [], []⟩, ⟨8, 0, 0, [], [], [], []⟩, ⟨39, 0, 0, [], [], [], []⟩] (some ⟨c0, 0, some 0⟩) 4 : MV).toPM) := goodM_of (by decide) (by decide +kernel) (by decide) (by omega) (⟨gAt (by decide) (by decide) (by omega), gNum, gOne (by decide) (by decide), gOne (by decide) (by decide), trivial⟩) (fun _ h => by cases h) (by simp) (by simp) (by simp)
  have g1 : GoodM 30 ((methC [116, 119, 105, 99, 101] (some ⟨pi, 0, some 0⟩) [(1, [])] 1 1 [] true 3 [⟨4, 0, 0, [], [], [], []⟩, ⟨5, 0, 2, [], [], [], []⟩, ⟨4, 0, 2, [], [], [], []⟩, ⟨4, 0, 2, [], [], [], []⟩, ⟨8, 0, 0, [], [], [], []⟩, ⟨39, 0, 0, [], [], [], []⟩] (some ⟨c1, 0, some 0⟩) 6 : MV).toPM) := goodM_of (by decide) (by decide +kernel) (by decide) (by omega) (⟨gAt (by decide) (by decide) (by omega), gAt (by decide) (by decide) (by omega), gAt (by decide) (by decide) (by omega), gAt (by decide) (by decide) (by omega), gOne (by decide) (by decide), gOne (by decide) (by decide), trivial⟩) (fun _ h => by cases h) (by simp) (by simp) (by simp)
  have g2 : GoodM 30 ((methC [119, 111, 114, 107] (some ⟨pi, 0, some 0⟩) [(1, [])] 1 1 [] true 1 [⟨4, 0, 0, [], [], [], []⟩, ⟨20, 0, 4, [], [], [], []⟩, ⟨1, IntKind.i32.wrap 7, 0, [], [], [], []⟩, ⟨39, 0, 0, [], [], [], []⟩, ⟨1, IntKind.i32.wrap 3, 0, [], [], [], []⟩, ⟨39, 0, 0, [], [], [], []⟩] (some ⟨c2, 0, some 0⟩) 6 : MV).toPM) := goodM_of (by decide) (by decide +kernel) (by decide) (by omega) (⟨gAt (by decide) (by decide) (by omega), gAt (by decide) (by decide) (by omega), gNum, gOne (by decide) (by decide), gNum, gOne (by decide) (by decide), trivial⟩) (fun _ h => by cases h) (by simp) (by simp) (by simp)
  have g3 : GoodM 30 ((methC [100, 111, 119, 110] (some ⟨pi, 0, some 0⟩) [(1, [])] 1 1 [] true 1 [⟨4, 0, 0, [], [], [], []⟩, ⟨1, IntKind.i32.wrap 1, 0, [], [], [], []⟩, ⟨14, 0, 0, [], [], [], []⟩, ⟨20, 0, 6, [], [], [], []⟩, ⟨1, IntKind.i32.wrap 0, 0, [], [], [], []⟩, ⟨39, 0, 0, [], [], [], []⟩, ⟨4, 0, 0, [], [], [], []⟩, ⟨1, IntKind.i32.wrap 50, 0, [], [], [], []⟩, ⟨9, 0, 0, [], [], [], []⟩, ⟨36, 0, 0, [], [85, 116, 105, 108], [100, 111, 119, 110], [40, 73, 41, 73]⟩, ⟨1, IntKind.i32.wrap 1, 0, [], [], [], []⟩, ⟨8, 0, 0, [], [], [], []⟩, ⟨39, 0, 0, [], [], [], []⟩] (some ⟨c3, 0, some 0⟩) 13 : MV).toPM) := goodM_of (by decide) (by decide +kernel) (by decide) (by omega) (⟨gAt (by decide) (by decide) (by omega), gNum, gOne (by decide) (by decide), gAt (by decide) (by decide) (by omega), gNum, gOne (by decide) (by decide), gAt (by decide) (by decide) (by omega), gNum, gOne (by decide) (by decide), gCall (by decide) (by decide) (by decide) (by decide) (by decide +kernel) (by decide), gNum, gOne (by decide) (by decide), gOne (by decide) (by decide), trivial⟩) (fun _ h => by cases h) (by simp) (by simp) (by simp)
  have g4 : GoodM 30 ((methC [115, 97, 109, 101] (some ⟨ps, 0, some 0⟩) [(4, [66, 97, 115, 101])] 1 4 [66, 97, 115, 101] true 1 [⟨4, 0, 0, [], [], [], []⟩, ⟨39, 0, 0, [], [], [], []⟩] (some ⟨c4, 0, some 0⟩) 2 : MV).toPM) := goodM_of (by decide) (by decide +kernel) (by decide) (by omega) (⟨gAt (by decide) (by decide) (by omega), gOne (by decide) (by decide), trivial⟩) (fun _ h => by cases h) (by simp) (by simp) (by simp)
  have g5 : GoodM 30 ((methC [112, 97, 115, 115] (some ⟨pp, 0, some 0⟩) [(4, [73])] 1 4 [73] true 1 [⟨4, 0, 0, [], [], [], []⟩, ⟨39, 0, 0, [], [], [], []⟩] (some ⟨c5, 0, some 0⟩) 2 : MV).toPM) := goodM_of (by decide) (by decide +kernel) (by decide) (by omega) (⟨gAt (by decide) (by decide) (by omega), gOne (by decide) (by decide), trivial⟩) (fun _ h => by cases h) (by simp) (by simp) (by simp)
  have g6 : GoodM 30 ((methC [102, 97, 105, 108] none [] 0 5 [] true 0 [⟨25, 0, 0, [], [69, 114, 114, 50], [], []⟩, ⟨38, 0, 0, [], [], [], []⟩] (some ⟨c6, 0, some 0⟩) 2 : MV).toPM) := goodM_of (by decide) (by decide +kernel) (by decide) (by omega) (⟨gOf (by decide) (by decide) (by decide), gOne (by decide) (by decide), trivial⟩) (fun _ h => by cases h) (by simp) (by simp) (by simp)
  have g7 : GoodM 30 ((methC [115, 104, 111, 119] none [] 0 5 [] true 0 cl ca cc : MV).toPM) := goodM_of (by decide) (by decide +kernel) (by decide) (by omega) (gcl) (fun _ h => by cases h) (by omega) (by simp) (by simp; omega)
  have g8 : GoodM 30 ((methC [100, 101, 97, 100] (some ⟨pi, 0, some 0⟩) [(1, [])] 1 1 [] true 1 [⟨4, 0, 0, [], [], [], []⟩, ⟨36, 0, 0, [], [71, 111, 110, 101], [102], [40, 73, 41, 73]⟩, ⟨39, 0, 0, [], [], [], []⟩] (some ⟨c8, 0, some 0⟩) 3 : MV).toPM) := goodM_of (by decide) (by decide +kernel) (by decide) (by omega) (⟨gAt (by decide) (by decide) (by omega), gCall (by decide) (by decide) (by decide) (by decide) (by decide +kernel) (by decide), gOne (by decide) (by decide), trivial⟩) (fun _ h => by cases h) (by simp) (by simp) (by simp)
  have hm0 : Ms O 30 9 ([methC [105, 110, 99] (some ⟨pi, 0, some 0⟩) [(1, [])] 1 1 [] true 1 [⟨4, 0, 0, [], [], [], []⟩, ⟨1, IntKind.i32.wrap 1, 0, [], [], [], []⟩, ⟨8, 0, 0, [], [], [], []⟩, ⟨39, 0, 0, [], [], [], []⟩] (some ⟨c0, 0, some 0⟩) 4, methC [116, 119, 105, 99, 101] (some ⟨pi, 0, some 0⟩) [(1, [])] 1 1 [] true 3 [⟨4, 0, 0, [], [], [], []⟩, ⟨5, 0, 2, [], [], [], []⟩, ⟨4, 0, 2, [], [], [], []⟩, ⟨4, 0, 2, [], [], [], []⟩, ⟨8, 0, 0, [], [], [], []⟩, ⟨39, 0, 0, [], [], [], []⟩] (some ⟨c1, 0, some 0⟩) 6, methC [119, 111, 114, 107] (some ⟨pi, 0, some 0⟩) [(1, [])] 1 1 [] true 1 [⟨4, 0, 0, [], [], [], []⟩, ⟨20, 0, 4, [], [], [], []⟩, ⟨1, IntKind.i32.wrap 7, 0, [], [], [], []⟩, ⟨39, 0, 0, [], [], [], []⟩, ⟨1, IntKind.i32.wrap 3, 0, [], [], [], []⟩, ⟨39, 0, 0, [], [], [], []⟩] (some ⟨c2, 0, some 0⟩) 6, methC [100, 111, 119, 110] (some ⟨pi, 0, some 0⟩) [(1, [])] 1 1 [] true 1 [⟨4, 0, 0, [], [], [], []⟩, ⟨1, IntKind.i32.wrap 1, 0, [], [], [], []⟩, ⟨14, 0, 0, [], [], [], []⟩, ⟨20, 0, 6, [], [], [], []⟩, ⟨1, IntKind.i32.wrap 0, 0, [], [], [], []⟩, ⟨39, 0, 0, [], [], [], []⟩, ⟨4, 0, 0, [], [], [], []⟩, ⟨1, IntKind.i32.wrap 50, 0, [], [], [], []⟩, ⟨9, 0, 0, [], [], [], []⟩, ⟨36, 0, 0, [], [85, 116, 105, 108], [100, 111, 119, 110], [40, 73, 41, 73]⟩, ⟨1, IntKind.i32.wrap 1, 0, [], [], [], []⟩, ⟨8, 0, 0, [], [], [], []⟩, ⟨39, 0, 0, [], [], [], []⟩] (some ⟨c3, 0, some 0⟩) 13, methC [115, 97, 109, 101] (some ⟨ps, 0, some 0⟩) [(4, [66, 97, 115, 101])] 1 4 [66, 97, 115, 101] true 1 [⟨4, 0, 0, [], [], [], []⟩, ⟨39, 0, 0, [], [], [], []⟩] (some ⟨c4, 0, some 0⟩) 2, methC [112, 97, 115, 115] (some ⟨pp, 0, some 0⟩) [(4, [73])] 1 4 [73] true 1 [⟨4, 0, 0, [], [], [], []⟩, ⟨39, 0, 0, [], [], [], []⟩] (some ⟨c5, 0, some 0⟩) 2, methC [102, 97, 105, 108] none [] 0 5 [] true 0 [⟨25, 0, 0, [], [69, 114, 114, 50], [], []⟩, ⟨38, 0, 0, [], [], [], []⟩] (some ⟨c6, 0, some 0⟩) 2, methC [115, 104, 111, 119] none [] 0 5 [] true 0 cl ca cc, methC [100, 101, 97, 100] (some ⟨pi, 0, some 0⟩) [(1, [])] 1 1 [] true 1 [⟨4, 0, 0, [], [], [], []⟩, ⟨36, 0, 0, [], [71, 111, 110, 101], [102], [40, 73, 41, 73]⟩, ⟨39, 0, 0, [], [], [], []⟩] (some ⟨c8, 0, some 0⟩) 3]) (some ⟨mb, 0, some 0⟩) 9 ((some mb, Cont.cells 0 (([methC [105, 110, 99] (some ⟨pi, 0, some 0⟩) [(1, [])] 1 1 [] true 1 [⟨4, 0, 0, [], [], [], []⟩, ⟨1, IntKind.i32.wrap 1, 0, [], [], [], []⟩, ⟨8, 0, 0, [], [], [], []⟩, ⟨39, 0, 0, [], [], [], []⟩] (some ⟨c0, 0, some 0⟩) 4, methC [116, 119, 105, 99, 101] (some ⟨pi, 0, some 0⟩) [(1, [])] 1 1 [] true 3 [⟨4, 0, 0, [], [], [], []⟩, ⟨5, 0, 2, [], [], [], []⟩, ⟨4, 0, 2, [], [], [], []⟩, ⟨4, 0, 2, [], [], [], []⟩, ⟨8, 0, 0, [], [], [], []⟩, ⟨39, 0, 0, [], [], [], []⟩] (some ⟨c1, 0, some 0⟩) 6, methC [119, 111, 114, 107] (some ⟨pi, 0, some 0⟩) [(1, [])] 1 1 [] true 1 [⟨4, 0, 0, [], [], [], []⟩, ⟨20, 0, 4, [], [], [], []⟩, ⟨1, IntKind.i32.wrap 7, 0, [], [], [], []⟩, ⟨39, 0, 0, [], [], [], []⟩, ⟨1, IntKind.i32.wrap 3, 0, [], [], [], []⟩, ⟨39, 0, 0, [], [], [], []⟩] (some ⟨c2, 0, some 0⟩) 6, methC [100, 111, 119, 110] (some ⟨pi, 0, some 0⟩) [(1, [])] 1 1 [] true 1 [⟨4, 0, 0, [], [], [], []⟩, ⟨1, IntKind.i32.wrap 1, 0, [], [], [], []⟩, ⟨14, 0, 0, [], [], [], []⟩, ⟨20, 0, 6, [], [], [], []⟩, ⟨1, IntKind.i32.wrap 0, 0, [], [], [], []⟩, ⟨39, 0, 0, [], [], [], []⟩, ⟨4, 0, 0, [], [], [], []⟩, ⟨1, IntKind.i32.wrap 50, 0, [], [], [], []⟩, ⟨9, 0, 0, [], [], [], []⟩, ⟨36, 0, 0, [], [85, 116, 105, 108], [100, 111, 119, 110], [40, 73, 41, 73]⟩, ⟨1, IntKind.i32.wrap 1, 0, [], [], [], []⟩, ⟨8, 0, 0, [], [], [], []⟩, ⟨39, 0, 0, [], [], [], []⟩] (some ⟨c3, 0, some 0⟩) 13, methC [115, 97, 109, 101] (some ⟨ps, 0, some 0⟩) [(4, [66, 97, 115, 101])] 1 4 [66, 97, 115, 101] true 1 [⟨4, 0, 0, [], [], [], []⟩, ⟨39, 0, 0, [], [], [], []⟩] (some ⟨c4, 0, some 0⟩) 2, methC [112, 97, 115, 115] (some ⟨pp, 0, some 0⟩) [(4, [73])] 1 4 [73] true 1 [⟨4, 0, 0, [], [], [], []⟩, ⟨39, 0, 0, [], [], [], []⟩] (some ⟨c5, 0, some 0⟩) 2, methC [102, 97, 105, 108] none [] 0 5 [] true 0 [⟨25, 0, 0, [], [69, 114, 114, 50], [], []⟩, ⟨38, 0, 0, [], [], [], []⟩] (some ⟨c6, 0, some 0⟩) 2, methC [115, 104, 111, 119] none [] 0 5 [] true 0 cl ca cc, methC [100, 101, 97, 100] (some ⟨pi, 0, some 0⟩) [(1, [])] 1 1 [] true 1 [⟨4, 0, 0, [], [], [], []⟩, ⟨36, 0, 0, [], [71, 111, 110, 101], [102], [40, 73, 41, 73]⟩, ⟨39, 0, 0, [], [], [], []⟩] (some ⟨c8, 0, some 0⟩) 3] : List MV).flatMap MV.cells) 9 59)) (pc :: Zr) := by
    refine ⟨.full (flat_len (f := MV.cells) (z := 9) (fun _ => rfl) _), fun m hm => ?_, fun m hm => ?_, Nat.le_refl 9⟩
    · skip
      rcases List.mem_cons.1 hm with rfl | hm
      · exact r0.mono (.cons _ (.refl _))
      rcases List.mem_cons.1 hm with rfl | hm
      · exact r1.mono (.cons _ (.refl _))
      rcases List.mem_cons.1 hm with rfl | hm
      · exact r2.mono (.cons _ (.refl _))
      rcases List.mem_cons.1 hm with rfl | hm
      · exact r3.mono (.cons _ (.refl _))
      rcases List.mem_cons.1 hm with rfl | hm
      · exact r4.mono (.cons _ (.refl _))
      rcases List.mem_cons.1 hm with rfl | hm
      · exact r5.mono (.cons _ (.refl _))
      rcases List.mem_cons.1 hm with rfl | hm
      · exact r6.mono (.cons _ (.refl _))
      rcases List.mem_cons.1 hm with rfl | hm
      · exact methP_rd rdNil ownc (List.mem_cons_self ..)
      rcases List.mem_cons.1 hm with rfl | hm
      · exact r8.mono (.cons _ (.refl _))
      cases hm
    · skip
      rcases List.mem_cons.1 hm with rfl | hm
      · exact g0
      rcases List.mem_cons.1 hm with rfl | hm
      · exact g1
      rcases List.mem_cons.1 hm with rfl | hm
      · exact g2
      rcases List.mem_cons.1 hm with rfl | hm
      · exact g3
      rcases List.mem_cons.1 hm with rfl | hm
      · exact g4
      rcases List.mem_cons.1 hm with rfl | hm
      · exact g5
      rcases List.mem_cons.1 hm with rfl | hm
      · exact g6
      rcases List.mem_cons.1 hm with rfl | hm
      · exact g7
      rcases List.mem_cons.1 hm with rfl | hm
      · exact g8
      cases hm
  refine (?_ : ∀ (ml : List MV) (ma : Option Addr) (mc : Nat) (p : Option Nat × Cont) (Zn Z : Atoms), Ms O 30 9 ml ma mc p Zn → Hd O Z [85, 116, 105, 108] [79, 98, 106, 101, 99, 116] ([] : List (List UInt8)) 1 [(⟨[119, 97, 115, 116, 101], 1, [], true⟩ : FV)] none 0 (some ⟨fb, 0, some 0⟩) 1 → True → ExecS TT O _ _ _ _ _ (p :: (some b4, Cont.cells 0 ([str [85, 116, 105, 108], str [79, 98, 106, 101, 99, 116], .slice none (([] : List (List UInt8)) : List (List UInt8)).length 0, .int .i64 1, .slice (some ⟨fb, 0, some 0⟩) ([(⟨[119, 97, 115, 116, 101], 1, [], true⟩ : FV)] : List FV).length 1, .slice ma (ml : List MV).length mc] : List Value) 0 52) :: ([(some b2, Cont.cells 0 [str [], str [], .slice none 0 0, .int .i64 0, .slice none 0 0, .slice none 0 0] 0 52)] ++ (Zn ++ Z))) _) ([methC [105, 110, 99] (some ⟨pi, 0, some 0⟩) [(1, [])] 1 1 [] true 1 [⟨4, 0, 0, [], [], [], []⟩, ⟨1, IntKind.i32.wrap 1, 0, [], [], [], []⟩, ⟨8, 0, 0, [], [], [], []⟩, ⟨39, 0, 0, [], [], [], []⟩] (some ⟨c0, 0, some 0⟩) 4, methC [116, 119, 105, 99, 101] (some ⟨pi, 0, some 0⟩) [(1, [])] 1 1 [] true 3 [⟨4, 0, 0, [], [], [], []⟩, ⟨5, 0, 2, [], [], [], []⟩, ⟨4, 0, 2, [], [], [], []⟩, ⟨4, 0, 2, [], [], [], []⟩, ⟨8, 0, 0, [], [], [], []⟩, ⟨39, 0, 0, [], [], [], []⟩] (some ⟨c1, 0, some 0⟩) 6, methC [119, 111, 114, 107] (some ⟨pi, 0, some 0⟩) [(1, [])] 1 1 [] true 1 [⟨4, 0, 0, [], [], [], []⟩, ⟨20, 0, 4, [], [], [], []⟩, ⟨1, IntKind.i32.wrap 7, 0, [], [], [], []⟩, ⟨39, 0, 0, [], [], [], []⟩, ⟨1, IntKind.i32.wrap 3, 0, [], [], [], []⟩, ⟨39, 0, 0, [], [], [], []⟩] (some ⟨c2, 0, some 0⟩) 6, methC [100, 111, 119, 110] (some ⟨pi, 0, some 0⟩) [(1, [])] 1 1 [] true 1 [⟨4, 0, 0, [], [], [], []⟩, ⟨1, IntKind.i32.wrap 1, 0, [], [], [], []⟩, ⟨14, 0, 0, [], [], [], []⟩, ⟨20, 0, 6, [], [], [], []⟩, ⟨1, IntKind.i32.wrap 0, 0, [], [], [], []⟩, ⟨39, 0, 0, [], [], [], []⟩, ⟨4, 0, 0, [], [], [], []⟩, ⟨1, IntKind.i32.wrap 50, 0, [], [], [], []⟩, ⟨9, 0, 0, [], [], [], []⟩, ⟨36, 0, 0, [], [85, 116, 105, 108], [100, 111, 119, 110], [40, 73, 41, 73]⟩, ⟨1, IntKind.i32.wrap 1, 0, [], [], [], []⟩, ⟨8, 0, 0, [], [], [], []⟩, ⟨39, 0, 0, [], [], [], []⟩] (some ⟨c3, 0, some 0⟩) 13, methC [115, 97, 109, 101] (some ⟨ps, 0, some 0⟩) [(4, [66, 97, 115, 101])] 1 4 [66, 97, 115, 101] true 1 [⟨4, 0, 0, [], [], [], []⟩, ⟨39, 0, 0, [], [], [], []⟩] (some ⟨c4, 0, some 0⟩) 2, methC [112, 97, 115, 115] (some ⟨pp, 0, some 0⟩) [(4, [73])] 1 4 [73] true 1 [⟨4, 0, 0, [], [], [], []⟩, ⟨39, 0, 0, [], [], [], []⟩] (some ⟨c5, 0, some 0⟩) 2, methC [102, 97, 105, 108] none [] 0 5 [] true 0 [⟨25, 0, 0, [], [69, 114, 114, 50], [], []⟩, ⟨38, 0, 0, [], [], [], []⟩] (some ⟨c6, 0, some 0⟩) 2, methC [115, 104, 111, 119] none [] 0 5 [] true 0 cl ca cc, methC [100, 101, 97, 100] (some ⟨pi, 0, some 0⟩) [(1, [])] 1 1 [] true 1 [⟨4, 0, 0, [], [], [], []⟩, ⟨36, 0, 0, [], [71, 111, 110, 101], [102], [40, 73, 41, 73]⟩, ⟨39, 0, 0, [], [], [], []⟩] (some ⟨c8, 0, some 0⟩) 3]) (some ⟨mb, 0, some 0⟩) 9 (some mb, Cont.cells 0 (([methC [105, 110, 99] (some ⟨pi, 0, some 0⟩) [(1, [])] 1 1 [] true 1 [⟨4, 0, 0, [], [], [], []⟩, ⟨1, IntKind.i32.wrap 1, 0, [], [], [], []⟩, ⟨8, 0, 0, [], [], [], []⟩, ⟨39, 0, 0, [], [], [], []⟩] (some ⟨c0, 0, some 0⟩) 4, methC [116, 119, 105, 99, 101] (some ⟨pi, 0, some 0⟩) [(1, [])] 1 1 [] true 3 [⟨4, 0, 0, [], [], [], []⟩, ⟨5, 0, 2, [], [], [], []⟩, ⟨4, 0, 2, [], [], [], []⟩, ⟨4, 0, 2, [], [], [], []⟩, ⟨8, 0, 0, [], [], [], []⟩, ⟨39, 0, 0, [], [], [], []⟩] (some ⟨c1, 0, some 0⟩) 6, methC [119, 111, 114, 107] (some ⟨pi, 0, some 0⟩) [(1, [])] 1 1 [] true 1 [⟨4, 0, 0, [], [], [], []⟩, ⟨20, 0, 4, [], [], [], []⟩, ⟨1, IntKind.i32.wrap 7, 0, [], [], [], []⟩, ⟨39, 0, 0, [], [], [], []⟩, ⟨1, IntKind.i32.wrap 3, 0, [], [], [], []⟩, ⟨39, 0, 0, [], [], [], []⟩] (some ⟨c2, 0, some 0⟩) 6, methC [100, 111, 119, 110] (some ⟨pi, 0, some 0⟩) [(1, [])] 1 1 [] true 1 [⟨4, 0, 0, [], [], [], []⟩, ⟨1, IntKind.i32.wrap 1, 0, [], [], [], []⟩, ⟨14, 0, 0, [], [], [], []⟩, ⟨20, 0, 6, [], [], [], []⟩, ⟨1, IntKind.i32.wrap 0, 0, [], [], [], []⟩, ⟨39, 0, 0, [], [], [], []⟩, ⟨4, 0, 0, [], [], [], []⟩, ⟨1, IntKind.i32.wrap 50, 0, [], [], [], []⟩, ⟨9, 0, 0, [], [], [], []⟩, ⟨36, 0, 0, [], [85, 116, 105, 108], [100, 111, 119, 110], [40, 73, 41, 73]⟩, ⟨1, IntKind.i32.wrap 1, 0, [], [], [], []⟩, ⟨8, 0, 0, [], [], [], []⟩, ⟨39, 0, 0, [], [], [], []⟩] (some ⟨c3, 0, some 0⟩) 13, methC [115, 97, 109, 101] (some ⟨ps, 0, some 0⟩) [(4, [66, 97, 115, 101])] 1 4 [66, 97, 115, 101] true 1 [⟨4, 0, 0, [], [], [], []⟩, ⟨39, 0, 0, [], [], [], []⟩] (some ⟨c4, 0, some 0⟩) 2, methC [112, 97, 115, 115] (some ⟨pp, 0, some 0⟩) [(4, [73])] 1 4 [73] true 1 [⟨4, 0, 0, [], [], [], []⟩, ⟨39, 0, 0, [], [], [], []⟩] (some ⟨c5, 0, some 0⟩) 2, methC [102, 97, 105, 108] none [] 0 5 [] true 0 [⟨25, 0, 0, [], [69, 114, 114, 50], [], []⟩, ⟨38, 0, 0, [], [], [], []⟩] (some ⟨c6, 0, some 0⟩) 2, methC [115, 104, 111, 119] none [] 0 5 [] true 0 cl ca cc, methC [100, 101, 97, 100] (some ⟨pi, 0, some 0⟩) [(1, [])] 1 1 [] true 1 [⟨4, 0, 0, [], [], [], []⟩, ⟨36, 0, 0, [], [71, 111, 110, 101], [102], [40, 73, 41, 73]⟩, ⟨39, 0, 0, [], [], [], []⟩] (some ⟨c8, 0, some 0⟩) 3] : List MV).flatMap MV.cells) 9 59) (pc :: Zr) ([(some fb, Cont.cells 0 (([(⟨[119, 97, 115, 116, 101], 1, [], true⟩ : FV)]).flatMap FV.cells) 4 63)]) (hm0) (⟨by decide, by decide, by decide, by decide, by decide +kernel, rdNil, Rd.sl (i := 0) rfl rfl 1⟩) trivial
  intro ml ma mc p Zn Z hms hhd hsub
  have hn := hms.n
  clear hm0 gcl gn ownc g0 g1 g2 g3 g4 g5 g6 g7 g8 r0 r1 r2 r3 r4 r5 r6 r8
  clear pc cc ca cl Zr
  repeat (first | refine zrb ?_ | (refine zn ?_; intro _))
  refine ExecS.weak (pickE_sub (ks := [0, 2, 4, 114]) rfl) (List.Sublist.refl _) ?_
  refine exec_mid (fun E L => SubE [(0, .int .u8 k), (2, ptr b2), (4, ptr b4)] E ∧ ∃ (ml : List MV) (ma : Option Addr) (mc : Nat) (p : Option Nat × Cont) (Zn L' : Atoms), Ms O 30 10 ml ma mc p Zn ∧ L.Perm L' ∧ (p :: (some b4, Cont.cells 0 ([str [85, 116, 105, 108], str [79, 98, 106, 101, 99, 116], .slice none (([] : List (List UInt8)) : List (List UInt8)).length 0, .int .i64 1, .slice (some ⟨fb, 0, some 0⟩) ([(⟨[119, 97, 115, 116, 101], 1, [], true⟩ : FV)] : List FV).length 1, .slice ma (ml : List MV).length mc] : List Value) 0 52) :: ([(some b2, Cont.cells 0 [str [], str [], .slice none 0 0, .int .i64 0, .slice none 0 0, .slice none 0 0] 0 52)] ++ (Zn ++ Z))).Sublist L') ?_ ?_
  · refine exec_cond rfl (fun _ => ?_) (fun _ => ?_)
    · refine exec_draw (lst := [(0, 0), (1, 1), (2, 0), (3, 4), (4, 15), (5, 31), (6, 63)]) (full := 127) (by kernel_rfl) (by kernel_rfl) (by kernel_rfl) (by kernel_rfl) ?_
      repeat (first | refine zdb ?_)
      try refine draw_nil ?_
      refine draw_w rfl rfl rfl rfl rfl rfl (step_call_fp [] _ rfl rfl rfl (List.Perm.refl _) (fun H hs hst => seatClinit_ok) (fun v1 F1 h1 => ?_))
      obtain ⟨ca, cc, pc, rfl, rfl, ownc⟩ := h1
      refine (zst ?_)
      repeat (first | refine zdb ?_ | refine draw_w rfl rfl rfl rfl rfl rfl (step_call_pure rfl rfl rfl (fun H hs => by first | exact seatTyp_ok | exact seatRef_ok | exact seatOne_ok | exact seatNum_ok | exact seatStr_ok | exact seatAt_ok | exact seatOf_ok | exact seatPart_ok | exact seatCall_ok | exact seatMethod_ok) (zst ?_)) | refine draw_a rfl rfl rfl rfl rfl (step_buildSliceF rfl rfl rfl rfl rfl rfl (fun _ => (zst ?_))) | refine draw_a rfl rfl rfl rfl rfl (step_alloc rfl rfl rfl rfl (fun _ => (zst ?_))))
      try refine draw_nil ?_
      refine draw_w rfl rfl rfl rfl rfl rfl (step_appendC (z := 9) 2 rfl rfl rfl rfl rfl rfl rfl rfl hms.own (fun H hs => src_own (j := 0) hs rfl rfl 1) rfl (by first | rfl | exact allCell_map (fun _ => rfl) _) (by first | rfl | (simp; done) | (simp; omega)) (by omega) (by omega) (fun a2 c2 p2 own2 => (zst ?_)))
      repeat (first | refine zdb ?_)
      try refine draw_nil ?_
      refine draw_w rfl rfl rfl rfl rfl rfl (step_storeZ 3 rfl rfl rfl rfl rfl rfl rfl rfl rfl (zst ?_))
      refine draw_nil ?_
      exact ⟨⟨rfl, rfl, rfl, trivial⟩, ml ++ [methC [99, 108, 105, 110, 105, 116] none [] 0 5 [] true 0 [⟨2, 0, 0, [117, 116, 105, 108], [], [], []⟩, ⟨41, 0, 0, [], [], [], []⟩, ⟨40, 0, 0, [], [], [], []⟩] ca cc], a2, c2, p2, _ :: Zn, _, hms.app own2 (.cons _ (.refl _)) (methC_rd (ownc) (List.mem_cons_self ..)) (goodM_of (by decide) (by decide) (by decide) (by omega) ⟨gStr (by decide), gOne (by decide) (by decide), gOne (by decide) (by decide), trivial⟩ (fun _ h => by cases h) (by simp) (by simp) (by simp)), perm_code, by simp only [List.length_append, List.length_singleton]; exact .cons _ (.refl _)⟩
    · repeat (first | refine zrb ?_ | (refine zn ?_; intro _))
      exact ⟨⟨rfl, rfl, rfl, trivial⟩, ml, ma, mc, p, Zn, _, hms.mono (by omega), List.Perm.refl _, .refl _⟩
  clear hn hms
  clear Zn p mc ma ml
  rintro E L ⟨hE, ml, ma, mc, p, Zn, L', hms, hP, hL⟩
  refine ExecS.weak hE (.refl _) ?_
  refine ExecS.perm hP ?_
  refine ExecS.weakL hL ?_
  clear hE hP hL
  have hn := hms.n
  repeat (first | refine zrb ?_ | (refine zn ?_; intro _))
  exact ⟨trivial, [_], ⟨look_agg 2 rfl rfl rfl rfl, trivial⟩, p :: (Zn ++ Z), _, (List.perm_append_comm (l₁ := [_, _]) (l₂ := Zn ++ Z)).cons _, (⟨[85, 116, 105, 108], [79, 98, 106, 101, 99, 116], ([] : List (List UInt8)), 1, [(⟨[119, 97, 115, 116, 101], 1, [], true⟩ : FV)], ml, none, 0, (some ⟨fb, 0, some 0⟩), 1, ma, mc⟩ : CV), rfl, rfl, (hhd.gc hms (by omega) (by omega)).le (by omega)⟩
end Go.Proofs.YtlhkndjloeoodaaGreat
namespace Go.Proofs.YtlhkndjloeoodaaGreat
open Go.Ev Go.Ev.Wk
variable {O : Old}
structure MsM (O : Old) (k j : Nat) (ml : List MV) (ma : Option Addr) (mc : Nat) (p : Option Nat × Cont) (Zn : Atoms) : Prop extends Ms O k j ml ma mc p Zn where
  one : ∃ (m : MV) (r : List MV), ml = m :: r ∧ ∃ i ∈ m.cl, i.op = 1
theorem MsM.app {k j : Nat} {ml : List MV} {ma a : Option Addr} {mc c : Nat} {p p2 : Option Nat × Cont} {Zn Zm : Atoms} {m : MV} (h : MsM O k j ml ma mc p Zn) (own : OwnA 9 59 a (ml.length + 1) c (ml.flatMap MV.cells ++ m.cells) p2) (hs : Zn.Sublist Zm) (hr : Rd Zm fun H => MethF O H m) (hg : GoodM k m.toPM) : MsM O k (j + 1) (ml ++ [m]) a c p2 Zm :=
  { h.toMs.app own hs hr hg with one := by obtain ⟨m1, r, e, h2⟩ := h.one; exact ⟨m1, r ++ [m], by rw [e]; rfl, h2⟩ }
theorem MsM.mono {k j j' : Nat} {ml : List MV} {ma : Option Addr} {mc : Nat} {p : Option Nat × Cont} {Zn : Atoms} (h : MsM O k j ml ma mc p Zn) (e : j ≤ j') : MsM O k j' ml ma mc p Zn := { h.toMs.mono e with one := h.one }
def turnB (k2 : Int) : Bool := IntKind.u8.wrap ((BitVec.ofInt IntKind.u8.bits k2 &&& BitVec.ofInt IntKind.u8.bits 4).toNat : Int) == 4
structure SeatAr (O : Old) (k2 : Int) (Z : Atoms) (a : Option Addr) (k : Nat) (cl : List CV) : Prop where
  rd : Rd Z fun H => ArcF O H a k cl
  rt : ∀ c ∈ cl, RtC c.pc
  wf : ∀ c ∈ cl, WfC c.pc
  cd : ∀ c ∈ cl, Closed c.pc
  len : cl.length = 13
  cnt : cntA (cl.map CV.pc) ≤ 3333
  nms : (cl.map CV.nm).Perm NN
  one : ∃ c ∈ cl, ∃ (m : MV) (r : List MV), c.ml = m :: r ∧ ∃ i ∈ m.cl, i.op = 1
  fst : turnB k2 = false → ∃ (c : CV) (r : List CV), cl = c :: r ∧ c.nm = [77, 97, 105, 110] ∧ ∃ (m : MV) (q : List MV), c.ml = m :: q ∧ ∃ i ∈ m.cl, i.op = 1
theorem perm_sum {l l' : List Nat} (h : l.Perm l') : l.sum = l'.sum := by
  induction h with
  | nil => rfl
  | cons x _ ih => simp only [List.sum_cons, ih]
  | swap x y l => simp only [List.sum_cons]; omega
  | trans _ _ h1 h2 => rw [h1, h2]
theorem rdL_class {cl : List CV} {i : Nat} {c : CV} (h : cl[i]? = some c) : rdL (cl.flatMap CV.cells) 6 (0 + ((i : Nat) : Int).toNat * 6) = some c.cells := by
  obtain ⟨hi, rfl⟩ := List.getElem?_eq_some_iff.1 h
  have e1 : cl.flatMap CV.cells = (cl.take i).flatMap CV.cells ++ (cl[i].cells ++ (cl.drop (i + 1)).flatMap CV.cells) := by
    conv => lhs; rw [← List.take_append_drop i cl, List.drop_eq_getElem_cons hi]
    simp only [List.flatMap_append, List.flatMap_cons]
  have hl : ((cl.take i).flatMap CV.cells).length = i * 6 := by rw [flat_len (z := 6) (fun _ => rfl), List.length_take, Nat.min_eq_left (by omega)]
  have key : ∀ (n off : Nat) (a l : List Value), rdL (a ++ l) n (a.length + off) = rdL l n off := by
    intro n
    induction n with
    | zero => intros; rfl
    | succ n ih =>
      intro off a l
      have e : (a ++ l)[a.length + off]? = l[off]? := by rw [List.getElem?_append_right (by omega)]; congr 1; omega
      simp only [rdL, e, Nat.add_assoc, ih (off + 1) a l]
  rw [e1, show 0 + ((i : Nat) : Int).toNat * 6 = ((cl.take i).flatMap CV.cells).length + 0 from by rw [hl]; omega, key]
  rfl
set_option maxHeartbeats 64000000 in
set_option maxRecDepth 100000 in
theorem seatArchive_ok {H : Heap} {k0 k1 k2 k3 : Int} {xa ya : Option Addr} {xn xc yn yc : Nat} {xs ys : List UInt8} (h0 : 0 ≤ k0 ∧ k0 ≤ 255) (hk3 : 0 ≤ k3 ∧ k3 ≤ 255)
    (hL : Keep [] H fun H' => Sl O H' (.slice xa xn xc) 1 xn (xs.map by8)) (hln : xn ≤ 1000000) (hM : Keep [] H fun H' => Sl O H' (.slice ya yn yc) 1 yn (ys.map by8)) (hmn : yn ≤ 1000000) :
    FpC TT O 11 [.agg #[.int .u8 k0, .int .u8 k1, .int .u8 k2, .int .u8 k3], .slice xa xn xc, .slice ya yn yc] H [] fun v F' => ∃ (aa : Option Addr) (ac : Nat) (cl : List CV), v = arcV aa cl.length ac ∧ SeatAr O k2 F' aa ac cl := by
  refine call_fpM rfl rfl rfl rfl rfl (St.start H) ?_
  repeat (first | refine zrc ?_ | (refine zn ?_; intro _))
  refine ops_step rfl rfl rfl (step_call_fp [] _ rfl rfl rfl (List.Perm.refl _) (fun H hs hst => bBody_ok (Keep.base (X := blksOf []) (F := []) hL hs) hln) (fun v1 F1 h1 => ?_))
  obtain ⟨code, hl, ca, cc, ha, hc, p1, q1, rfl, rfl, own1, ownH1, gl1, gh1, n1, n1', x1⟩ := h1
  repeat (first | refine zrc ?_ | (refine zn ?_; intro _))
  refine ops_step rfl rfl rfl (step_call_fp [] _ rfl rfl rfl (List.Perm.refl _) (fun H hs hst => bBody_ok (Keep.base (X := blksOf []) (F := []) hM hs) hmn) (fun v2 F2 h2 => ?_))
  obtain ⟨alt, hg, aa, ac, ga, gc, p2, q2, rfl, rfl, own2, ownH2, gl2, gh2, n2, n2', x2⟩ := h2
  repeat (first | refine zrc ?_ | (refine zn ?_; intro _) | refine ops_step rfl rfl rfl (step_call_pure rfl rfl rfl (fun H hs => by first | exact seatTyp_ok | exact seatRef_ok | exact seatOne_ok | exact seatNum_ok | exact seatStr_ok | exact seatAt_ok | exact seatOf_ok | exact seatPart_ok | exact seatCall_ok | exact seatMethod_ok) ?_))
  rename_i kb b6 mb b11
  refine ExecS.reord [1, 0, 4, 4] rfl ?_
  refine ExecS.weak (pickE_sub (ks := [3, 6, 11, 43]) rfl) (List.Sublist.refl _) ?_
  have hm0 : MsM O 640 2 [(⟨⟨[109, 97, 105, 110], [], 5, [], true, false, 6, code, hl⟩, none, 0, ca, cc, ha, hc⟩ : MV), (⟨⟨[97, 108, 116], [], 5, [], true, false, 6, alt, hg⟩, none, 0, aa, ac, ga, gc⟩ : MV)] (some ⟨mb, 0, some 0⟩) 2 ((some mb, Cont.cells 0 (([(⟨⟨[109, 97, 105, 110], [], 5, [], true, false, 6, code, hl⟩, none, 0, ca, cc, ha, hc⟩ : MV), (⟨⟨[97, 108, 116], [], 5, [], true, false, 6, alt, hg⟩, none, 0, aa, ac, ga, gc⟩ : MV)] : List MV).flatMap MV.cells) 9 59)) [p2, q2, p1, q1] := by
    refine ⟨⟨.full rfl, fun m hm => ?_, fun m hm => ?_, by simp⟩, ⟨(⟨⟨[109, 97, 105, 110], [], 5, [], true, false, 6, code, hl⟩, none, 0, ca, cc, ha, hc⟩ : MV), [(⟨⟨[97, 108, 116], [], 5, [], true, false, 6, alt, hg⟩, none, 0, aa, ac, ga, gc⟩ : MV)], rfl, x1⟩⟩
    · simp only [List.mem_cons, List.not_mem_nil, or_false] at hm; rcases hm with rfl | rfl
      · exact fun X H0 H hst => ⟨Sl.nil, Rd.own own1 (by simp) X H0 H hst, Rd.own ownH1 (by simp) X H0 H hst⟩
      · exact fun X H0 H hst => ⟨Sl.nil, Rd.own own2 (by simp) X H0 H hst, Rd.own ownH2 (by simp) X H0 H hst⟩
    · simp only [List.mem_cons, List.not_mem_nil, or_false] at hm; rcases hm with rfl | rfl
      · exact goodM_of (by decide) (by decide) (by decide) (by omega) gl1 gh1 n1 n1' (by omega)
      · exact goodM_of (by decide) (by decide) (by decide) (by omega) gl2 gh2 n2 n2' (by omega)
  refine (?_ : ∀ (ml : List MV) (ma : Option Addr) (mc : Nat) (p : Option Nat × Cont) (Zn Z : Atoms), MsM O 640 2 ml ma mc p Zn → Hd O Z [77, 97, 105, 110] [79, 98, 106, 101, 99, 116] ([] : List (List UInt8)) 1 ([] : List FV) none 0 none 0 → True → ExecS TT O _ _ _ _ _ (p :: (some b11, Cont.cells 0 ([str [77, 97, 105, 110], str [79, 98, 106, 101, 99, 116], .slice none (([] : List (List UInt8)) : List (List UInt8)).length 0, .int .i64 1, .slice none (([] : List FV) : List FV).length 0, .slice ma (ml : List MV).length mc] : List Value) 0 52) :: ([(some b6, Cont.cells 0 [.slice none 0 0] 0 24), (some kb, .cells 0 [.int .u8 k0, .int .u8 k1, .int .u8 k2, .int .u8 k3] 0 25)] ++ (Zn ++ Z))) _) ([(⟨⟨[109, 97, 105, 110], [], 5, [], true, false, 6, code, hl⟩, none, 0, ca, cc, ha, hc⟩ : MV), (⟨⟨[97, 108, 116], [], 5, [], true, false, 6, alt, hg⟩, none, 0, aa, ac, ga, gc⟩ : MV)]) (some ⟨mb, 0, some 0⟩) 2 (some mb, Cont.cells 0 (([(⟨⟨[109, 97, 105, 110], [], 5, [], true, false, 6, code, hl⟩, none, 0, ca, cc, ha, hc⟩ : MV), (⟨⟨[97, 108, 116], [], 5, [], true, false, 6, alt, hg⟩, none, 0, aa, ac, ga, gc⟩ : MV)] : List MV).flatMap MV.cells) 9 59) ([p2, q2, p1, q1]) ([]) (hm0) (⟨by decide, by decide, by decide, by decide, by decide +kernel, rdNil, rdNil⟩) trivial
  intro ml ma mc p Zn Z hms hhd hsub
  have hn := hms.n
  clear hm0 own1 ownH1 gl1 gh1 n1 n1' x1 own2 ownH2 gl2 gh2 n2 n2' x2 hL hM
  clear q2 p2 gc ga ac aa hg alt q1 p1 hc ha cc ca hl code
  refine exec_mid (fun E L => SubE [(3, ptr kb), (6, ptr b6), (11, ptr b11)] E ∧ ∃ (ml : List MV) (ma : Option Addr) (mc : Nat) (p : Option Nat × Cont) (Zn L' : Atoms), MsM O 640 3 ml ma mc p Zn ∧ L.Perm L' ∧ (p :: (some b11, Cont.cells 0 ([str [77, 97, 105, 110], str [79, 98, 106, 101, 99, 116], .slice none (([] : List (List UInt8)) : List (List UInt8)).length 0, .int .i64 1, .slice none (([] : List FV) : List FV).length 0, .slice ma (ml : List MV).length mc] : List Value) 0 52) :: ([(some b6, Cont.cells 0 [.slice none 0 0] 0 24), (some kb, .cells 0 [.int .u8 k0, .int .u8 k1, .int .u8 k2, .int .u8 k3] 0 25)] ++ (Zn ++ Z))).Sublist L') ?_ ?_
  · refine exec_cond rfl (fun _ => ?_) (fun _ => ?_)
    · refine exec_draw (lst := [(0, 0), (1, 1), (2, 0), (3, 4), (4, 15), (5, 31), (6, 63)]) (full := 127) (by kernel_rfl) (by kernel_rfl) (by kernel_rfl) (by kernel_rfl) ?_
      repeat (first | refine zdc ?_)
      try refine draw_nil ?_
      refine draw_w rfl rfl rfl rfl rfl rfl (step_call_fp [] _ rfl rfl rfl (List.Perm.refl _) (fun H hs hst => seatClinit_ok) (fun v1 F1 h1 => ?_))
      obtain ⟨ca, cc, pc, rfl, rfl, ownc⟩ := h1
      refine (zst ?_)
      repeat (first | refine zdc ?_ | refine draw_w rfl rfl rfl rfl rfl rfl (step_call_pure rfl rfl rfl (fun H hs => by first | exact seatTyp_ok | exact seatRef_ok | exact seatOne_ok | exact seatNum_ok | exact seatStr_ok | exact seatAt_ok | exact seatOf_ok | exact seatPart_ok | exact seatCall_ok | exact seatMethod_ok) (zst ?_)) | refine draw_a rfl rfl rfl rfl rfl (step_buildSliceF rfl rfl rfl rfl rfl rfl (fun _ => (zst ?_))) | refine draw_a rfl rfl rfl rfl rfl (step_alloc rfl rfl rfl rfl (fun _ => (zst ?_))))
      try refine draw_nil ?_
      refine draw_w rfl rfl rfl rfl rfl rfl (step_appendC (z := 9) 2 rfl rfl rfl rfl rfl rfl rfl rfl hms.own (fun H hs => src_own (j := 0) hs rfl rfl 1) rfl (by first | rfl | exact allCell_map (fun _ => rfl) _) (by first | rfl | (simp; done) | (simp; omega)) (by omega) (by omega) (fun a2 c2 p2 own2 => (zst ?_)))
      repeat (first | refine zdc ?_)
      try refine draw_nil ?_
      refine draw_w rfl rfl rfl rfl rfl rfl (step_storeZ 3 rfl rfl rfl rfl rfl rfl rfl rfl rfl (zst ?_))
      refine draw_nil ?_
      exact ⟨⟨rfl, rfl, rfl, trivial⟩, ml ++ [methC [99, 108, 105, 110, 105, 116] none [] 0 5 [] true 0 [⟨2, 0, 0, [109, 97, 105, 110], [], [], []⟩, ⟨41, 0, 0, [], [], [], []⟩, ⟨40, 0, 0, [], [], [], []⟩] ca cc], a2, c2, p2, _ :: Zn, _, hms.app own2 (.cons _ (.refl _)) (methC_rd (ownc) (List.mem_cons_self ..)) (goodM_of (by decide) (by decide) (by decide) (by omega) ⟨gStr (by decide), gOne (by decide) (by decide), gOne (by decide) (by decide), trivial⟩ (fun _ h => by cases h) (by simp) (by simp) (by simp)), perm_code, by simp only [List.length_append, List.length_singleton]; exact .cons _ (.refl _)⟩
    · repeat (first | refine zrc ?_ | (refine zn ?_; intro _))
      exact ⟨⟨rfl, rfl, rfl, trivial⟩, ml, ma, mc, p, Zn, _, hms.mono (by omega), List.Perm.refl _, .refl _⟩
  clear hn hms
  clear Zn p mc ma ml
  rintro E L ⟨hE, ml, ma, mc, p, Zn, L', hms, hP, hL⟩
  refine ExecS.weak hE (.refl _) ?_
  refine ExecS.perm hP ?_
  refine ExecS.weakL hL ?_
  clear hE hP hL
  have hn := hms.n
  have gc11 := hhd.gc hms.toMs (by omega) (by omega)
  refine ExecS.perm perm_fold ?_
  obtain ⟨c11, hc11, hd11⟩ : ∃ c11 : CV, c11 = (⟨[77, 97, 105, 110], [79, 98, 106, 101, 99, 116], ([] : List (List UInt8)), 1, ([] : List FV), ml, none, 0, none, 0, ma, mc⟩ : CV) ∧ c11.cells = ([str [77, 97, 105, 110], str [79, 98, 106, 101, 99, 116], .slice none (([] : List (List UInt8)) : List (List UInt8)).length 0, .int .i64 1, .slice none (([] : List FV) : List FV).length 0, .slice ma (ml : List MV).length mc] : List Value) := ⟨_, rfl, rfl⟩
  have nm11 : c11.nm = [77, 97, 105, 110] := by rw [hc11]
  have one11 : ∃ (m : MV) (r : List MV), c11.ml = m :: r ∧ ∃ i ∈ m.cl, i.op = 1 := by rw [hc11]; exact hms.one
  rw [← hc11] at gc11
  rw [← hd11]
  obtain ⟨Z11, hZ11⟩ : ∃ Z11 : Atoms, Z11 = p :: (Zn ++ Z) := ⟨_, rfl⟩
  rw [← hZ11] at gc11 ⊢
  clear hn hms hhd hsub hc11 hd11 hZ11
  clear ml ma mc p Zn Z
  repeat (first | refine zrc ?_ | (refine zn ?_; intro _) | refine ops_step rfl rfl rfl (step_call_pure rfl rfl rfl (fun H hs => by first | exact seatTyp_ok | exact seatRef_ok | exact seatOne_ok | exact seatNum_ok | exact seatStr_ok | exact seatAt_ok | exact seatOf_ok | exact seatPart_ok | exact seatCall_ok | exact seatMethod_ok) ?_))
  rename_i ib b12 jb b13
  refine ExecS.weak (pickE_sub (ks := [3, 6, 11, 12, 13, 59]) rfl) (List.Sublist.refl _) ?_
  refine ExecS.reord [3, 2, 0, 1, 1, 1] rfl ?_
  have rj : Rd ((some jb, Cont.cells 0 [str [73]] 1 9) :: Z11) fun H => Sl O H (.slice (some ⟨jb, 0, some 0⟩) 1 1) 1 1 [str [73]] := Rd.sl (i := 0) rfl rfl 1
  replace gc11 := gc11.mono (Z' := (some jb, Cont.cells 0 [str [73]] 1 9) :: Z11) (.cons _ (.refl _))
  refine (?_ : ∀ (ml : List MV) (ma : Option Addr) (mc : Nat) (p : Option Nat × Cont) (Zn Z : Atoms), Ms O 0 1 ml ma mc p Zn → Hd O Z [73] [79, 98, 106, 101, 99, 116] ([] : List (List UInt8)) 4 ([] : List FV) none 0 none 0 → ((some jb, Cont.cells 0 [str [73]] 1 9) :: Z11).Sublist Z → ExecS TT O _ _ _ _ _ (p :: (some b12, Cont.cells 0 ([str [73], str [79, 98, 106, 101, 99, 116], .slice none (([] : List (List UInt8)) : List (List UInt8)).length 0, .int .i64 4, .slice none (([] : List FV) : List FV).length 0, .slice ma (ml : List MV).length mc] : List Value) 0 52) :: ([(some b13, Cont.cells 0 ([str [74], str [79, 98, 106, 101, 99, 116], .slice (some ⟨jb, 0, some 0⟩) ([[73]] : List (List UInt8)).length 1, .int .i64 4, .slice none (([] : List FV) : List FV).length 0, .slice none ([] : List MV).length 0] : List Value) 0 52), (some b11, Cont.cells 0 c11.cells 0 52), (some b6, Cont.cells 0 [.slice none 0 0] 0 24), (some kb, .cells 0 [.int .u8 k0, .int .u8 k1, .int .u8 k2, .int .u8 k3] 0 25)] ++ (Zn ++ Z))) _) ([(⟨⟨[114, 117, 110], [], 1, [], false, true, 0, [], []⟩, none, 0, none, 0, none, 0⟩ : MV)]) (some ⟨ib, 0, some 0⟩) 1 (some ib, Cont.cells 0 (([(⟨⟨[114, 117, 110], [], 1, [], false, true, 0, [], []⟩, none, 0, none, 0, none, 0⟩ : MV)] : List MV).flatMap MV.cells) 9 59) ([]) ((some jb, Cont.cells 0 [str [73]] 1 9) :: Z11) (⟨.full rfl, (fun m hm => by cases List.mem_singleton.1 hm; exact absM), (fun m hm => by cases List.mem_singleton.1 hm; exact absGood (by decide) (by decide)), by simp⟩) (⟨by decide, by decide, by decide, by decide, by decide +kernel, rdNil, rdNil⟩) (.refl _)
  intro ml ma mc p Zn Z hms hhd hsub
  have hn := hms.n
  have gc12 := hhd.gc hms (by omega) (by omega)
  refine ExecS.perm perm_fold ?_
  obtain ⟨c12, hc12, hd12⟩ : ∃ c12 : CV, c12 = (⟨[73], [79, 98, 106, 101, 99, 116], ([] : List (List UInt8)), 4, ([] : List FV), ml, none, 0, none, 0, ma, mc⟩ : CV) ∧ c12.cells = ([str [73], str [79, 98, 106, 101, 99, 116], .slice none (([] : List (List UInt8)) : List (List UInt8)).length 0, .int .i64 4, .slice none (([] : List FV) : List FV).length 0, .slice ma (ml : List MV).length mc] : List Value) := ⟨_, rfl, rfl⟩
  have nm12 : c12.nm = [73] := by rw [hc12]
  rw [← hc12] at gc12
  rw [← hd12]
  obtain ⟨Z12, hZ12⟩ : ∃ Z12 : Atoms, Z12 = p :: (Zn ++ Z) := ⟨_, rfl⟩
  rw [← hZ12] at gc12 ⊢
  have hs12 : ((some jb, Cont.cells 0 [str [73]] 1 9) :: Z11).Sublist Z12 := by rw [hZ12]; exact (hsub.trans (List.sublist_append_right _ _)).trans (.cons _ (.refl _))
  replace gc11 := gc11.mono hs12
  clear hn hms hhd hsub hc12 hd12 hZ12
  clear ml ma mc p Zn Z
  replace rj := rj.mono hs12
  refine ExecS.ghost ?_
  refine ExecS.reord [0, 1] rfl ?_
  refine (?_ : ∀ (ml : List MV) (ma : Option Addr) (mc : Nat) (p : Option Nat × Cont) (Zn Z : Atoms), Ms O 0 0 ml ma mc p Zn → Hd O Z [74] [79, 98, 106, 101, 99, 116] [[73]] 4 ([] : List FV) (some ⟨jb, 0, some 0⟩) 1 none 0 → Z12.Sublist Z → ExecS TT O _ _ _ _ _ (p :: (some b13, Cont.cells 0 ([str [74], str [79, 98, 106, 101, 99, 116], .slice (some ⟨jb, 0, some 0⟩) ([[73]] : List (List UInt8)).length 1, .int .i64 4, .slice none (([] : List FV) : List FV).length 0, .slice ma (ml : List MV).length mc] : List Value) 0 52) :: ([(some b12, Cont.cells 0 c12.cells 0 52), (some b11, Cont.cells 0 c11.cells 0 52), (some b6, Cont.cells 0 [.slice none 0 0] 0 24), (some kb, .cells 0 [.int .u8 k0, .int .u8 k1, .int .u8 k2, .int .u8 k3] 0 25)] ++ (Zn ++ Z))) _) ([]) none 0 (none, .map []) ([]) (Z12) (⟨.nil _, (fun m hm => by cases hm), (fun m hm => by cases hm), by simp⟩) (⟨by decide, by decide, by decide, by decide, by decide +kernel, rj, rdNil⟩) (.refl _)
  intro ml ma mc p Zn Z hms hhd hsub
  have hn := hms.n
  clear rj
  refine exec_mid (fun E L => SubE [(3, ptr kb), (6, ptr b6), (11, ptr b11), (12, ptr b12), (13, ptr b13)] E ∧ ∃ (ml : List MV) (ma : Option Addr) (mc : Nat) (p : Option Nat × Cont) (Zn : Atoms), Ms O 0 1 ml ma mc p Zn ∧ (p :: (some b13, Cont.cells 0 ([str [74], str [79, 98, 106, 101, 99, 116], .slice (some ⟨jb, 0, some 0⟩) ([[73]] : List (List UInt8)).length 1, .int .i64 4, .slice none (([] : List FV) : List FV).length 0, .slice ma (ml : List MV).length mc] : List Value) 0 52) :: ([(some b12, Cont.cells 0 c12.cells 0 52), (some b11, Cont.cells 0 c11.cells 0 52), (some b6, Cont.cells 0 [.slice none 0 0] 0 24), (some kb, .cells 0 [.int .u8 k0, .int .u8 k1, .int .u8 k2, .int .u8 k3] 0 25)] ++ (Zn ++ Z))).Sublist L) ?_ ?_
  · refine exec_cond rfl (fun _ => ?_) (fun _ => ?_)
    · repeat (first | refine zrc ?_ | (refine zn ?_; intro _) | refine ops_step rfl rfl rfl (step_call_pure rfl rfl rfl (fun H hs => by first | exact seatTyp_ok | exact seatRef_ok | exact seatOne_ok | exact seatNum_ok | exact seatStr_ok | exact seatAt_ok | exact seatOf_ok | exact seatPart_ok | exact seatCall_ok | exact seatMethod_ok) ?_))
      exact ⟨⟨rfl, rfl, rfl, rfl, rfl, trivial⟩, [(⟨⟨[114, 117, 110], [], 1, [], false, true, 0, [], []⟩, none, 0, none, 0, none, 0⟩ : MV)], _, 1, _, Zn, ⟨.full rfl, (fun m hm => by cases List.mem_singleton.1 hm; exact absM), (fun m hm => by cases List.mem_singleton.1 hm; exact absGood (by decide) (by decide)), by simp⟩, .cons_cons _ (.cons _ (.refl _))⟩
    · repeat (first | refine zrc ?_ | (refine zn ?_; intro _))
      exact ⟨⟨rfl, rfl, rfl, rfl, rfl, trivial⟩, ml, ma, mc, p, Zn, hms.mono (by omega), .refl _⟩
  clear hn hms
  clear Zn p mc ma ml
  rintro E L ⟨hE, ml, ma, mc, p, Zn, hms, hL⟩
  refine ExecS.weak hE hL ?_
  clear hE hL
  have hn := hms.n
  have gc13 := hhd.gc hms (by omega) (by omega)
  refine ExecS.perm perm_fold ?_
  obtain ⟨c13, hc13, hd13⟩ : ∃ c13 : CV, c13 = (⟨[74], [79, 98, 106, 101, 99, 116], [[73]], 4, ([] : List FV), ml, (some ⟨jb, 0, some 0⟩), 1, none, 0, ma, mc⟩ : CV) ∧ c13.cells = ([str [74], str [79, 98, 106, 101, 99, 116], .slice (some ⟨jb, 0, some 0⟩) ([[73]] : List (List UInt8)).length 1, .int .i64 4, .slice none (([] : List FV) : List FV).length 0, .slice ma (ml : List MV).length mc] : List Value) := ⟨_, rfl, rfl⟩
  have nm13 : c13.nm = [74] := by rw [hc13]
  rw [← hc13] at gc13
  rw [← hd13]
  obtain ⟨Z13, hZ13⟩ : ∃ Z13 : Atoms, Z13 = p :: (Zn ++ Z) := ⟨_, rfl⟩
  rw [← hZ13] at gc13 ⊢
  have hs13 : Z12.Sublist Z13 := by rw [hZ13]; exact (hsub.trans (List.sublist_append_right _ _)).trans (.cons _ (.refl _))
  replace gc11 := gc11.mono hs13
  replace gc12 := gc12.mono hs13
  clear hn hms hhd hsub hc13 hd13 hZ13
  clear ml ma mc p Zn Z
  have hkv : k3.tmod 3 = ((k3.toNat % 3 : Nat) : Int) := tmodN (m := 3) (by omega) (by omega)
  have hv : [Value.int IntKind.i64 1, Value.int IntKind.i64 1, Value.int IntKind.i64 1][0 + ((k3.toNat % 3 : Nat) : Int).toNat * 1]? = some (.int .i64 1) := by
    rcases (by omega : k3.toNat % 3 = 0 ∨ k3.toNat % 3 = 1 ∨ k3.toNat % 3 = 2) with h | h | h <;> rw [h] <;> rfl
  repeat (first | refine zrc ?_ | (refine zn ?_; intro _))
  rw [hkv]
  (first | apply ops_pl rfl rfl rfl ?_ rfl ?_ | apply draw_pl rfl rfl rfl rfl ?_ rfl rfl ?_); rotate_left; focus exact (.p rfl (opP_idxo (z := 1) rfl rfl rfl rfl (by omega) (by omega)))
  first | refine ops_pl rfl rfl rfl (.l rfl (look_own 0 rfl rfl rfl hv)) rfl ?_ | refine draw_pl rfl rfl rfl rfl (.l rfl (look_own 0 rfl rfl rfl hv)) rfl rfl ?_
  clear hkv hv
  repeat (first | refine zrc ?_ | (refine zn ?_; intro _) | refine ops_step rfl rfl rfl (step_call_pure rfl rfl rfl (fun H hs => by first | exact seatTyp_ok | exact seatRef_ok | exact seatOne_ok | exact seatNum_ok | exact seatStr_ok | exact seatAt_ok | exact seatOf_ok | exact seatPart_ok | exact seatCall_ok | exact seatMethod_ok) ?_))
  rename_i kdb b14 b15 gi gcode gm b16
  refine ExecS.weak (pickE_sub (ks := [3, 6, 11, 12, 13, 14, 15, 16]) rfl) (List.Sublist.refl _) ?_
  refine ExecS.ghost ?_
  refine ExecS.reord [0, 5, 0, 0, 0, 0, 0, 1, 1, 1, 1, 1] rfl ?_
  refine (?_ : ∀ (ml : List MV) (ma : Option Addr) (mc : Nat) (p : Option Nat × Cont) (Zn Z : Atoms), Ms O 0 0 ml ma mc p Zn → Hd O Z [69, 114, 114] [70, 97, 117, 108, 116] ([] : List (List UInt8)) 1 ([] : List FV) none 0 none 0 → Z13.Sublist Z → ExecS TT O _ _ _ _ _ (p :: (some b14, Cont.cells 0 ([str [69, 114, 114], str [70, 97, 117, 108, 116], .slice none (([] : List (List UInt8)) : List (List UInt8)).length 0, .int .i64 1, .slice none (([] : List FV) : List FV).length 0, .slice ma (ml : List MV).length mc] : List Value) 0 52) :: ([(some b16, Cont.cells 0 ([str [71, 111, 110, 101], str [65], .slice none (([] : List (List UInt8)) : List (List UInt8)).length 0, .int .i64 1, .slice none (([] : List FV) : List FV).length 0, .slice (some ⟨gm, 0, some 0⟩) ([methC [102] (some ⟨gi, 0, some 0⟩) [(1, [])] 1 1 [] true 1 ([⟨25, 0, 0, [], [71, 111, 110, 101], [], []⟩, ⟨6, 0, 0, [], [], [], []⟩, ⟨4, 0, 0, [], [], [], []⟩, ⟨39, 0, 0, [], [], [], []⟩] : List Ins) (some ⟨gcode, 0, some 0⟩) 4] : List MV).length 1] : List Value) 0 52), (some gm, Cont.cells 0 (([methC [102] (some ⟨gi, 0, some 0⟩) [(1, [])] 1 1 [] true 1 ([⟨25, 0, 0, [], [71, 111, 110, 101], [], []⟩, ⟨6, 0, 0, [], [], [], []⟩, ⟨4, 0, 0, [], [], [], []⟩, ⟨39, 0, 0, [], [], [], []⟩] : List Ins) (some ⟨gcode, 0, some 0⟩) 4] : List MV).flatMap MV.cells) 9 59), (some gcode, Cont.cells 0 (([⟨25, 0, 0, [], [71, 111, 110, 101], [], []⟩, ⟨6, 0, 0, [], [], [], []⟩, ⟨4, 0, 0, [], [], [], []⟩, ⟨39, 0, 0, [], [], [], []⟩] : List Ins).flatMap insL) 7 61), (some gi, Cont.cells 0 (typC [(1, [])]) 2 55), (some b15, Cont.cells 0 ([str [69, 114, 114, 50], str [69, 114, 114], .slice none (([] : List (List UInt8)) : List (List UInt8)).length 0, .int .i64 1, .slice none (([] : List FV) : List FV).length 0, .slice none ([] : List MV).length 0] : List Value) 0 52), (some b13, Cont.cells 0 c13.cells 0 52), (some b12, Cont.cells 0 c12.cells 0 52), (some b11, Cont.cells 0 c11.cells 0 52), (some b6, Cont.cells 0 [.slice none 0 0] 0 24), (some kb, .cells 0 [.int .u8 k0, .int .u8 k1, .int .u8 k2, .int .u8 k3] 0 25)] ++ (Zn ++ Z))) _) ([]) none 0 (none, .map []) ([]) ((some kdb, .cells 0 [.int .i64 1, .int .i64 1, .int .i64 1] 1 3) :: Z13) (⟨.nil _, (fun m hm => by cases hm), (fun m hm => by cases hm), by simp⟩) (⟨by decide, by decide, by decide, by decide, by decide +kernel, rdNil, rdNil⟩) (.cons _ (.refl _))
  intro ml ma mc p Zn Z hms hhd hsub
  have hn := hms.n
  have gc14 := hhd.gc hms (by omega) (by omega)
  refine ExecS.perm perm_fold ?_
  obtain ⟨c14, hc14, hd14⟩ : ∃ c14 : CV, c14 = (⟨[69, 114, 114], [70, 97, 117, 108, 116], ([] : List (List UInt8)), 1, ([] : List FV), ml, none, 0, none, 0, ma, mc⟩ : CV) ∧ c14.cells = ([str [69, 114, 114], str [70, 97, 117, 108, 116], .slice none (([] : List (List UInt8)) : List (List UInt8)).length 0, .int .i64 1, .slice none (([] : List FV) : List FV).length 0, .slice ma (ml : List MV).length mc] : List Value) := ⟨_, rfl, rfl⟩
  have nm14 : c14.nm = [69, 114, 114] := by rw [hc14]
  rw [← hc14] at gc14
  rw [← hd14]
  obtain ⟨Z14, hZ14⟩ : ∃ Z14 : Atoms, Z14 = p :: (Zn ++ Z) := ⟨_, rfl⟩
  rw [← hZ14] at gc14 ⊢
  have hs14 : Z13.Sublist Z14 := by rw [hZ14]; exact (hsub.trans (List.sublist_append_right _ _)).trans (.cons _ (.refl _))
  replace gc11 := gc11.mono hs14
  replace gc12 := gc12.mono hs14
  replace gc13 := gc13.mono hs14
  clear hn hms hhd hsub hc14 hd14 hZ14
  clear ml ma mc p Zn Z
  refine ExecS.ghost ?_
  refine ExecS.reord [0, 5] rfl ?_
  refine (?_ : ∀ (ml : List MV) (ma : Option Addr) (mc : Nat) (p : Option Nat × Cont) (Zn Z : Atoms), Ms O 0 0 ml ma mc p Zn → Hd O Z [69, 114, 114, 50] [69, 114, 114] ([] : List (List UInt8)) 1 ([] : List FV) none 0 none 0 → Z14.Sublist Z → ExecS TT O _ _ _ _ _ (p :: (some b15, Cont.cells 0 ([str [69, 114, 114, 50], str [69, 114, 114], .slice none (([] : List (List UInt8)) : List (List UInt8)).length 0, .int .i64 1, .slice none (([] : List FV) : List FV).length 0, .slice ma (ml : List MV).length mc] : List Value) 0 52) :: ([(some b14, Cont.cells 0 c14.cells 0 52), (some b16, Cont.cells 0 ([str [71, 111, 110, 101], str [65], .slice none (([] : List (List UInt8)) : List (List UInt8)).length 0, .int .i64 1, .slice none (([] : List FV) : List FV).length 0, .slice (some ⟨gm, 0, some 0⟩) ([methC [102] (some ⟨gi, 0, some 0⟩) [(1, [])] 1 1 [] true 1 ([⟨25, 0, 0, [], [71, 111, 110, 101], [], []⟩, ⟨6, 0, 0, [], [], [], []⟩, ⟨4, 0, 0, [], [], [], []⟩, ⟨39, 0, 0, [], [], [], []⟩] : List Ins) (some ⟨gcode, 0, some 0⟩) 4] : List MV).length 1] : List Value) 0 52), (some gm, Cont.cells 0 (([methC [102] (some ⟨gi, 0, some 0⟩) [(1, [])] 1 1 [] true 1 ([⟨25, 0, 0, [], [71, 111, 110, 101], [], []⟩, ⟨6, 0, 0, [], [], [], []⟩, ⟨4, 0, 0, [], [], [], []⟩, ⟨39, 0, 0, [], [], [], []⟩] : List Ins) (some ⟨gcode, 0, some 0⟩) 4] : List MV).flatMap MV.cells) 9 59), (some gcode, Cont.cells 0 (([⟨25, 0, 0, [], [71, 111, 110, 101], [], []⟩, ⟨6, 0, 0, [], [], [], []⟩, ⟨4, 0, 0, [], [], [], []⟩, ⟨39, 0, 0, [], [], [], []⟩] : List Ins).flatMap insL) 7 61), (some gi, Cont.cells 0 (typC [(1, [])]) 2 55), (some b13, Cont.cells 0 c13.cells 0 52), (some b12, Cont.cells 0 c12.cells 0 52), (some b11, Cont.cells 0 c11.cells 0 52), (some b6, Cont.cells 0 [.slice none 0 0] 0 24), (some kb, .cells 0 [.int .u8 k0, .int .u8 k1, .int .u8 k2, .int .u8 k3] 0 25)] ++ (Zn ++ Z))) _) ([]) none 0 (none, .map []) ([]) (Z14) (⟨.nil _, (fun m hm => by cases hm), (fun m hm => by cases hm), by simp⟩) (⟨by decide, by decide, by decide, by decide, by decide +kernel, rdNil, rdNil⟩) (.refl _)
  intro ml ma mc p Zn Z hms hhd hsub
  have hn := hms.n
  have gc15 := hhd.gc hms (by omega) (by omega)
  refine ExecS.perm perm_fold ?_
  obtain ⟨c15, hc15, hd15⟩ : ∃ c15 : CV, c15 = (⟨[69, 114, 114, 50], [69, 114, 114], ([] : List (List UInt8)), 1, ([] : List FV), ml, none, 0, none, 0, ma, mc⟩ : CV) ∧ c15.cells = ([str [69, 114, 114, 50], str [69, 114, 114], .slice none (([] : List (List UInt8)) : List (List UInt8)).length 0, .int .i64 1, .slice none (([] : List FV) : List FV).length 0, .slice ma (ml : List MV).length mc] : List Value) := ⟨_, rfl, rfl⟩
  have nm15 : c15.nm = [69, 114, 114, 50] := by rw [hc15]
  rw [← hc15] at gc15
  rw [← hd15]
  obtain ⟨Z15, hZ15⟩ : ∃ Z15 : Atoms, Z15 = p :: (Zn ++ Z) := ⟨_, rfl⟩
  rw [← hZ15] at gc15 ⊢
  have hs15 : Z14.Sublist Z15 := by rw [hZ15]; exact (hsub.trans (List.sublist_append_right _ _)).trans (.cons _ (.refl _))
  replace gc11 := gc11.mono hs15
  replace gc12 := gc12.mono hs15
  replace gc13 := gc13.mono hs15
  replace gc14 := gc14.mono hs15
  clear hn hms hhd hsub hc15 hd15 hZ15
  clear ml ma mc p Zn Z
  refine ExecS.reord [3, 2, 0, 0, 2, 2, 2, 2, 2] rfl ?_
  refine (?_ : ∀ (ml : List MV) (ma : Option Addr) (mc : Nat) (p : Option Nat × Cont) (Zn Z : Atoms), Ms O 4 1 ml ma mc p Zn → Hd O Z [71, 111, 110, 101] [65] ([] : List (List UInt8)) 1 ([] : List FV) none 0 none 0 → Z15.Sublist Z → ExecS TT O _ _ _ _ _ (p :: (some b16, Cont.cells 0 ([str [71, 111, 110, 101], str [65], .slice none (([] : List (List UInt8)) : List (List UInt8)).length 0, .int .i64 1, .slice none (([] : List FV) : List FV).length 0, .slice ma (ml : List MV).length mc] : List Value) 0 52) :: ([(some b15, Cont.cells 0 c15.cells 0 52), (some b14, Cont.cells 0 c14.cells 0 52), (some b13, Cont.cells 0 c13.cells 0 52), (some b12, Cont.cells 0 c12.cells 0 52), (some b11, Cont.cells 0 c11.cells 0 52), (some b6, Cont.cells 0 [.slice none 0 0] 0 24), (some kb, .cells 0 [.int .u8 k0, .int .u8 k1, .int .u8 k2, .int .u8 k3] 0 25)] ++ (Zn ++ Z))) _) ([methC [102] (some ⟨gi, 0, some 0⟩) [(1, [])] 1 1 [] true 1 ([⟨25, 0, 0, [], [71, 111, 110, 101], [], []⟩, ⟨6, 0, 0, [], [], [], []⟩, ⟨4, 0, 0, [], [], [], []⟩, ⟨39, 0, 0, [], [], [], []⟩] : List Ins) (some ⟨gcode, 0, some 0⟩) 4]) (some ⟨gm, 0, some 0⟩) 1 (some gm, Cont.cells 0 (([methC [102] (some ⟨gi, 0, some 0⟩) [(1, [])] 1 1 [] true 1 ([⟨25, 0, 0, [], [71, 111, 110, 101], [], []⟩, ⟨6, 0, 0, [], [], [], []⟩, ⟨4, 0, 0, [], [], [], []⟩, ⟨39, 0, 0, [], [], [], []⟩] : List Ins) (some ⟨gcode, 0, some 0⟩) 4] : List MV).flatMap MV.cells) 9 59) ([(some gcode, Cont.cells 0 (([⟨25, 0, 0, [], [71, 111, 110, 101], [], []⟩, ⟨6, 0, 0, [], [], [], []⟩, ⟨4, 0, 0, [], [], [], []⟩, ⟨39, 0, 0, [], [], [], []⟩] : List Ins).flatMap insL) 7 61), (some gi, Cont.cells 0 (typC [(1, [])]) 2 55)]) (Z15) (⟨.full rfl, (fun m hm => by cases List.mem_singleton.1 hm; exact fun X H0 H hst => ⟨Rd.sl (i := 1) rfl rfl 1 X H0 H hst, Rd.sl (i := 0) rfl rfl 4 X H0 H hst, Sl.nil⟩), (fun m hm => by cases List.mem_singleton.1 hm; exact goodM_of (by decide) (by decide) (by decide) (by omega) ⟨gOf (by decide) (by decide) (by decide), gOne (by decide) (by decide), gAt (by decide) (by decide) (by omega), gOne (by decide) (by decide), trivial⟩ (fun _ h => by cases h) (by simp) (by simp) (by simp)), by simp⟩) (⟨by decide, by decide, by decide, by decide, by decide +kernel, rdNil, rdNil⟩) (.refl _)
  intro ml ma mc p Zn Z hms hhd hsub
  have hn := hms.n
  have gc16 := hhd.gc hms (by omega) (by omega)
  refine ExecS.perm perm_fold ?_
  obtain ⟨c16, hc16, hd16⟩ : ∃ c16 : CV, c16 = (⟨[71, 111, 110, 101], [65], ([] : List (List UInt8)), 1, ([] : List FV), ml, none, 0, none, 0, ma, mc⟩ : CV) ∧ c16.cells = ([str [71, 111, 110, 101], str [65], .slice none (([] : List (List UInt8)) : List (List UInt8)).length 0, .int .i64 1, .slice none (([] : List FV) : List FV).length 0, .slice ma (ml : List MV).length mc] : List Value) := ⟨_, rfl, rfl⟩
  have nm16 : c16.nm = [71, 111, 110, 101] := by rw [hc16]
  rw [← hc16] at gc16
  rw [← hd16]
  obtain ⟨Z16, hZ16⟩ : ∃ Z16 : Atoms, Z16 = p :: (Zn ++ Z) := ⟨_, rfl⟩
  rw [← hZ16] at gc16 ⊢
  have hs16 : Z15.Sublist Z16 := by rw [hZ16]; exact (hsub.trans (List.sublist_append_right _ _)).trans (.cons _ (.refl _))
  replace gc11 := gc11.mono hs16
  replace gc12 := gc12.mono hs16
  replace gc13 := gc13.mono hs16
  replace gc14 := gc14.mono hs16
  replace gc15 := gc15.mono hs16
  clear hn hms hhd hsub hc16 hd16 hZ16
  clear ml ma mc p Zn Z
  refine exec_draw (lst := [(0, 0), (1, 0), (2, 0), (3, 7), (4, 0), (8, 0), (5, 16), (6, 63), (7, 127), (9, 511)]) (full := 1023) (by kernel_rfl) (by kernel_rfl) (by kernel_rfl) (by kernel_rfl) ?_
  repeat (first | refine zdc ?_ | refine draw_w rfl rfl rfl rfl rfl rfl (step_call_pure rfl rfl rfl (fun H hs => by first | exact seatTyp_ok | exact seatRef_ok | exact seatOne_ok | exact seatNum_ok | exact seatStr_ok | exact seatAt_ok | exact seatOf_ok | exact seatPart_ok | exact seatCall_ok | exact seatMethod_ok) (zst ?_)) | refine draw_a rfl rfl rfl rfl rfl (step_buildSliceF rfl rfl rfl rfl rfl rfl (fun _ => (zst ?_))) | refine draw_a rfl rfl rfl rfl rfl (step_alloc rfl rfl rfl rfl (fun _ => (zst ?_))))
  try refine draw_nil ?_
  rename_i l3 b17
  refine draw_w rfl rfl rfl rfl rfl rfl (step_call_fp [] _ rfl rfl rfl (List.Perm.refl _) (fun H hs hst => seatFamily_ok h0) (fun v3 F3 h3 => ?_))
  obtain ⟨fb, cl, Zf, rfl, rfl, hcl, nmf, gcl⟩ := h3
  refine And.imp (StabS.perm ((List.perm_append_comm_assoc Zf [_, _, _, _, _, _, _, _, _, _] Z16).cons _)) (DrawS.perm ((List.perm_append_comm_assoc Zf [_, _, _, _, _, _, _, _, _, _] Z16).cons _)) ?_
  refine (zst ?_)
  have hcl6 : (cl.flatMap CV.cells).length = 6 * 6 := by rw [flat_len (z := 6) (fun _ => rfl), hcl]
  refine draw_w rfl rfl rfl rfl rfl rfl (step_appendC (z := 6) 2 rfl rfl rfl rfl rfl rfl rfl rfl (OwnC.full rfl) (fun H hs => src_own (j := 0) hs rfl hcl6 6) rfl (flat_all (fun _ => rfl) cl) hcl6 (by omega) (by omega) (fun a4 c4 p4 own4 => (zst ?_)))
  repeat (first | refine zdc ?_ | refine draw_w rfl rfl rfl rfl rfl rfl (step_call_pure rfl rfl rfl (fun H hs => by first | exact seatTyp_ok | exact seatRef_ok | exact seatOne_ok | exact seatNum_ok | exact seatStr_ok | exact seatAt_ok | exact seatOf_ok | exact seatPart_ok | exact seatCall_ok | exact seatMethod_ok) (zst ?_)) | refine draw_a rfl rfl rfl rfl rfl (step_buildSliceF rfl rfl rfl rfl rfl rfl (fun _ => (zst ?_))) | refine draw_a rfl rfl rfl rfl rfl (step_alloc rfl rfl rfl rfl (fun _ => (zst ?_))))
  try refine draw_nil ?_
  refine draw_w rfl rfl rfl rfl rfl rfl (step_storeZ 2 rfl rfl rfl rfl rfl rfl rfl rfl rfl (zst ?_))
  refine draw_nil ?_
  refine ExecS.weak (pickE_sub (ks := [3, 6, 14, 15, 16, 17]) rfl) (List.Sublist.refl _) ?_
  have own5 : OwnA 6 52 a4 9 c4 (([c11, c12, c13] ++ cl).flatMap CV.cells) p4 := own4
  clear own4
  refine ExecS.weakL (L' := p4 :: (some b17, Cont.cells 0 [.slice a4 9 c4] 0 24) :: (some b16, Cont.cells 0 c16.cells 0 52) :: (some b15, Cont.cells 0 c15.cells 0 52) :: (some b14, Cont.cells 0 c14.cells 0 52) :: (some b6, Cont.cells 0 [.slice none 0 0] 0 24) :: (some kb, .cells 0 [.int .u8 k0, .int .u8 k1, .int .u8 k2, .int .u8 k3] 0 25) :: (Zf ++ Z16)) (List.Sublist.cons_cons _ (List.Sublist.cons _ (List.Sublist.cons_cons _ (List.Sublist.cons_cons _ (List.Sublist.cons_cons _ (List.Sublist.cons_cons _ (List.Sublist.cons _ (List.Sublist.cons _ (List.Sublist.cons _ (List.Sublist.cons_cons _ (List.Sublist.cons_cons _ (List.Sublist.refl _)))))))))))) ?_
  repeat (first | refine zrc ?_ | (refine zn ?_; intro _))
  refine exec_draw (lst := [(0, 0), (1, 1), (2, 0), (3, 0), (4, 0), (5, 0), (6, 32), (7, 96), (8, 252), (9, 511), (10, 1023), (11, 2047)]) (full := 4095) (by kernel_rfl) (by kernel_rfl) (by kernel_rfl) (by kernel_rfl) ?_
  repeat (first | refine zdc ?_ | refine draw_w rfl rfl rfl rfl rfl rfl (step_call_pure rfl rfl rfl (fun H hs => by first | exact seatTyp_ok | exact seatRef_ok | exact seatOne_ok | exact seatNum_ok | exact seatStr_ok | exact seatAt_ok | exact seatOf_ok | exact seatPart_ok | exact seatCall_ok | exact seatMethod_ok) (zst ?_)) | refine draw_a rfl rfl rfl rfl rfl (step_buildSliceF rfl rfl rfl rfl rfl rfl (fun _ => (zst ?_))) | refine draw_a rfl rfl rfl rfl rfl (step_alloc rfl rfl rfl rfl (fun _ => (zst ?_))))
  try refine draw_nil ?_
  refine draw_w rfl rfl rfl rfl rfl rfl (step_call_fp [] _ rfl rfl rfl (List.Perm.refl _) (fun H hs hst => seatUtil_ok) (fun v5 F5 h5 => ?_))
  obtain ⟨c18, rfl, nm18, gc18⟩ := h5
  refine And.imp (StabS.perm (List.perm_append_comm_assoc F5 [_, _, _, _, _, _, _] (Zf ++ Z16))) (DrawS.perm (List.perm_append_comm_assoc F5 [_, _, _, _, _, _, _] (Zf ++ Z16))) ?_
  refine (zst ?_)
  repeat (first | refine zdc ?_ | refine draw_w rfl rfl rfl rfl rfl rfl (step_call_pure rfl rfl rfl (fun H hs => by first | exact seatTyp_ok | exact seatRef_ok | exact seatOne_ok | exact seatNum_ok | exact seatStr_ok | exact seatAt_ok | exact seatOf_ok | exact seatPart_ok | exact seatCall_ok | exact seatMethod_ok) (zst ?_)) | refine draw_a rfl rfl rfl rfl rfl (step_buildSliceF rfl rfl rfl rfl rfl rfl (fun _ => (zst ?_))) | refine draw_a rfl rfl rfl rfl rfl (step_alloc rfl rfl rfl rfl (fun _ => (zst ?_))))
  try refine draw_nil ?_
  refine draw_w rfl rfl rfl rfl rfl rfl (step_appendC (z := 6) 1 rfl rfl rfl rfl rfl rfl rfl rfl (.inl own5) (fun H hs => src_own (j := 0) hs rfl rfl 4) rfl (by first | rfl | exact allCell_map (fun _ => rfl) _) (by first | rfl | (simp; done) | (simp; omega)) (by omega) (by omega) (fun a6 c6 p6 own6 => (zst ?_)))
  repeat (first | refine zdc ?_ | refine draw_w rfl rfl rfl rfl rfl rfl (step_call_pure rfl rfl rfl (fun H hs => by first | exact seatTyp_ok | exact seatRef_ok | exact seatOne_ok | exact seatNum_ok | exact seatStr_ok | exact seatAt_ok | exact seatOf_ok | exact seatPart_ok | exact seatCall_ok | exact seatMethod_ok) (zst ?_)) | refine draw_a rfl rfl rfl rfl rfl (step_buildSliceF rfl rfl rfl rfl rfl rfl (fun _ => (zst ?_))) | refine draw_a rfl rfl rfl rfl rfl (step_alloc rfl rfl rfl rfl (fun _ => (zst ?_))))
  try refine draw_nil ?_
  refine draw_w rfl rfl rfl rfl rfl rfl (step_storeZ 2 rfl rfl rfl rfl rfl rfl rfl rfl rfl (zst ?_))
  refine draw_nil ?_
  refine ExecS.weak (pickE_sub (ks := [3, 6, 17]) rfl) (List.Sublist.refl _) ?_
  refine ExecS.weakL (L' := p6 :: (some b17, Cont.cells 0 [.slice a6 13 c6] 0 24) :: (some b6, Cont.cells 0 [.slice none 0 0] 0 24) :: (some kb, .cells 0 [.int .u8 k0, .int .u8 k1, .int .u8 k2, .int .u8 k3] 0 25) :: (F5 ++ (Zf ++ Z16))) (List.Sublist.cons_cons _ (List.Sublist.cons _ (List.Sublist.cons_cons _ (List.Sublist.cons _ (List.Sublist.cons _ (List.Sublist.cons _ (List.Sublist.cons_cons _ (List.Sublist.cons_cons _ (List.Sublist.refl _))))))))) ?_
  obtain ⟨cl0, hcl0⟩ : ∃ cl0 : List CV, cl0 = [c11, c12, c13] ++ cl ++ [c14, c15, c16, c18] := ⟨_, rfl⟩
  have own7 : OwnA 6 52 a6 13 c6 (cl0.flatMap CV.cells) p6 := by rw [hcl0, List.flatMap_append]; exact own6
  clear own6 own5
  obtain ⟨Z, hZ⟩ : ∃ Z : Atoms, Z = F5 ++ (Zf ++ Z16) := ⟨_, rfl⟩
  have s16 : Z16.Sublist Z := by rw [hZ]; exact (List.sublist_append_right _ _).trans (List.sublist_append_right _ _)
  have sf : Zf.Sublist Z := by rw [hZ]; exact (List.sublist_append_left _ _).trans (List.sublist_append_right _ _)
  have s5 : F5.Sublist Z := by rw [hZ]; exact List.sublist_append_left _ _
  rw [← hZ]
  have hall : ∀ c ∈ cl0, GC O 2000 Z c := by
    intro c hcm
    rw [hcl0] at hcm
    simp only [List.mem_append, List.mem_cons, List.not_mem_nil, or_false] at hcm
    rcases hcm with ((rfl | rfl | rfl) | hcm) | rfl | rfl | rfl | rfl
    · exact (gc11.mono s16).le (by omega)
    · exact (gc12.mono s16).le (by omega)
    · exact (gc13.mono s16).le (by omega)
    · exact ((gcl c hcm).mono sf).le (by omega)
    · exact (gc14.mono s16).le (by omega)
    · exact (gc15.mono s16).le (by omega)
    · exact (gc16.mono s16).le (by omega)
    · exact (gc18.mono s5).le (by omega)
  have hcnt : cntA (cl0.map CV.pc) ≤ 3333 := by
    have h1 := sum_le (f := fun c : CV => cntC c.pc) (k := 125) (l := cl) fun c hc => (gcl c hc).n
    have h2 : ((cl.map CV.pc).map cntC).sum = (cl.map fun c : CV => cntC c.pc).sum := by rw [List.map_map]; rfl
    rw [hcl] at h1
    have n11 := gc11.n; have n12 := gc12.n; have n13 := gc13.n; have n14 := gc14.n; have n15 := gc15.n; have n16 := gc16.n; have n18 := gc18.n
    rw [hcl0]
    simp only [cntA, List.map_append, List.map_cons, List.map_nil, List.sum_append, List.sum_cons, List.sum_nil, h2]
    omega
  have hnms : (cl0.map CV.nm).Perm NN := by
    rw [hcl0]
    simp only [List.map_append, List.map_cons, List.map_nil, nmf, nm11, nm12, nm13, nm14, nm15, nm16, nm18]
    exact List.Perm.refl _
  have hmc : cl0.length = 13 := by rw [hcl0]; simp [hcl]
  have hfst : ∃ r, cl0 = c11 :: r := ⟨_, by rw [hcl0]; rfl⟩
  clear gc11 gc12 gc13 gc14 gc15 gc16 gc18 gcl nm12 nm13 nm14 nm15 nm16 nm18 nmf hcl hcl6 hs16 hs15 hs14 hs13 hs12 s16 sf s5 hcl0
  repeat (first | refine zr ?_ | (refine zn ?_; intro _))
  refine ExecS.weak (pickE_sub (ks := [6, 17, 105]) rfl) (List.Sublist.refl _) ?_
  refine exec_mid (fun E L => SubE [(6, ptr b6), (17, ptr b17)] E ∧ ∃ (cl' : List CV) (p' : Option Nat × Cont), cl'.Perm cl0 ∧ (turnB k2 = false → cl' = cl0) ∧ OwnA 6 52 a6 13 c6 (cl'.flatMap CV.cells) p' ∧ (p' :: (some b17, Cont.cells 0 [.slice a6 13 c6] 0 24) :: (some b6, Cont.cells 0 [.slice none 0 0] 0 24) :: Z).Sublist L) ?_ ?_
  · refine exec_cond rfl (fun hb => ?_) (fun _ => ?_)
    rotate_left
    · repeat (first | refine zr ?_ | (refine zn ?_; intro _))
      exact ⟨⟨rfl, rfl, trivial⟩, cl0, p6, List.Perm.refl _, fun _ => rfl, own7, List.Sublist.cons_cons _ (List.Sublist.cons_cons _ (List.Sublist.cons_cons _ (List.Sublist.cons _ (List.Sublist.refl _))))⟩
    · obtain ⟨bb, ver, rfl, rfl, rfl, hlen⟩ := own7.inv (by omega)
      repeat (first | refine zr ?_ | (refine zn ?_; intro _))
      refine ExecS.weak (E' := [(6, ptr b6), (17, ptr b17), (18, .slice (some ⟨bb, 0, some ver⟩) 13 unk), (19, .int .i64 ((0 : Nat) : Int))]) ⟨rfl, rfl, rfl, rfl, trivial⟩ (List.Sublist.refl _) ?_
      refine exec_loop (fun k E L => ∃ (i : Nat) (cur : List CV), i + k = 6 ∧ cur.Perm cl0 ∧ E = [(6, ptr b6), (17, ptr b17), (18, .slice (some ⟨bb, 0, some ver⟩) 13 unk), (19, .int .i64 (i : Int))] ∧ L = (some bb, Cont.cells ver ((cur : List CV).flatMap CV.cells) 6 52) :: (some b17, Cont.cells 0 [.slice (some ⟨bb, 0, some ver⟩) 13 unk] 0 24) :: (some b6, Cont.cells 0 [.slice none 0 0] 0 24) :: (some kb, .cells 0 [.int .u8 k0, .int .u8 k1, .int .u8 k2, .int .u8 k3] 0 25) :: Z) ?_ 6 _ _ ⟨0, cl0, rfl, List.Perm.refl _, rfl, rfl⟩
      rintro k E L ⟨i, cur, hik, hper, rfl, rfl⟩
      have hcl13 : cur.length = 13 := by rw [hper.length_eq, hmc]
      repeat (first | refine zr ?_ | (refine zn ?_; intro _))
      refine exec_cond rfl (fun hlt => ?_) (fun hge => ?_)
      · have hlt := of_decide_eq_true hlt
        have hi : i < 6 := by have h : (i : Int) < 6 := hlt; omega
        have hx : cur[12 - i]? = some (cur[12 - i]'(by omega)) := List.getElem?_eq_getElem _
        have hy : cur[i]? = some (cur[i]'(by omega)) := List.getElem?_eq_getElem _
        repeat (first | refine zr ?_ | (refine zn ?_; intro _))
        refine exec_draw (lst := [(0, 0), (1, 0), (2, 0), (3, 0), (4, 8), (5, 24), (6, 0), (7, 120), (8, 0), (9, 0), (10, 512), (11, 1536), (12, 0), (13, 7680), (14, 16128), (15, 32512), (16, 0), (17, 0), (18, 196608), (19, 458752), (20, 1048323), (21, 2096899), (22, 4194303), (23, 8388607)]) (full := 16777215) (by kernel_rfl) (by kernel_rfl) (by kernel_rfl) (by kernel_rfl) ?_
        repeat (first | refine zd ?_)
        try refine draw_nil ?_
        rw [show ((13 : Nat) : Int) - 1 - (i : Int) = ((12 - i : Nat) : Int) from by omega]
        (first | apply ops_pl rfl rfl rfl ?_ rfl ?_ | apply draw_pl rfl rfl rfl rfl ?_ rfl rfl ?_); rotate_left; focus exact (.p rfl (opP_idxo (z := 6) rfl rfl rfl rfl (by omega) (by omega)))
        (first | apply ops_pl rfl rfl rfl ?_ rfl ?_ | apply draw_pl rfl rfl rfl rfl ?_ rfl rfl ?_); rotate_left; focus exact (.l rfl (look_agg 0 rfl rfl rfl (rdL_class hx)))
        repeat (first | refine zd ?_)
        try refine draw_nil ?_
        (first | apply ops_pl rfl rfl rfl ?_ rfl ?_ | apply draw_pl rfl rfl rfl rfl ?_ rfl rfl ?_); rotate_left; focus exact (.p rfl (opP_idxo (z := 6) rfl rfl rfl rfl (by omega) (by omega)))
        (first | apply ops_pl rfl rfl rfl ?_ rfl ?_ | apply draw_pl rfl rfl rfl rfl ?_ rfl rfl ?_); rotate_left; focus exact (.l rfl (look_agg 0 rfl rfl rfl (rdL_class hy)))
        repeat (first | refine zd ?_)
        try refine draw_nil ?_
        (first | apply ops_pl rfl rfl rfl ?_ rfl ?_ | apply draw_pl rfl rfl rfl rfl ?_ rfl rfl ?_); rotate_left; focus exact (.p rfl (opP_idxo (z := 6) rfl rfl rfl rfl (by omega) (by omega)))
        refine draw_w rfl rfl rfl rfl rfl rfl (step_store' 0 rfl rfl rfl rfl rfl rfl (by rw [show 0 + (i : Int).toNat * 6 = i * 6 from by omega]; exact wrL_flat (f := CV.cells) (fun _ => rfl) (by omega) (cur[12 - i]'(by omega)) rfl) (zst ?_))
        (first | apply ops_pl rfl rfl rfl ?_ rfl ?_ | apply draw_pl rfl rfl rfl rfl ?_ rfl rfl ?_); rotate_left; focus exact (.p rfl (opP_idxo (z := 6) rfl rfl rfl rfl (by omega) (by omega)))
        refine draw_w rfl rfl rfl rfl rfl rfl (step_store' 0 rfl rfl rfl rfl rfl rfl (by rw [show 0 + ((12 - i : Nat) : Int).toNat * 6 = (12 - i) * 6 from by omega]; exact wrL_flat (f := CV.cells) (fun _ => rfl) (by rw [List.length_set]; omega) (cur[i]'(by omega)) rfl) (zst ?_))
        refine draw_nil ?_
        repeat (first | refine zr ?_ | (refine zn ?_; intro _))
        refine ⟨k - 1, by omega, _, _, ?_, List.Sublist.refl _, i + 1, (cur.set i (cur[12 - i]'(by omega))).set (12 - i) (cur[i]'(by omega)), by omega, (List.set_set_perm (by omega) (by omega)).trans hper, rfl, rfl⟩
        exact ⟨rfl, rfl, rfl, rfl, trivial⟩
      · repeat (first | refine zr ?_ | (refine zn ?_; intro _))
        exact ⟨⟨rfl, rfl, trivial⟩, cur, _, hper, (fun h => by have h2 : true = false := hb.symm.trans h; cases h2), .own (by rw [flat_len (z := 6) (fun _ => rfl), hcl13]), List.Sublist.cons_cons _ (List.Sublist.cons_cons _ (List.Sublist.cons_cons _ (List.Sublist.cons _ (List.Sublist.refl _))))⟩
  rintro E L ⟨hE, cl', p', hper, hsame, own8, hL⟩
  refine ExecS.weak hE hL ?_
  clear hE hL own7
  repeat (first | refine zr ?_ | (refine zn ?_; intro _))
  have hl' : cl'.length = 13 := by rw [hper.length_eq, hmc]
  refine ⟨trivial, [_], ⟨look_agg 2 rfl rfl rfl rfl, trivial⟩, p' :: Z, [_, _], (List.perm_append_comm (l₁ := [_, _]) (l₂ := Z)).cons p', a6, c6, cl', by rw [hl']; rfl, ?_⟩
  refine ⟨fun X H0 H hst => ⟨?_, fun c hc => ?_⟩, fun c hc => (hall c (hper.mem_iff.1 hc)).rt, fun c hc => (hall c (hper.mem_iff.1 hc)).wf, fun c hc => (hall c (hper.mem_iff.1 hc)).cd, hl', ?_, (hper.map _).trans hnms, ?_, fun h => ?_⟩
  · rw [hl']; exact (Rd.own own8 (by simp)) X H0 H hst
  · exact ((hall c (hper.mem_iff.1 hc)).rd.mono (List.sublist_cons_self _ _)) X H0 H hst
  · have e : cntA (cl'.map CV.pc) = cntA (cl0.map CV.pc) := perm_sum ((hper.map _).map _)
    omega
  · obtain ⟨r, e⟩ := hfst
    exact ⟨c11, hper.mem_iff.2 (by rw [e]; simp), one11⟩
  · obtain ⟨r, e⟩ := hfst
    exact ⟨c11, r, by rw [hsame h, e], nm11, one11⟩
end Go.Proofs.YtlhkndjloeoodaaGreat
namespace Go.Proofs.YtlhkndjloeoodaaGreat
open Go.Ev Go.Ev.Wk
abbrev RightT (x : Int × List UInt8) : Prop := rightL x.1 x.2 = true
theorem rightT_cases {x : Int × List UInt8} (h : RightT x) : x = (1, []) ∨ x = (2, []) ∨ x = (3, []) ∨ x = (5, []) ∨ (x.1 = 4 ∧ nameL x.2 = true) := by
  obtain ⟨k, c⟩ := x
  unfold RightT rightL at h
  simp only at h
  split at h
  · rename_i hk
    have hc : c = [] := by simpa using h
    subst hc
    rcases hk with rfl | rfl | rfl | rfl <;> simp
  · split at h
    · rename_i hk
      exact .inr (.inr (.inr (.inr ⟨hk, h⟩)))
    · cases h
theorem rest_semi : restN 59 = false := by decide
theorem name_semi {s : List UInt8} (h : nameL s = true) : ∀ c ∈ s, (c == 59) = false := by
  intro c hc
  cases s with
  | nil => cases hc
  | cons a r =>
    simp only [nameL, Bool.and_eq_true, List.all_eq_true] at h
    have hr : restN c.toNat = true := by
      rcases List.mem_cons.1 hc with rfl | hc
      · unfold restN; rw [h.1.2]; rfl
      · exact h.2 c hc
    cases he : c == 59
    · rfl
    · have : c = 59 := by simpa using he
      subst this
      rw [show (59 : UInt8).toNat = 59 from rfl, rest_semi] at hr
      cases hr
theorem cut_name {s : List UInt8} (h : nameL s = true) (r : List UInt8) : cutL (76 :: s ++ 59 :: r) = (76 :: s, r, true) := by
  have e : (76 :: s ++ 59 :: r).findIdx? (· == 59) = some (s.length + 1) := by
    rw [List.findIdx?_append]
    have : (76 :: s).findIdx? (· == 59) = none := by
      rw [List.findIdx?_eq_none_iff]
      intro c hc
      rcases List.mem_cons.1 hc with rfl | hc
      · rfl
      · exact name_semi h c hc
    rw [this]
    simp [List.findIdx?_cons]
  rw [cutL, e]
  simp only
  have hl : (76 :: s).length = s.length + 1 := rfl
  rw [← hl, List.take_left, ← List.drop_drop, List.drop_left]
  rfl
theorem fst_right {x : Int × List UInt8} (h : RightT x) (r : List UInt8) : fstC (typeL x.1 x.2 ++ r) = (x, r, true) := by
  rcases rightT_cases h with rfl | rfl | rfl | rfl | ⟨h4, hn⟩
  · rfl
  · rfl
  · rfl
  · rfl
  · obtain ⟨k, c⟩ := x
    simp only at h4 hn
    subst h4
    have e : typeL 4 c ++ r = 76 :: c ++ 59 :: r := by simp [typeL]
    show fstC (typeL 4 c ++ r) = _
    rw [e, fstC, cut_name hn]
    have e1 : ∀ d : UInt8, d ≠ 76 → (76 :: c ++ 59 :: r).take 1 ≠ [d] := by
      intro d hd hh
      have : (76 : UInt8) = d := by simpa using hh
      exact hd this.symm
    rw [if_neg (e1 _ (by decide)), if_neg (e1 _ (by decide)), if_neg (e1 _ (by decide)), if_neg (e1 _ (by decide))]
    have e2 : cpL (76 :: c) 76 = c := rfl
    simp only [e2, hn]
    rfl
theorem head_right {x : Int × List UInt8} (h : RightT x) (r : List UInt8) : ¬ (typeL x.1 x.2 ++ r = [] ∨ (typeL x.1 x.2 ++ r).take 1 = [41]) := by
  rcases rightT_cases h with rfl | rfl | rfl | rfl | ⟨h4, hn⟩
  · simp [typeL]
  · simp [typeL]
  · simp [typeL]
  · simp [typeL]
  · rw [h4]; simp [typeL]
theorem go_right (t : List UInt8) : ∀ (l p : List (Int × List UInt8)) (f : Nat), (∀ x ∈ l, RightT x ∧ x.1 ≠ 5) → l.length + 1 ≤ f → p.length + l.length ≤ 8 → goC f p ((l.flatMap fun x => typeL x.1 x.2) ++ 41 :: t) = (p ++ l, 41 :: t, true)
  | [], p, 0, _, hf, _ => by simp at hf
  | [], p, f + 1, _, _, _ => by
    rw [List.flatMap_nil, List.nil_append, goC, if_pos (.inr rfl), List.append_nil]
  | x :: l, p, 0, _, hf, _ => by simp at hf
  | x :: l, p, f + 1, hg, hf, hp => by
    have hx := hg x (by simp)
    simp only [List.length_cons] at hf hp
    rw [List.flatMap_cons, List.append_assoc, goC, if_neg (head_right hx.1 _), fst_right hx.1, if_pos ⟨rfl, hx.2, by omega⟩]
    show goC f (p ++ [x]) _ = _
    rw [go_right t l (p ++ [x]) f (fun y hy => hg y (by simp [hy])) (by omega) (by rw [List.length_append]; simp; omega), List.append_assoc]
    rfl
theorem one_right {x : Int × List UInt8} (hx : RightT x) : oneC (typeL x.1 x.2) = (x, true) := by
  have := fst_right hx []
  rw [List.append_nil] at this
  rw [oneC, this, if_pos ⟨rfl, rfl⟩]
theorem parse_right {l : List (Int × List UInt8)} {x : Int × List UInt8} (hl : ∀ y ∈ l, RightT y ∧ y.1 ≠ 5) (h8 : l.length ≤ 8) (hx : RightT x) : parseC (ofL l x.1 x.2) = (l, x, true) := by
  have e : (ofL l x.1 x.2).drop 1 = (l.flatMap fun x => typeL x.1 x.2) ++ 41 :: typeL x.1 x.2 := by
    rw [ofL, ofP, List.take_length]; rfl
  have g := go_right (typeL x.1 x.2) l [] 9 hl (by omega) (by simp; omega)
  have o := one_right hx
  have c : cpL (41 :: typeL x.1 x.2) 41 = typeL x.1 x.2 := rfl
  rw [parseC, e, g]
  simp only [c, o]
  rw [if_pos ⟨rfl, trivial, rfl, trivial⟩]
  rfl
end Go.Proofs.YtlhkndjloeoodaaGreat
