/-
  The operations that leave memory alone and do not look at it, the rest: 'simP'.
-/
import Derived.Test.YtmmojhbboomgoaaGreatEvOpsP
import Derived.Laws.Tables
namespace Go.Ev
set_option linter.unusedSimpArgs false
set_option linter.unusedVariables false

theorem numish_V {ρ : Ren} {a a' : Value} (h : V ρ a a') : numish a' = numish a := by
  rcases h.inv with h | ⟨_, _, rfl, rfl, _⟩ | ⟨_, _, rfl, rfl, _⟩ | ⟨_, _, _, _, _, rfl, rfl, _⟩ | ⟨_, _, _, rfl, rfl, _⟩
  · cases h with
    | sym _ hv => cases a' <;> first | rfl | (simp [symOk] at hv)
    | _ => rfl
  all_goals rfl

theorem binOp_eql {t : TypeId} {a b : Value} (h : numish a = false) : binOp .eql t a b = (do pure (.bool (← Op.equal t a b)) : Sem Value) := by
  cases a <;> first | (simp [numish] at h; done) | (cases b <;> rfl)
theorem binOp_neq {t : TypeId} {a b : Value} (h : numish a = false) : binOp .neq t a b = (do pure (.bool (!(← Op.equal t a b))) : Sem Value) := by
  cases a <;> first | (simp [numish] at h; done) | (cases b <;> rfl)

theorem run_eqGuard_nil (P : Program) (op : BinOp) (t : TypeId) {x y : Operand} (h : (isConstO x || isConstO y) = true) (w : World) : (eqGuard op t x y .nilIface .nilIface).run P w = .ok () w := by
  cases x with
  | const v => cases op <;> cases y <;> rfl
  | _ =>
    cases y with
    | const v => cases op <;> rfl
    | _ => cases h

theorem intOp_flat {op : BinOp} {k : IntKind} {a b : Int} {v : Value} (h : intOp op k a b = some v) : flat v = true := by
  cases op <;> simp only [intOp] at h <;> first | (cases h; rfl) | (split at h <;> first | (cases h; done) | (cases h; rfl))

theorem strOp_flat {op : BinOp} {a b : ByteArray} {v : Value} (h : strOp op a b = some v) : flat v = true := by
  cases op
  case add =>
    simp only [strOp] at h
    cases hb : Nat.ble (a.size + b.size) 9223372036854775807 with
    | false => simp [hb] at h
    | true => simp [hb] at h; subst h; rfl
  all_goals simp only [strOp] at h; first | (cases h; rfl) | (cases h; done)

theorem run_nil_equalIn {T : Tab} {P : Program} (ok : T.Ok P) {t : Nat} {ms : Array (String × TypeId)} (hu : T.und t = some (.interface ms)) (d : Nat) (w : World) : (Op.equalIn (d + 1) t .nilIface .nilIface).run P w = .ok true w := by
  simp only [Op.equalIn, Sem.run_bind, ok.runUnd hu, Result.andThen_ok, Sem.run_pure]

theorem run_nil_equal {T : Tab} {P : Program} (ok : T.Ok P) {t : Nat} {ms : Array (String × TypeId)} (hu : T.und t = some (.interface ms)) (w : World) : (Op.equal t .nilIface .nilIface).run P w = .ok true w :=
  run_nil_equalIn ok hu 9999 w

theorem V.res_inv {ρ : Ren} {fk : FloatKind} {m r : Nat} {v' : Value} (h : V ρ (.complex fk m r) v') : ∃ n : Nat, v' = .int (resK fk) n ∧ n ≤ 255 ∧ n % m = r := by
  rcases h.inv with h1 | ⟨_, _, e, _⟩ | ⟨_, _, e, _⟩ | ⟨_, _, _, _, _, e, _⟩ | ⟨_, _, _, e, _⟩
  · cases h1 with
    | same hf => cases hf
    | res g1 g2 => exact ⟨_, rfl, g1, g2⟩
  all_goals cases e

theorem wrap_res {fk : FloatKind} {n : Nat} (h : n ≤ 255) : (resK fk).wrap (n : Int) = n := by
  cases fk <;> simp only [resK, IntKind.wrap, IntKind.signed, IntKind.bits] <;> simp <;> omega

theorem sim_resBin {ρ : Ren} {P : Program} {op : BinOp} {t : Nat} {x y : Operand} {fk : FloatKind} {m r : Nat} {a' b b' v : Value} (h : resBin op fk m r b = some v) (ha : V ρ (.complex fk m r) a') (hb : V ρ b b') (w : World) :
    ∃ v', ((do eqGuard op t x y a' b'; binOp op t a' b') : Sem Value).run P w = .ok v' w ∧ V ρ v v' := by
  obtain ⟨n, rfl, hn, rfl⟩ := ha.res_inv
  unfold resBin at h
  split at h
  · rename_i k d
    obtain rfl := hb.int_inv
    split at h
    · rename_i hc
      obtain ⟨rfl, hd, hm⟩ := hc
      cases h
      obtain ⟨d, rfl⟩ : ∃ d' : Nat, d = d' := ⟨d.toNat, by omega⟩
      simp only [Int.toNat_natCast] at hm ⊢
      have e : n % m % d = n % d := Nat.mod_mod_of_dvd _ (Nat.dvd_of_mod_eq_zero hm)
      have hi : intOp .rem (resK fk) (n : Int) (d : Int) = some (.int (resK fk) ((n % m % d : Nat) : Int)) := by
        have hz : ¬ ((d : Int) = 0) := by omega
        simp only [intOp, hz, if_false, e]
        rfl
      exact ⟨_, by simp [run_eqGuard_int, run_int (.inr rfl) hi], .flat rfl⟩
    · cases h
  · rename_i k d
    obtain rfl := hb.int_inv
    split at h
    · rename_i hc
      obtain ⟨rfl, hd, hm⟩ := hc
      cases h
      obtain ⟨d, rfl⟩ : ∃ d' : Nat, d = d' := ⟨d.toNat, by omega⟩
      simp only [Int.toNat_natCast] at hm ⊢
      have hle : n / d ≤ 255 := Nat.le_trans (Nat.div_le_self _ _) hn
      have hi : intOp .quo (resK fk) (n : Int) (d : Int) = some (.int (resK fk) ((n / d : Nat) : Int)) := by
        have hz : ¬ ((d : Int) = 0) := by omega
        have e2 : Int.tdiv (n : Int) (d : Int) = ((n / d : Nat) : Int) := rfl
        simp only [intOp, hz, if_false, e2, wrap_res hle]
      refine ⟨_, by simp [run_eqGuard_int, run_int (.inr rfl) hi], .fr (.res hle ?_)⟩
      obtain ⟨q, rfl⟩ := Nat.dvd_of_mod_eq_zero hm
      rw [Nat.mul_div_cancel_left _ (by omega), Nat.mod_mul_right_div_self]
    · cases h
  · cases h

section
variable {T : Tab} {P : Program} (ok : T.Ok P) {ρ : Ren}
include ok

omit ok in
theorem sim_sym (ok : T.Ok P) (hS : ρ.sym = T.sym) {op : BinOp} {t : Nat} {x y : Operand} {a b a' b' v : Value} (h : T.bin op a b = some v) (sa : symV a = true) (sb : symV b = true) (ha : V ρ a a') (hb : V ρ b b') (w : World) :
    ∃ v', ((do eqGuard op t x y a' b'; binOp op t a' b') : Sem Value).run P w = .ok v' w ∧ V ρ v v' := by
  obtain ⟨v', h1, h2⟩ := ok.bin op a b v h a' b' (V.toSV hS sa ha) (V.toSV hS sb hb)
  refine ⟨v', ?_, h1.toV hS⟩
  rcases h2 with ⟨k, m, n, rfl, rfl, hi⟩ | ⟨m, n, rfl, rfl, hi⟩
  · simp [run_eqGuard_int, run_int (.inr rfl) hi]
  · simp [run_eqGuard_string, run_str hi]

theorem sim_binV (hS : ρ.sym = T.sym) {op : BinOp} {t : Nat} {cst : Bool} {x y : Operand} {a b a' b' v : Value} (hc : cst = (isConstO x || isConstO y)) (h : binV T op t cst a b = some v) (ha : V ρ a a') (hb : V ρ b b') (w : World) :
    ∃ v', ((do eqGuard op t x y a' b'; binOp op t a' b') : Sem Value).run P w = .ok v' w ∧ V ρ v v' := by
  unfold binV at h
  split at h
  · obtain rfl := ha.int_inv; obtain rfl := hb.int_inv
    rename_i k i k' j
    split at h
    · rename_i hs
      exact ⟨v, by simp [run_eqGuard_int, run_int (.inl hs) h], .flat (intOp_flat h)⟩
    · split at h
      · rename_i hk
        exact ⟨v, by simp [run_eqGuard_int, run_int (.inr hk) h], .flat (intOp_flat h)⟩
      · cases h
  · obtain rfl := ha.string_inv; obtain rfl := hb.string_inv
    exact ⟨v, by simp [run_eqGuard_string, run_str h], .flat (strOp_flat h)⟩
  · exact sim_resBin h ha hb w
  · cases hs : symV b with
    | false => simp [hs] at h
    | true =>
      simp only [hs, cond_true] at h
      exact sim_sym ok hS h rfl hs ha hb w
  · cases hs : symV a with
    | false => simp [hs] at h
    | true =>
      simp only [hs, cond_true] at h
      exact sim_sym ok hS h hs rfl ha hb w
  · obtain rfl := ha.nilIface_inv; obtain rfl := hb.nilIface_inv
    cases hcs : cst with
    | false => simp [hcs] at h
    | true =>
      simp only [hcs, cond_true] at h
      have hg := run_eqGuard_nil P op t (hc ▸ hcs) w
      split at h
      · rename_i hu
        cases h
        refine ⟨_, ?_, .flat rfl⟩
        simp only [Sem.run_bind, hg, Result.andThen_ok, binOp_eql (a := .nilIface) rfl, run_nil_equal ok hu, Sem.run_pure]
      · rename_i hu
        cases h
        refine ⟨_, ?_, .flat rfl⟩
        simp only [Sem.run_bind, hg, Result.andThen_ok, binOp_neq (a := .nilIface) rfl, run_nil_equal ok hu, Sem.run_pure]
        rfl
      · cases h
  · cases hn : numish a with
    | true => simp [hn] at h
    | false =>
      simp only [hn, cond_false] at h
      have hn' : numish a' = false := (numish_V ha).trans hn
      split at h
      · split at h
        · rename_i r he
          cases h
          refine ⟨.bool r, ?_, .flat rfl⟩
          simp only [Sem.run_bind, run_eqGuard ok he ha hb, Result.andThen_ok, binOp_eql hn', sim_eqV ok he ha hb, Sem.run_pure]
        · cases h
      · split at h
        · rename_i r he
          cases h
          refine ⟨.bool (!r), ?_, .flat rfl⟩
          simp only [Sem.run_bind, run_eqGuard ok he ha hb, Result.andThen_ok, binOp_neq hn', sim_eqV ok he ha hb, Sem.run_pure]
        · cases h
      · cases h

omit ok in
theorem sim_unV {op : UnOp} {x x' v : Value} (h : unV op x = some v) (hx : V ρ x x') (w : World) : (Op.unary op x').run P w = .ok v w ∧ V ρ v v := by
  unfold unV at h
  split at h
  · cases h; obtain rfl := hx.int_inv
    exact ⟨by simp [Op.unary, Op.intArith], .flat rfl⟩
  · obtain rfl := hx.int_inv
    simp only [intOp] at h
    cases h
    exact ⟨by simp [Op.unary, Op.intBits], .flat rfl⟩
  · cases h; obtain rfl := hx.bool_inv
    exact ⟨by simp [Op.unary], .flat rfl⟩
  · cases h

theorem sim_fieldAt {t i : Nat} {x x' v : Value} (h : fieldAt T t x i = some v) (hx : V ρ x x') (w : World) : ∃ v', (Instr.fieldAt t x' i).run P w = .ok v' w ∧ V ρ v v' := by
  unfold fieldAt at h
  split at h
  · rename_i fields b off spot hu
    split at h
    · cases h
    · rename_i f hf
      split at h
      · rename_i n hn
        cases h
        have hf' : fields[i]? = some f := by simpa using hf
        cases spot with
        | none =>
          obtain rfl := hx.oldPtr_inv
          refine ⟨.pointer (some ⟨b, off + f.offset, none⟩), ?_, .flat rfl⟩
          simp only [Instr.fieldAt, Sem.run_bind, ok.runUnd hu, Result.andThen_ok, hf', Instr.sureAddr, Sem.run_pure, fieldPlace, ok.runSize hn]
          by_cases h0 : f.offset = 0 <;> simp [Addr.add, h0]
        | some ver =>
          obtain ⟨l, hl, hd, rfl⟩ := hx.newPtr_inv
          refine ⟨.pointer (some ⟨l.r, off + f.offset - l.d, none⟩), ?_, .fr (.ptr hl (by omega))⟩
          simp only [Instr.fieldAt, Sem.run_bind, ok.runUnd hu, Result.andThen_ok, hf', Instr.sureAddr, Sem.run_pure, fieldPlace, ok.runSize hn]
          by_cases h0 : f.offset = 0
          · simp [Addr.add, h0]
          · simp [Addr.add, h0]; omega
      · cases h
  · cases h

theorem sim_partV {t off : Nat} {cs cs' : List Value} {v : Value} (h : partV T t cs off = some v) (hc : All2 (V ρ) cs cs') (w : World) : ∃ v', (part t cs'.toArray off).run P w = .ok v' w ∧ V ρ v v' := by
  unfold partV at h
  split at h
  · rename_i d n hd hn
    rw [part_run ok hd hn]
    cases ha : isAggD d with
    | true =>
      simp only [ha, cond_true] at h
      cases h
      exact ⟨_, by simp; rfl, .agg (by simpa using (hc.drop off).take n)⟩
    | false =>
      simp only [ha, cond_false] at h
      obtain ⟨y, hy, hv⟩ := hc.get h
      exact ⟨y, by simp [hy], hv⟩
  · cases h

theorem sim_fieldV {t i : Nat} {x x' v : Value} (h : fieldV T t x i = some v) (hx : V ρ x x') (w : World) : ∃ v', (Instr.field t x' i).run P w = .ok v' w ∧ V ρ v v' := by
  unfold fieldV at h
  split at h
  · rename_i fields cs hu
    obtain ⟨b, rfl, hb⟩ := hx.agg_inv
    split at h
    · cases h
    · rename_i f hf
      have hf' : fields[i]? = some f := by simpa using hf
      obtain ⟨v', h1, h2⟩ := sim_partV ok h hb w
      exact ⟨v', by simpa [Instr.field, ok.runUnd hu, hf', asAgg] using h1, h2⟩
  · cases h

theorem sim_indexAt {t : Nat} {x x' ix ix' v : Value} (h : indexAt T t x ix = some v) (hx : V ρ x x') (hi : V ρ ix ix') (w : World) : ∃ v', (Instr.indexAt t x' ix').run P w = .ok v' w ∧ V ρ v v' := by
  unfold indexAt at h
  split at h
  · rename_i elem b off spot len cap k i hu
    obtain rfl := hi.int_inv
    split at h
    · cases h
    · rename_i z hz
      split at h
      · rename_i hb
        cases h
        cases spot with
        | none =>
          obtain rfl := hx.oldSlice_inv
          refine ⟨.pointer (some ⟨b, off + i.toNat * z, none⟩), ?_, .flat rfl⟩
          simp only [Instr.indexAt, asIntOf, Sem.run_bind, Sem.run_pure, ok.runUnd hu, Result.andThen_ok, hb, and_self, if_true, ok.runSize hz]
          by_cases h0 : i.toNat * z = 0 <;> simp [Addr.add, h0]
        | some ver =>
          obtain ⟨l, o', cap', hl, hd, ho, hs, hlen, hc, rfl⟩ := hx.newSlice_inv
          have ho : o' = off - l.d := ho.resolve_right (by omega)
          subst ho
          refine ⟨.pointer (some ⟨l.r, off + i.toNat * z - l.d, none⟩), ?_, .fr (.ptr hl (by omega))⟩
          simp only [Instr.indexAt, asIntOf, Sem.run_bind, Sem.run_pure, ok.runUnd hu, Result.andThen_ok, hb, and_self, if_true, ok.runSize hz]
          by_cases h0 : i.toNat * z = 0
          · simp [Addr.add, h0]
          · simp [Addr.add, h0]; omega
      · cases h
  · rename_i len elem b off spot k i hu
    obtain rfl := hi.int_inv
    split at h
    · cases h
    · rename_i z hz
      split at h
      · rename_i hb
        cases h
        cases spot with
        | none =>
          obtain rfl := hx.oldPtr_inv
          refine ⟨.pointer (some ⟨b, off + i.toNat * z, none⟩), ?_, .flat rfl⟩
          simp only [Instr.indexAt, asIntOf, Sem.run_bind, Sem.run_pure, ok.runUnd hu, Result.andThen_ok, Instr.sureAddr, hb, and_self, if_true, ok.runSize hz]
          by_cases h0 : i.toNat * z = 0 <;> simp [Addr.add, h0]
        | some ver =>
          obtain ⟨l, hl, hd, rfl⟩ := hx.newPtr_inv
          refine ⟨.pointer (some ⟨l.r, off + i.toNat * z - l.d, none⟩), ?_, .fr (.ptr hl (by omega))⟩
          simp only [Instr.indexAt, asIntOf, Sem.run_bind, Sem.run_pure, ok.runUnd hu, Result.andThen_ok, Instr.sureAddr, hb, and_self, if_true, ok.runSize hz]
          by_cases h0 : i.toNat * z = 0
          · simp [Addr.add, h0]
          · simp [Addr.add, h0]; omega
      · cases h
  · cases h

theorem sim_indexV {t : Nat} {x x' ix ix' v : Value} (h : indexV T t x ix = some v) (hx : V ρ x x') (hi : V ρ ix ix') (w : World) : ∃ v', (Instr.index t x' ix').run P w = .ok v' w ∧ V ρ v v' := by
  unfold indexV at h
  split at h
  · rename_i s k i hu
    obtain rfl := hi.int_inv
    obtain rfl := hx.string_inv
    split at h
    · rename_i h0
      split at h
      · rename_i c hc
        cases h
        refine ⟨_, ?_, .flat rfl⟩
        have : s[i.toNat]? = some c := by
          rw [← hc]
          simp [getElem?_def]
          rfl
        simp [Instr.index, asIntOf, ok.runUnd hu, h0, this]
      · cases h
    · cases h
  · rename_i len elem cs k i hu
    obtain rfl := hi.int_inv
    obtain ⟨b, rfl, hb⟩ := hx.agg_inv
    split at h
    · cases h
    · rename_i z hz
      split at h
      · rename_i h0
        obtain ⟨v', h1, h2⟩ := sim_partV ok h hb w
        exact ⟨v', by simpa [Instr.index, asIntOf, ok.runUnd hu, h0, ok.runSize hz] using h1, h2⟩
      · cases h
  · cases h
end
end Go.Ev
