/-
  The operations that leave memory alone and do not look at it: what the evaluator says of them, the machine does.
-/
import Derived.Test.YtmmojhbboomgoaaGreatEvRel
import Derived.Laws.Sem
import Derived.Laws.Strings
import Derived.Laws.StructEq
namespace Go.Ev
set_option linter.unusedSimpArgs false
set_option linter.unusedVariables false

section run
variable {T : Tab} {P : Program} (ok : T.Ok P)
include ok
theorem Tab.Ok.runUnd {t : Nat} {d : TypeDesc} (h : T.und t = some d) (w : World) : (underlying t).run P w = .ok d w := by
  simp [underlying, ok.und h]
theorem Tab.Ok.runInfo {t : Nat} {i : TypeInfo} (h : T.info t = some i) (w : World) : (typeInfo t).run P w = .ok i w := by
  simp [typeInfo, ok.info _ _ h]
theorem Tab.Ok.runSize {t n : Nat} (h : T.size t = some n) (w : World) : (sizeOf t).run P w = .ok n w := by
  obtain ⟨i, hi, rfl⟩ := ok.size h
  simp [sizeOf, typeInfo, hi]
theorem Tab.Ok.runZero {t : Nat} {z : Value} (h : T.zero t = some z) (w : World) : (zeroValue t).run P w = .ok z w := by
  obtain ⟨i, hi, hz⟩ := ok.zero h
  simp [zeroValue, typeInfo, hi, hz]
theorem Tab.Ok.runAgg {t : Nat} {d : TypeDesc} (h : T.und t = some d) (w : World) : (isAgg t).run P w = .ok (isAggD d) w := by
  simp only [isAgg, Sem.run_bind, ok.runUnd h, Result.andThen_ok]
  cases d <;> rfl
end run

/-! ## two operands -/

theorem run_eqGuard_int (P : Program) (op : BinOp) (t : TypeId) (x y : Operand) (k k' : IntKind) (a b : Int) (w : World) : (eqGuard op t x y (.int k a) (.int k' b)).run P w = .ok () w := by
  cases op <;> simp [eqGuard]
theorem run_eqGuard_string (P : Program) (op : BinOp) (t : TypeId) (x y : Operand) (a b : ByteArray) (w : World) : (eqGuard op t x y (.string a) (.string b)).run P w = .ok () w := by
  cases op <;> simp [eqGuard]

theorem run_int {P : Program} {op : BinOp} {t : TypeId} {k k' : IntKind} {a b : Int} {v : Value} (hk : isShift op = true ∨ k = k') (h : intOp op k a b = some v) (w : World) :
    (binOp op t (.int k a) (.int k' b)).run P w = .ok v w := by
  cases op
  case shl =>
    simp only [intOp] at h
    split at h
    · cases h
    · rename_i hb
      cases h
      simp [binOp, Op.shift, hb]
  case shr =>
    simp only [intOp] at h
    split at h
    · cases h
    · rename_i hb
      cases h
      simp [binOp, Op.shift, hb]
  case quo =>
    obtain rfl : k = k' := by simpa [isShift] using hk
    simp only [intOp] at h
    split at h
    · cases h
    · rename_i hb
      cases h
      simp [binOp, Op.intDiv, hb]
  case rem =>
    obtain rfl : k = k' := by simpa [isShift] using hk
    simp only [intOp] at h
    split at h
    · cases h
    · rename_i hb
      cases h
      simp [binOp, Op.intDiv, hb]
  all_goals
    obtain rfl : k = k' := by simpa [isShift] using hk
    simp only [intOp] at h
    cases h
    simp [binOp, Op.intArith, Op.intBits, Op.intCmp]

theorem toList_eq (s : ByteArray) : s.toList = s.data.toList := ByteArray.toList_eq s

theorem run_str {P : Program} {op : BinOp} {t : TypeId} {a b : ByteArray} {v : Value} (h : strOp op a b = some v) (w : World) :
    (binOp op t (.string a) (.string b)).run P w = .ok v w := by
  cases op
  case add =>
    simp only [strOp] at h
    cases hb : Nat.ble (a.size + b.size) 9223372036854775807 with
    | false => simp [hb] at h
    | true =>
      simp [hb] at h
      subst h
      have := Nat.le_of_ble_eq_true hb
      have h2 : ¬ (((a.size + b.size : Nat) : Int) > IntKind.i64.max) := by simp [IntKind.max, IntKind.signed, IntKind.bits]; omega
      simp only [binOp, Op.stringOp]
      rw [if_neg h2]
      rfl
  all_goals
    simp only [strOp] at h
    first
      | (cases h; simp [binOp, Op.stringOp, toList_eq]; done)
      | (cases h; done)

theorem part_run {T : Tab} {P : Program} (ok : T.Ok P) {t n : Nat} {d : TypeDesc} (hd : T.und t = some d) (hn : T.size t = some n) (cs : Array Value) (off : Nat) (w : World) :
    (part t cs off).run P w = if isAggD d = true then .ok (.agg ((cs.toList.drop off).take n).toArray) w else match cs[off]? with
      | some v => .ok v w
      | none => .halt (.stuck "part: no such cell") w := by
  simp only [part, Sem.run_bind, ok.runAgg hd, Result.andThen_ok]
  cases isAggD d with
  | true =>
    simp only [if_true, Sem.run_bind, ok.runSize hn, Result.andThen_ok, Sem.run_pure]
    congr 2
    apply Array.ext'
    simp [List.take_drop, Nat.add_comm, Array.toList_extract, List.extract]
  | false =>
    simp only [Bool.false_eq_true, if_false]
    cases cs[off]? <;> simp

section eq
variable {T : Tab} {P : Program} (ok : T.Ok P) {ρ : Ren}
include ok

theorem sim_eqCell {t : Nat} {d : TypeDesc} (hd : P.underlying t = some d) {x y x' y' : Value} {r : Bool} (h : eqCell T d x y = some r) (hx : V ρ x x') (hy : V ρ y y') (m : Nat) (w : World) :
    (Op.equalIn (m + 1) t x' y').run P w = .ok r w := by
  have hu : (underlying t).run P w = .ok d w := by simp [underlying, hd]
  unfold eqCell at h
  split at h
  · cases h; obtain rfl := hx.bool_inv; obtain rfl := hy.bool_inv
    simp [Op.equalIn, hu]
  · split at h
    · cases h; obtain rfl := hx.int_inv; obtain rfl := hy.int_inv
      rename_i hk; subst hk
      simp [Op.equalIn, hu]
    · cases h
  · cases h; obtain rfl := hx.string_inv; obtain rfl := hy.string_inv
    rw [run_equalIn_string w m t _ _ hd, toList_eq, toList_eq]
  · cases h; obtain rfl := hx.nilPtr_inv
    have := hy.ptr_inv
    cases this <;> simp [Op.equalIn, hu]
  · cases h; obtain rfl := hy.nilPtr_inv
    have := hx.ptr_inv
    cases this <;> simp [Op.equalIn, hu]
  · split at h
    · cases h
      rename_i hc
      obtain ⟨rfl, rfl, rfl, hs⟩ := hc
      obtain ⟨l, hl, hdl, rfl⟩ := hx.newPtr_inv
      obtain ⟨l', hl', _, rfl⟩ := hy.newPtr_inv
      obtain rfl : l = l' := by rw [hl] at hl'; exact Option.some.inj hl'
      obtain ⟨n, hn⟩ := Option.isSome_iff_exists.1 hs
      simp only [Op.equalIn, Sem.run_bind, hu, Result.andThen_ok, ok.runSize hn]
      by_cases h0 : n = 0
      · simp [h0]
      · simp [h0, sameAddr]
    · cases h
  · cases h; obtain rfl := hx.nilSlice_inv
    have := hy.slice_inv
    cases this <;> simp [Op.equalIn, hu]
  · cases h; obtain rfl := hy.nilSlice_inv
    have := hx.slice_inv
    cases this <;> simp [Op.equalIn, hu]
  · cases h; obtain rfl := hx.nilMap_inv
    have := hy.map_inv
    cases this <;> simp [Op.equalIn, hu]
  · cases h; obtain rfl := hy.nilMap_inv
    have := hx.map_inv
    cases this <;> simp [Op.equalIn, hu]
  · cases h; obtain rfl := hx.nilFunc_inv; obtain rfl := hy.nilFunc_inv
    simp [Op.equalIn, hu]
  · cases h; obtain rfl := hx.nilFunc_inv; obtain ⟨_, _, rfl, _⟩ := hy.func_inv
    simp [Op.equalIn, hu]
  · cases h; obtain rfl := hy.nilFunc_inv; obtain ⟨_, _, rfl, _⟩ := hx.func_inv
    simp [Op.equalIn, hu]
  · cases h; obtain rfl := hx.nilIface_inv; obtain ⟨_, rfl, _⟩ := hy.iface_inv
    simp [Op.equalIn, hu]
  · cases h; obtain rfl := hy.nilIface_inv; obtain ⟨_, rfl, _⟩ := hx.iface_inv
    simp [Op.equalIn, hu]
  · cases h

/-- a value out of its cells -/
def valOf (d : TypeDesc) (l : List Value) : Value := if isAggD d = true then .agg l.toArray else l.headD undef

theorem part_val {t n : Nat} {d : TypeDesc} (hd : T.und t = some d) (hn : T.size t = some n) (cs : Array Value) (off : Nat) (hc : isAggD d = true ∨ ∃ x, (cs.toList.drop off).take n = [x]) (w : World) :
    (part t cs off).run P w = .ok (valOf d ((cs.toList.drop off).take n)) w := by
  rw [part_run ok hd hn]
  unfold valOf
  by_cases h : isAggD d = true
  · simp [h]
  · obtain ⟨x, hx⟩ := hc.resolve_left h
    rw [if_neg h, if_neg h, getElem?_of_chunk' hx, hx]
    rfl
where
  getElem?_of_chunk' {xs : Array Value} {off c : Nat} {a : Value} (h : (xs.toList.drop off).take c = [a]) : xs[off]? = some a := by
    have h0 := congrArg (·[0]?) h
    simp only [List.getElem?_cons_zero] at h0
    cases c with
    | zero => simp at h
    | succ c =>
      simp only [List.getElem?_take, Nat.zero_lt_succ, if_true, List.getElem?_drop, Nat.add_zero] at h0
      simpa using h0

theorem sim_eqAt : ∀ (d t : Nat) (xs ys xs' ys' : List Value) (r : Bool) (k : TypeDesc), T.und t = some k → eqAt T d t xs ys = some r → All2 (V ρ) xs xs' → All2 (V ρ) ys ys' → ∀ (m : Nat) (w : World),
    (Op.equalIn (d + m) t (valOf k xs') (valOf k ys')).run P w = .ok r w
  | 0, _, _, _, _, _, _, _, _, h, _, _ => by simp [eqAt] at h
  | d + 1, t, xs, ys, xs', ys', r, k, hk, h, hx, hy => by
    intro m w
    simp only [eqAt, hk] at h
    have hu := ok.und hk
    cases k
    case struct fields =>
      simp only at h
      cases he : T.eqs t with
      | false => simp [he] at h
      | true =>
        simp only [he, cond_true] at h
        have hf : P.fieldsOf t = fields := by simp [Program.fieldsOf, hu]
        have hv : ∀ l, valOf (.struct fields) l = .agg l.toArray := fun l => by simp [valOf, isAggD]
        rw [hv, hv, show d + 1 + m = (d + m) + 1 by omega, run_equalIn_struct w (d + m) t _ _ (by rw [hf]; exact hu) (ok.eqs t he).1, hf]
        revert h
        generalize fields.toList = fs
        intro h
        clear hf hu hv hk he
        induction fs with
        | nil => simp [eqFields] at h; subst h; simp [Op.eqFields]
        | cons f fs ih =>
          simp only [eqFields] at h
          split at h
          · cases h
          · rename_i hname
            cases hn : T.size f.type with
            | none => simp [hn] at h
            | some n =>
              simp only [hn] at h
              cases he : eqAt T d f.type ((xs.drop f.offset).take n) ((ys.drop f.offset).take n) with
              | none => simp [he] at h
              | some b =>
                obtain ⟨kf, hkf⟩ : ∃ kf, T.und f.type = some kf := by
                  cases d with
                  | zero => simp [eqAt] at he
                  | succ d =>
                    simp only [eqAt] at he
                    cases hh : T.und f.type with
                    | none => simp [hh] at he
                    | some kf => exact ⟨kf, rfl⟩
                have hone : isAggD kf = true ∨ (∃ x, (xs.drop f.offset).take n = [x]) ∧ (∃ y, (ys.drop f.offset).take n = [y]) := by
                  cases d with
                  | zero => simp [eqAt] at he
                  | succ d =>
                    simp only [eqAt, hkf] at he
                    cases kf
                    case struct => exact .inl rfl
                    case array => exact .inl rfl
                    all_goals
                      simp only at he
                      split at he
                      · rename_i e1 e2; exact .inr ⟨⟨_, e1⟩, ⟨_, e2⟩⟩
                      · cases he
                have hxs := (hx.drop f.offset).take n
                have hys := (hy.drop f.offset).take n
                have one : ∀ (l : List Value) (l' : List Value), All2 (V ρ) l l' → (∃ x, l = [x]) → ∃ x, l' = [x] := by
                  rintro l l' hl ⟨x, rfl⟩
                  cases hl with
                  | cons _ t => cases t; exact ⟨_, rfl⟩
                have p1 := part_val ok hkf hn xs'.toArray f.offset (by
                  rcases hone with h | ⟨h, _⟩
                  · exact .inl h
                  · exact .inr (by simpa using one _ _ hxs h)) w
                have p2 := part_val ok hkf hn ys'.toArray f.offset (by
                  rcases hone with h | ⟨_, h⟩
                  · exact .inl h
                  · exact .inr (by simpa using one _ _ hys h)) w
                have p3 := sim_eqAt d f.type _ _ _ _ b kf hkf he hxs hys m w
                simp only [List.toList_toArray] at p1 p2
                simp only [Op.eqFields, ne_eq, hname, not_false_eq_true, if_true, Sem.run_bind, p1, p2, Result.andThen_ok, p3]
                simp only [he] at h
                cases b
                · simp only at h
                  cases h
                  simp
                · simp only at h
                  simpa using ih h
    case array => simp at h
    all_goals
      simp only at h
      split at h
      · cases hx with
        | cons hx1 hx2 =>
          cases hx2
          cases hy with
          | cons hy1 hy2 =>
            cases hy2
            rw [show d + 1 + m = (d + m) + 1 by omega]
            exact sim_eqCell ok hu h hx1 hy1 _ w
      · cases h

theorem sim_eqV {t : Nat} {x y x' y' : Value} {r : Bool} (h : eqV T t x y = some r) (hx : V ρ x x') (hy : V ρ y y') (w : World) : (Op.equal t x' y').run P w = .ok r w := by
  unfold eqV at h
  split at h
  · rename_i xs ys
    split at h
    · rename_i f hf
      obtain ⟨a, rfl, ha⟩ := hx.agg_inv
      obtain ⟨b, rfl, hb⟩ := hy.agg_inv
      have := sim_eqAt ok 8 t _ _ _ _ r _ hf h ha hb 9992 w
      simpa [valOf, isAggD, Op.equal, Op.maxDepth] using this
    · cases h
  · split at h
    · cases h
    · cases h
    · rename_i hk
      exact sim_eqCell ok (ok.und hk) h hx hy 9999 w
    · cases h
end eq

theorem run_eqGuard {T : Tab} {P : Program} (ok : T.Ok P) {op : BinOp} {t : Nat} {x y : Operand} {a b a' b' : Value} {r : Bool} (h : eqV T t a b = some r) {ρ : Ren} (ha : V ρ a a') (hb : V ρ b b') (w : World) :
    (eqGuard op t x y a' b').run P w = .ok () w := by
  unfold eqGuard
  cases hop : (!(op matches .eql | .neq)) with
  | true => simp
  | false =>
    simp only [Bool.false_eq_true, if_false]
    unfold eqV at h
    split at h
    · rename_i xs ys
      split at h
      · rename_i f hf
        obtain ⟨a, rfl, ha⟩ := ha.agg_inv
        obtain ⟨b, rfl, hb⟩ := hb.agg_inv
        have he : T.eqs t = true := by
          simp only [eqAt, hf] at h
          cases he : T.eqs t with
          | true => rfl
          | false => simp [he] at h
        simp [(ok.eqs t he).2]
      · cases h
    · split at h
      · cases h
      · cases h
      · rename_i k _ _ hk
        unfold eqCell at h
        split at h
        · obtain rfl := ha.bool_inv; obtain rfl := hb.bool_inv; simp
        · obtain rfl := ha.int_inv; obtain rfl := hb.int_inv; simp
        · obtain rfl := ha.string_inv; obtain rfl := hb.string_inv; simp
        · obtain rfl := ha.nilPtr_inv; simp
        · obtain rfl := hb.nilPtr_inv; have := ha.ptr_inv; cases this <;> simp
        · obtain ⟨l, hl, hdl, rfl⟩ := ha.newPtr_inv; simp
        · obtain rfl := ha.nilSlice_inv; simp
        · obtain rfl := hb.nilSlice_inv; have := ha.slice_inv; cases this <;> simp
        · obtain rfl := ha.nilMap_inv; simp
        · obtain rfl := hb.nilMap_inv; have := ha.map_inv; cases this <;> simp
        · obtain rfl := ha.nilFunc_inv; simp
        · obtain rfl := ha.nilFunc_inv; simp
        · obtain ⟨_, _, rfl, _⟩ := ha.func_inv; simp
        · obtain rfl := ha.nilIface_inv; obtain ⟨_, rfl, _⟩ := hb.iface_inv; simp
        · obtain rfl := hb.nilIface_inv; obtain ⟨_, rfl, _⟩ := ha.iface_inv; simp
        · cases h
      · cases h

theorem asN_inv {v : Value} {i : Int} (h : asN v = some i) : ∃ k, v = .int k i := by
  cases v <;> simp [asN] at h
  subst h; exact ⟨_, rfl⟩

theorem run_sliceBound {P : Program} {ρ : Ren} {v v' : Value} {i : Int} (h : asN v = some i) (hv : V ρ v v') {y : Nat} (h0 : 0 ≤ i ∧ i ≤ y) (code : BoundsCode) (w : World) : (Instr.sliceBound v' y code).run P w = .ok i.toNat w := by
  obtain ⟨k, rfl⟩ := asN_inv h
  obtain rfl := hv.int_inv
  simp [Instr.sliceBound, asIntOf, h0]

/-- operands that may be there -/
def OV (ρ : Ren) : Option Value → Option Value → Prop
  | none, none => True
  | some v, some v' => V ρ v v'
  | _, _ => False

theorem bounds_le {len cap : Nat} {lo hi mx : Option Value} {l h m : Nat} (hb : bounds len cap lo hi mx = some (l, h, m)) (hlc : len ≤ cap) : l ≤ h ∧ h ≤ m ∧ m ≤ cap ∧ (mx = none → m = cap) := by
  unfold bounds at hb
  cases mx with
  | none =>
    simp only at hb
    cases hi with
    | none =>
      simp only at hb
      cases lo with
      | none => simp at hb; exact ⟨by omega, by omega, by omega, fun hh => by first | omega | cases hh⟩
      | some v =>
        simp only at hb
        cases hn : asN v with
        | none => simp [hn] at hb
        | some i =>
          simp only [hn] at hb
          split at hb
          · simp at hb; exact ⟨by omega, by omega, by omega, fun hh => by first | omega | cases hh⟩
          · cases hb
    | some u =>
      cases hn : asN u with
      | none => simp [hn] at hb
      | some i =>
        simp only [hn] at hb
        split at hb
        · simp at hb
        · rename_i heq
          split at heq
          · cases heq
            cases lo with
            | none => simp at hb; exact ⟨by omega, by omega, by omega, fun hh => by first | omega | cases hh⟩
            | some v =>
              simp only at hb
              cases hn2 : asN v with
              | none => simp [hn2] at hb
              | some j =>
                simp only [hn2] at hb
                split at hb
                · simp at hb; exact ⟨by omega, by omega, by omega, fun hh => by first | omega | cases hh⟩
                · cases hb
          · cases heq
  | some x =>
    cases hx : asN x with
    | none => simp [hx] at hb
    | some q =>
      simp only [hx] at hb
      split at hb
      · cases hb
      · rename_i heq
        split at heq
        · cases heq
          cases hi with
          | none => simp at hb
          | some u =>
            cases hn : asN u with
            | none => simp [hn] at hb
            | some i =>
              simp only [hn] at hb
              split at hb
              · simp at hb
              · rename_i heq
                split at heq
                · cases heq
                  cases lo with
                  | none => simp at hb; exact ⟨by omega, by omega, by omega, fun hh => by first | omega | cases hh⟩
                  | some v =>
                    simp only at hb
                    cases hn2 : asN v with
                    | none => simp [hn2] at hb
                    | some j =>
                      simp only [hn2] at hb
                      split at hb
                      · simp at hb; exact ⟨by omega, by omega, by omega, fun hh => by first | omega | cases hh⟩
                      · cases hb
                · cases heq
        · cases heq

theorem run_bounds {P : Program} {ρ : Ren} {len cap cap' : Nat} {lo hi mx lo' hi' mx' : Option Value} {l h m : Nat} (hb : bounds len cap lo hi mx = some (l, h, m)) (hc : cap ≤ cap')
    (hlo : OV ρ lo lo') (hhi : OV ρ hi hi') (hmx : OV ρ mx mx') (isS : Bool) (w : World) :
    (Instr.sliceBounds isS len cap' lo' hi' mx').run P w = .ok (l, h, if mx.isSome then m else cap') w := by
  unfold bounds at hb
  cases mx with
  | none =>
    cases mx' with
    | some _ => simp [OV] at hmx
    | none =>
      simp only at hb
      cases hi with
      | none =>
        cases hi' with
        | some _ => simp [OV] at hhi
        | none =>
          simp only at hb
          cases lo with
          | none =>
            cases lo' with
            | some _ => simp [OV] at hlo
            | none => simp at hb; obtain ⟨rfl, rfl, rfl⟩ := hb; simp [Instr.sliceBounds]
          | some v =>
            cases lo' with
            | none => simp [OV] at hlo
            | some v' =>
              simp only at hb
              cases hn : asN v with
              | none => simp [hn] at hb
              | some i =>
                simp only [hn] at hb
                split at hb
                · simp at hb; obtain ⟨rfl, rfl, rfl⟩ := hb
                  rename_i hi0
                  simp [Instr.sliceBounds, run_sliceBound hn hlo hi0]
                · cases hb
      | some u =>
        cases hi' with
        | none => simp [OV] at hhi
        | some u' =>
          cases hn : asN u with
          | none => simp [hn] at hb
          | some i =>
            simp only [hn] at hb
            split at hb
            · simp at hb
            · rename_i heq
              split at heq
              · cases heq
                rename_i hi0
                have hi1 : 0 ≤ i ∧ i ≤ cap' := ⟨hi0.1, by omega⟩
                cases lo with
                | none =>
                  cases lo' with
                  | some _ => simp [OV] at hlo
                  | none => simp at hb; obtain ⟨rfl, rfl, rfl⟩ := hb; simp [Instr.sliceBounds, run_sliceBound hn hhi hi1]
                | some v =>
                  cases lo' with
                  | none => simp [OV] at hlo
                  | some v' =>
                    simp only at hb
                    cases hn2 : asN v with
                    | none => simp [hn2] at hb
                    | some j =>
                      simp only [hn2] at hb
                      split at hb
                      · simp at hb; obtain ⟨rfl, rfl, rfl⟩ := hb
                        rename_i hj
                        simp [Instr.sliceBounds, run_sliceBound hn hhi hi1, run_sliceBound hn2 hlo hj]
                      · cases hb
              · cases heq
  | some x =>
    cases mx' with
    | none => simp [OV] at hmx
    | some x' =>
      cases hx : asN x with
      | none => simp [hx] at hb
      | some q =>
        simp only [hx] at hb
        split at hb
        · cases hb
        · rename_i heq
          split at heq
          · cases heq
            rename_i hq0
            have hq1 : 0 ≤ q ∧ q ≤ cap' := ⟨hq0.1, by omega⟩
            cases hi with
            | none => simp at hb
            | some u =>
              cases hi' with
              | none => simp [OV] at hhi
              | some u' =>
                cases hn : asN u with
                | none => simp [hn] at hb
                | some i =>
                  simp only [hn] at hb
                  split at hb
                  · simp at hb
                  · rename_i heq
                    split at heq
                    · cases heq
                      rename_i hi0
                      cases lo with
                      | none =>
                        cases lo' with
                        | some _ => simp [OV] at hlo
                        | none => simp at hb; obtain ⟨rfl, rfl, rfl⟩ := hb; simp [Instr.sliceBounds, run_sliceBound hx hmx hq1, run_sliceBound hn hhi hi0]
                      | some v =>
                        cases lo' with
                        | none => simp [OV] at hlo
                        | some v' =>
                          simp only at hb
                          cases hn2 : asN v with
                          | none => simp [hn2] at hb
                          | some j =>
                            simp only [hn2] at hb
                            split at hb
                            · simp at hb; obtain ⟨rfl, rfl, rfl⟩ := hb
                              rename_i hj
                              simp [Instr.sliceBounds, run_sliceBound hx hmx hq1, run_sliceBound hn hhi hi0, run_sliceBound hn2 hlo hj]
                            · cases hb
                    · cases heq
          · cases heq
end Go.Ev
