/-
  From a program to its table; calls that are passed over; what a call of the program's comes to when the evaluator says so.
-/
import Derived.Test.YtmmojhbboomgoaaGreatEvMain
import Derived.KernelRfl
import Derived.Eval
namespace Go.Ev
set_option linter.unusedSimpArgs false
set_option linter.unusedVariables false

abbrev PrimT := (Addr → Option Value) → List Value → Heap → Option (Value × Heap)

def primAt : List (Nat × PrimT) → Nat → Option PrimT
  | [], _ => none
  | (i, p) :: l, f => bif Nat.beq f i then some p else primAt l f

def memN (t : Nat) : List Nat → Bool
  | [] => false
  | x :: l => bif Nat.beq t x then true else memN t l

theorem memN_mem {t : Nat} : ∀ {l : List Nat}, memN t l = true → t ∈ l
  | x :: l, h => by
    simp only [memN] at h
    cases hb : Nat.beq t x with
    | true => simp [Nat.eq_of_beq_eq_true hb]
    | false => rw [hb, cond_false] at h; exact List.mem_cons_of_mem _ (memN_mem h)

theorem primAt_mem {f : Nat} {p : PrimT} : ∀ {l : List (Nat × PrimT)}, primAt l f = some p → (f, p) ∈ l
  | (i, q) :: l, h => by
    simp only [primAt] at h
    cases hb : Nat.beq f i with
    | true => rw [hb, cond_true] at h; cases h; simp [Nat.eq_of_beq_eq_true hb]
    | false => rw [hb, cond_false] at h; exact List.mem_cons_of_mem _ (primAt_mem h)

/-- What is known of symbols. -/
structure Know where
  sym : Nat → Option Value := fun _ => .none
  bin : BinOp → Value → Value → Option Value := fun _ _ _ => .none
  slen : Nat → Option Value := fun _ => .none
  sconv : Nat → IntKind → Option Value := fun _ _ => .none

def Know.nil : Know := {}

structure Know.Ok (K : Know) : Prop where
  bin : ∀ op x y v, K.bin op x y = some v → ∀ x' y', SV K.sym x x' → SV K.sym y y' → ∃ v', SV K.sym v v' ∧
    ((∃ k a b, x' = .int k a ∧ y' = .int k b ∧ intOp op k a b = some v') ∨ (∃ a b, x' = .string a ∧ y' = .string b ∧ strOp op a b = some v'))
  slen : ∀ i v, K.slen i = some v → ∃ s : ByteArray, K.sym i = some (.string s) ∧ SV K.sym v (.int .i64 s.data.toList.length)
  sconv : ∀ i k v, K.sconv i k = some v → ∃ k0 n, K.sym i = some (.int k0 n) ∧ SV K.sym v (.int k (k.wrap n))

theorem Know.nil_ok : Know.nil.Ok where
  bin := fun _ _ _ _ h => by cases h
  slen := fun _ _ h => by cases h
  sconv := fun _ _ _ h => by cases h

/-- The table of a program: its functions, its types, the struct types that may be compared, what is passed over. -/
noncomputable def tabOf (fs : Tr Func) (ts : Tr TypeInfo) (es : List Nat) (ps : List (Nat × PrimT)) (K : Know) : Tab :=
  { fn := fs.get, info := ts.get, eqs := fun t => memN t es, prim := primAt ps, sym := K.sym, bin := K.bin, slen := K.slen, sconv := K.sconv }

theorem get_fillAny {α : Type} (l : List α) (j : Nat) : (Tr.fill l 0 .lf).get j = l[j]? := by
  rw [Tr.get_fill]
  by_cases h : j < l.length
  · simp [h]
  · simp [h, Tr.get_lf]

theorem tabOf_ok {P : Program} {fs : Tr Func} {ts : Tr TypeInfo} {es : List Nat} {ps : List (Nat × PrimT)} {K : Know} (hK : K.Ok) (hf : fs = Tr.fill P.funcs.toList 0 .lf) (ht : ts = Tr.fill P.types.toList 0 .lf)
    (he : (es.all fun t => !P.stoodInHeld t && !P.eqGuardType P.depth t) = true) : (tabOf fs ts es ps K).Ok P where
  bin := hK.bin
  slen := hK.slen
  sconv := hK.sconv
  fn := fun f x h => by
    simp only [tabOf, hf] at h
    rw [get_fillAny] at h
    simpa using h
  info := fun t i h => by
    simp only [tabOf, ht] at h
    rw [get_fillAny] at h
    have h : P.types[t]? = some i := by simpa using h
    have hlt := (Array.getElem?_eq_some_iff.1 h).1
    unfold Tables.info?
    rw [if_pos hlt]
    exact h
  eqs := fun t h => by
    have := List.all_eq_true.1 he t (memN_mem h)
    simpa using this

/-- A call that is passed over, and what is said of it. -/
def PrimSim (P : Program) (w0 : World) (f : Nat) (p : PrimT) : Prop :=
  ∀ l H v H', p w0.cell? l H = some (v, H') → ∀ (ρ : Ren) (w : World) (l' : List Value), HR w0 ρ H w → All2 (V ρ) l l' → CallSim P f l'.toArray w fun v' w' => Out w0 ρ H v H' v' w'

theorem primOk_of {P : Program} {w0 : World} {fs : Tr Func} {ts : Tr TypeInfo} {es : List Nat} {ps : List (Nat × PrimT)} {K : Know} (h : ∀ x ∈ ps, PrimSim P w0 x.1 x.2) : PrimOk (tabOf fs ts es ps K) P w0 :=
  fun f p l H v H' hp hv ρ w l' _ hr hl => h _ (primAt_mem hp) l H v H' hv ρ w l' hr hl

/-- 'f()' is a value that leads nowhere: passed over. -/
def pass0 (v : Value) : PrimT := fun _ l H => match l with
  | [] => some (v, H)
  | _ => none

/-- 'f(x)' is x. -/
def passId : PrimT := fun _ l H => match l with
  | [x] => some (x, H)
  | _ => none

/-- Memory that was there stays, memory that is new is not looked at. -/
theorem HR.grow {w0 : World} {ρ : Ren} {H : Heap} {w w' : World} (h : HR w0 ρ H w) (hs : ∀ r, r < w.heap.size → w'.heap[r]? = w.heap[r]?) (hb : w.heap.size ≤ w'.heap.size) (hio : w'.os = w.os ∧ w'.output = w.output) : HR w0 ρ H w' where
  io := ⟨hio.1.trans h.io.1, hio.2.trans h.io.2⟩
  old := fun r hr => (hs r (Nat.lt_of_lt_of_le hr h.big)).trans (h.old r hr)
  big := Nat.le_trans h.big hb
  dom := fun b v l hl => let ⟨a, b, c⟩ := h.dom b v l hl; ⟨a, b, Nat.lt_of_lt_of_le c hb⟩
  inj := h.inj
  blk := fun b v l hl => by
    obtain ⟨k, h1, h2⟩ := h.blk b v l hl
    exact ⟨k, h1, h2.mono (Ren.le_refl _) (fun _ => rfl) rfl fun v l hl => hs _ (h.dom b v l hl).2.2⟩

/-- The relation at a beginning: nothing is known of the memory that was there. -/
def Ren.start (S : Nat → Option Value) : Ren := ⟨fun _ _ => .none, fun _ => 0, S⟩

theorem HR.start (S : Nat → Option Value) (w : World) : HR w (Ren.start S) .empty w where
  old := fun _ _ => rfl
  big := Nat.le_refl _
  io := ⟨rfl, rfl⟩
  dom := fun _ _ _ h => by cases h
  inj := fun _ _ _ _ _ _ h => by cases h
  blk := fun _ _ _ h => by cases h

/-- Arguments that lead nowhere, or into the memory that was there. -/
theorem all2_closed {ρ : Ren} : ∀ {l : List Value}, l.all closedC = true → All2 (V ρ) l l
  | [], _ => .nil
  | x :: l, h => by
    simp only [List.all_cons, Bool.and_eq_true] at h
    exact .cons (.closed h.1) (all2_closed h.2)

def isTrue : Option (Value × Heap) → Bool
  | some (.bool true, _) => true
  | _ => false

theorem isTrue_inv {x : Option (Value × Heap)} (h : isTrue x = true) : ∃ H, x = some (.bool true, H) := by
  unfold isTrue at h
  split at h
  · exact ⟨_, rfl⟩
  · cases h

/-- What is said of a law at an input: it returns true, and the memory that was there stays. -/
def Holds (P : Program) (f : FuncId) (l : List Value) (w : World) : Prop :=
  Calls P f l.toArray w fun e w' => e = .returned (.bool true) ∧ (∀ r, r < w.heap.size → w'.heap[r]? = w.heap[r]?) ∧ w.heap.size ≤ w'.heap.size ∧ w'.os = w.os ∧ w'.output = w.output

section
variable {T : Tab} {P : Program} (ok : T.Ok P) (hm : P.follows .mixedOrders = true) (hname : ∀ f x, T.fn f = some x → (x.name == "runtime.NumGoroutine") = false) {w0 : World} (hprim : PrimOk T P w0)
include ok hm hname hprim

omit hm hprim in
/-- the machine enters what has a body -/
theorem callSim_enter {f : Nat} {fn : Func} (hf : T.fn f = some fn) (hb : fn.body.isNone = false) (args : Array Value) (w : World) : (callFunc f args).run P w = .ok (.enter f args) w := by
  simp only [callFunc, Sem.run_bind, run_program, Result.andThen_ok, ok.fn _ _ hf, hname _ _ hf, hb, Bool.false_eq_true, if_false, Sem.run_pure]

theorem holds_rel {lf k f : Nat} {fn : Func} {l l' : List Value} (hf : T.fn f = some fn) (hb : fn.body.isNone = false) (hl : All2 (V (Ren.start T.sym)) l l') (h : isTrue (evalCall T w0.cell? lf k f l .empty) = true) : Holds P f l' w0 := by
  obtain ⟨H', h⟩ := isTrue_inv h
  have key : ∀ {v' w'}, Out w0 (Ren.start T.sym) .empty (.bool true) H' v' w' → v' = .bool true ∧ (∀ r, r < w0.heap.size → w'.heap[r]? = w0.heap[r]?) ∧ w0.heap.size ≤ w'.heap.size ∧ w'.os = w0.os ∧ w'.output = w0.output := by
    rintro v' w' ⟨ρ', h1, h2, h3, _⟩
    exact ⟨h3.bool_inv, h2.old, h2.big, h2.io⟩
  rcases evalCall_sim ok hm hname hprim lf k f l .empty _ _ h (Ren.start T.sym) w0 l' rfl (HR.start _ w0) hl with ⟨_, h2⟩ | ⟨v', w', h1, _⟩
  · refine h2.mono fun e w' hh => ?_
    obtain ⟨v', rfl, hout⟩ := hh
    obtain ⟨rfl, a, b⟩ := key hout
    exact ⟨rfl, a, b⟩
  · rw [callSim_enter ok hname hf hb] at h1
    cases h1

theorem holds_of {lf k f : Nat} {fn : Func} {l : List Value} (hf : T.fn f = some fn) (hb : fn.body.isNone = false) (hp : T.prim f = none) (hl : l.all closedC = true) (h : isTrue (evalCall T w0.cell? lf k f l .empty) = true) : Holds P f l w0 :=
  holds_rel ok hm hname hprim hf hb (all2_closed hl) h
end


/-- 'f()' has been shown to be true: it may be passed over. -/
theorem pass0_sim {P : Program} {w0 : World} {f : Nat} {fn : Func} (hf : P.funcs[f]? = some fn) (hb : fn.body.isNone = false) (hn : (fn.name == "runtime.NumGoroutine") = false) (h : ∀ w, Holds P f [] w) : PrimSim P w0 f (pass0 (.bool true)) := by
  intro l H v H' hp ρ w l' hr hl
  cases l with
  | cons => simp [pass0] at hp
  | nil =>
    simp only [pass0, Option.some.injEq, Prod.mk.injEq] at hp
    obtain ⟨rfl, rfl⟩ := hp
    cases hl
    refine .inl ⟨?_, ?_⟩
    · simp only [callFunc, Sem.run_bind, run_program, Result.andThen_ok, hf, hn, hb, Bool.false_eq_true, if_false, Sem.run_pure]
    · refine (h w).mono ?_
      rintro e w' ⟨rfl, a, b, c⟩
      exact ⟨_, rfl, Out.same (hr.grow a b c) (.flat rfl)⟩

theorem passId_sim {P : Program} {w0 : World} {f : Nat} {fn : Func} (hf : P.funcs[f]? = some fn) (hb : fn.body.isNone = true) (hn : (fn.name == "runtime.NumGoroutine") = false) (h1 : (Extern.findNext fn).isNone = true) (h2 : Extern.find fn = some Extern.AbiNoEscape.same) : PrimSim P w0 f passId := by
  intro l H v H' hp ρ w l' hr hl
  cases hl with
  | nil => simp [passId] at hp
  | cons hx ht =>
    cases ht with
    | cons => simp [passId] at hp
    | nil =>
      simp only [passId, Option.some.injEq, Prod.mk.injEq] at hp
      obtain ⟨rfl, rfl⟩ := hp
      refine .inr ⟨_, w, ?_, Out.same hr hx⟩
      have h1 : Extern.findNext fn = none := by simpa using h1
      have hmk : (mark (.extern f)).run P w = .ok () w := rfl
      simp only [callFunc, Sem.run_bind, run_program, Result.andThen_ok, hf, hn, hb, Bool.false_eq_true, if_false, if_true, hmk, h1, h2, Sem.run_pure]
      rfl

/-- 'IndexByteString(s, c)': where the byte c stands first in the text s. -/
def passIbs : PrimT := fun _ l H => match l with
  | [.string s, .int .u8 c] => match (List.range s.size).find? fun i => s[i]! == c.toNat.toUInt8 with
    | some i => some (.int .i64 i, H)
    | none => some (.int .i64 (-1), H)
  | _ => none

theorem passIbs_sim {P : Program} {w0 : World} {f : Nat} {fn : Func} (hf : P.funcs[f]? = some fn) (hb : fn.body.isNone = true) (hn : (fn.name == "runtime.NumGoroutine") = false) (h1 : (Extern.findNext fn).isNone = true) (h2 : Extern.find fn = some Extern.BytealgIndexByte.indexByte) : PrimSim P w0 f passIbs := by
  intro l H v H' hp ρ w l' hr hl
  unfold passIbs at hp
  split at hp
  · rename_i s c
    cases hl with
    | cons hx ht =>
      cases ht with
      | cons hy ht2 =>
        cases ht2
        obtain rfl := hx.string_inv
        obtain rfl := hy.int_inv
        have h1 : Extern.findNext fn = none := by simpa using h1
        have hmk : (mark (.extern f)).run P w = .ok () w := rfl
        have key : ∀ x : Value, ((match (List.range s.size).find? fun i => s[i]! == c.toNat.toUInt8 with | some i => (pure (goInt i) : Sem Value) | none => pure (goInt (-1)))).run P w = .ok x w → flat x = true → (x = v ∧ H' = H) →
            CallSim P f [Value.string s, Value.int IntKind.u8 c].toArray w fun v' w' => Out w0 ρ H v H' v' w' := by
          rintro x hx hfl ⟨rfl, rfl⟩
          refine .inr ⟨x, w, ?_, Out.same hr (.flat hfl)⟩
          simp only [callFunc, Sem.run_bind, run_program, Result.andThen_ok, hf, hn, hb, Bool.false_eq_true, if_false, if_true, hmk, h1, h2, Sem.run_pure]
          show ((Extern.BytealgIndexByte.indexByte #[Value.string s, Value.int IntKind.u8 c]).run P w).andThen _ = _
          have : (Extern.BytealgIndexByte.indexByte #[Value.string s, Value.int IntKind.u8 c]).run P w = .ok x w := by
            exact hx
          rw [this]
          rfl
        cases hfi : (List.range s.size).find? fun i => s[i]! == c.toNat.toUInt8 with
        | some i =>
          rw [hfi] at hp; cases hp
          exact key _ (by rw [hfi]; rfl) rfl ⟨rfl, rfl⟩
        | none =>
          rw [hfi] at hp; cases hp
          exact key _ (by rw [hfi]; rfl) rfl ⟨rfl, rfl⟩
  · cases hp
end Go.Ev
