/-
  An operation hangs on its own operands alone.
-/
import Derived.Test.YtmmojhbboomgoaaGreatEvRun
namespace Go.Ev
set_option linter.unusedSimpArgs false
set_option linter.unusedVariables false

theorem args_congr {e e' : Operand → Option Value} : ∀ {l : List Operand}, (∀ x ∈ l, e x = e' x) → args e l = args e' l
  | [], _ => rfl
  | x :: l, h => by
    simp only [args]
    rw [h x (by simp), args_congr fun y hy => h y (by simp [hy])]

theorem parts_congr {e e' : Operand → Option Value} : ∀ {l : List (Nat × Operand)}, (∀ p ∈ l, e p.2 = e' p.2) → parts e l = parts e' l
  | [], _ => rfl
  | (i, x) :: l, h => by
    simp only [parts]
    rw [h (i, x) (by simp), parts_congr fun y hy => h y (by simp [hy])]

theorem optV_congr {e e' : Operand → Option Value} {x : Option Operand} (h : ∀ y ∈ x.toArray, e y = e' y) : optV e x = optV e' x := by
  cases x with
  | none => rfl
  | some y => simp only [optV]; rw [h y (by simp)]

theorem opP_congr {T : Tab} {e e' : Operand → Option Value} {op : Op} (h : ∀ x ∈ op.operands, e x = e' x) : opP T e op = opP T e' op := by
  cases op <;> simp only [opP] <;> simp only [Op.operands, Call.operands] at h
  case move x => exact h x (by simp)
  case assign x => exact h x (by simp)
  case pick c a b => rw [h c (by simp), h a (by simp), h b (by simp)]
  case build t ps => rw [parts_congr fun p hp => h p.2 (by simp; exact ⟨p.1, by simpa using hp⟩)]
  case nilCheck x => rw [h x (by simp)]
  case binOp op t x y yt => rw [h x (by simp), h y (by simp)]
  case unOp op t x => rw [h x (by simp)]
  case makeInterface t x => rw [h x (by simp)]
  case makeFunc fn first captured => rw [args_congr fun y hy => h y (by simp at hy; simp [hy]), args_congr (l := captured.toList) fun y hy => h y (by simp at hy; simp [hy])]
  case fieldAddr t x i => rw [h x (by simp)]
  case field t x i => rw [h x (by simp)]
  case indexAddr t x i => rw [h x (by simp), h i (by simp)]
  case index t x i => rw [h x (by simp), h i (by simp)]
  case extract x i => rw [h x (by simp)]

theorem opL_congr {T : Tab} {O : Old} {H : Heap} {e e' : Operand → Option Value} {op : Op} (h : ∀ x ∈ op.operands, e x = e' x) : opL T O H e op = opL T O H e' op := by
  cases op
  case load t a => simp only [opL]; rw [h a (by simp [Op.operands])]
  case slice t x lo hi mx =>
    simp only [opL]
    simp only [Op.operands] at h
    rw [h x (by simp), optV_congr fun y hy => h y (by simp at hy ⊢; simp [hy]), optV_congr (x := hi) fun y hy => h y (by simp at hy ⊢; simp [hy]), optV_congr (x := mx) fun y hy => h y (by simp at hy ⊢; simp [hy])]
  case lookup t m k c => simp only [opL]; rw [h m (by simp [Op.operands]), h k (by simp [Op.operands])]
  case convert s d x => simp only [opL]; rw [h x (by simp [Op.operands])]
  case call c =>
    obtain ⟨callee, xa, ts⟩ := c
    cases callee with
    | value f => rfl
    | invoke r m => rfl
    | builtin b =>
      simp only [Op.operands, Call.operands] at h
      have ha : args e xa.toList = args e' xa.toList := args_congr fun y hy => h y (by simpa using hy)
      cases b
      case len =>
        have key : ∀ l, xa.toList = l → opL T O H e (.call { callee := .builtin .len, args := xa, argTypes := ts }) = opL T O H e' (.call { callee := .builtin .len, args := xa, argTypes := ts }) := by
          intro l hx
          simp only [opL, hx]
          cases l with
          | nil => rfl
          | cons x l =>
            cases l with
            | nil =>
              have : e x = e' x := h x (by
                have : x ∈ xa.toList := by rw [hx]; simp
                simpa using this)
              cases ts.toList with
              | nil => rfl
              | cons t l => simp only [this]
            | cons y l => rfl
        exact key _ rfl
      case max => simp only [opL, ha]
      case min => simp only [opL, ha]
      case unsafeSliceData => simp only [opL, ha]
      all_goals rfl
  all_goals rfl

theorem opA_congr {T : Tab} {H : Heap} {e e' : Operand → Option Value} {op : Op} (h : ∀ x ∈ op.operands, e x = e' x) : opA T H e op = opA T H e' op := by
  cases op
  case alloc t => rfl
  case box t x => simp only [opA]; rw [h x (by simp [Op.operands])]
  case buildSlice t n ps =>
    simp only [opA]
    simp only [Op.operands] at h
    rw [parts_congr fun p hp => h p.2 (by simp; exact ⟨p.1, by simpa using hp⟩)]
  case makeMap t r => rfl
  case makeSlice t l c => simp only [opA]; rw [h l (by simp [Op.operands]), h c (by simp [Op.operands])]
  case convert s d x => simp only [opA]; rw [h x (by simp [Op.operands])]
  all_goals rfl

theorem opW_congr {T : Tab} {O : Old} {call : Ev.Call} {H : Heap} {e e' : Operand → Option Value} {op : Op} (h : ∀ x ∈ op.operands, e x = e' x) : opW T O call H e op = opW T O call H e' op := by
  cases op
  case store t a x => simp only [opW]; rw [h a (by simp [Op.operands]), h x (by simp [Op.operands])]
  case mapUpdate t m k x => simp only [opW]; rw [h m (by simp [Op.operands]), h k (by simp [Op.operands]), h x (by simp [Op.operands])]
  case insert t m k x => simp only [opW]; rw [h m (by simp [Op.operands]), h k (by simp [Op.operands]), h x (by simp [Op.operands])]
  case call c =>
    obtain ⟨callee, xa, ts⟩ := c
    simp only [Op.operands, Call.operands] at h
    have hm : ∀ x ∈ xa.toList, e x = e' x := fun x hx => h x (by simp at hx; simp [hx])
    have ha : args e xa.toList = args e' xa.toList := args_congr hm
    cases callee with
    | value f =>
      simp only [opW]
      rw [ha, h f (by simp)]
    | invoke r m => rfl
    | builtin b =>
      have two : ∀ {x y : Operand}, xa.toList = [x, y] → e x = e' x ∧ e y = e' y := fun {x y} hx => ⟨hm x (by rw [hx]; simp), hm y (by rw [hx]; simp)⟩
      cases b
      case append =>
        have key : ∀ l, xa.toList = l → opW T O call H e (.call { callee := .builtin .append, args := xa, argTypes := ts }) = opW T O call H e' (.call { callee := .builtin .append, args := xa, argTypes := ts }) := by
          intro l hx
          simp only [opW, hx]
          match l with
          | [] => rfl
          | [x] => rfl
          | [x, y] =>
            have h1 := (two hx).1
            have h2 := (two hx).2
            rcases ts.toList with _ | ⟨t, _ | ⟨u, _ | ⟨z, l⟩⟩⟩ <;> first | rfl | simp only [h1, h2]
          | x :: y :: z :: l => rfl
        exact key _ rfl
      case copy =>
        have key : ∀ l, xa.toList = l → opW T O call H e (.call { callee := .builtin .copy, args := xa, argTypes := ts }) = opW T O call H e' (.call { callee := .builtin .copy, args := xa, argTypes := ts }) := by
          intro l hx
          simp only [opW, hx]
          match l with
          | [] => rfl
          | [x] => rfl
          | [x, y] =>
            have h1 := (two hx).1
            have h2 := (two hx).2
            rcases ts.toList with _ | ⟨t, _ | ⟨u, _ | ⟨z, l⟩⟩⟩ <;> first | rfl | simp only [h1, h2]
          | x :: y :: z :: l => rfl
        exact key _ rfl
      case clear => simp only [opW, ha]
      case unsafeString => simp only [opW, ha]
      all_goals rfl
  all_goals rfl

theorem evalOp_congr {T : Tab} {O : Old} {call : Ev.Call} {H : Heap} {e e' : Operand → Option Value} {o : Oper} (h : ∀ x ∈ o.op.operands, e x = e' x) : evalOp T O call e o H = evalOp T O call e' o H := by
  unfold evalOp
  rw [opP_congr h, opL_congr h, opA_congr h, opW_congr h]
end Go.Ev
