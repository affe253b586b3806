/-
  The table of this seat's program: its functions, its types, what is passed over.
-/
import Derived.Test.YtmmojhbboomgoaaEvRow
import Derived.Test.YtmmojhbboomgoaaEvArg
import Derived.Test.YtmmojhbboomgoaaEvNum
import Derived.Test.YtmmojhbboomgoaaEvWF
import Derived.Test.YtmmojhbboomgoaaEvWS
import Derived.Test.YtmmojhbboomgoaaRows
namespace Go.Proofs.Ytmmojhbboomgoaa
open Go.Ev
noncomputable def fs : Tr Func :=
  .nd (.some Try.f0) (.nd (.some Try.f1) (.nd (.some Try.f3) (.nd (.some Try.f7) (.nd (.some Try.f15) (.nd (.some Try.f31) (.nd (.some Try.f63) (.lf) (.lf)) (.lf)) (.nd (.some Try.f47) (.nd (.some Try.f79) (.lf) (.lf))
  (.lf))) (.nd (.some Try.f23) (.nd (.some Try.f39) (.nd (.some Try.f71) (.lf) (.lf)) (.lf)) (.nd (.some Try.f55) (.lf) (.lf)))) (.nd (.some Try.f11) (.nd (.some Try.f19) (.nd (.some Try.f35) (.nd (.some Try.f67) (.lf)
  (.lf)) (.lf)) (.nd (.some Try.f51) (.nd (.some Try.f83) (.lf) (.lf)) (.lf))) (.nd (.some Try.f27) (.nd (.some Try.f43) (.nd (.some Try.f75) (.lf) (.lf)) (.lf)) (.nd (.some Try.f59) (.lf) (.lf))))) (.nd (.some Try.f5) (.nd
  (.some Try.f9) (.nd (.some Try.f17) (.nd (.some Try.f33) (.nd (.some Try.f65) (.lf) (.lf)) (.lf)) (.nd (.some Try.f49) (.nd (.some Try.f81) (.lf) (.lf)) (.lf))) (.nd (.some Try.f25) (.nd (.some Try.f41) (.nd (.some
  Try.f73) (.lf) (.lf)) (.lf)) (.nd (.some Try.f57) (.lf) (.lf)))) (.nd (.some Try.f13) (.nd (.some Try.f21) (.nd (.some Try.f37) (.nd (.some Try.f69) (.lf) (.lf)) (.lf)) (.nd (.some Try.f53) (.nd (.some Try.f85) (.lf)
  (.lf)) (.lf))) (.nd (.some Try.f29) (.nd (.some Try.f45) (.nd (.some Try.f77) (.lf) (.lf)) (.lf)) (.nd (.some Try.f61) (.lf) (.lf)))))) (.nd (.some Try.f2) (.nd (.some Try.f4) (.nd (.some Try.f8) (.nd (.some Try.f16) (.nd
  (.some Try.f32) (.nd (.some Try.f64) (.lf) (.lf)) (.lf)) (.nd (.some Try.f48) (.nd (.some Try.f80) (.lf) (.lf)) (.lf))) (.nd (.some Try.f24) (.nd (.some Try.f40) (.nd (.some Try.f72) (.lf) (.lf)) (.lf)) (.nd (.some
  Try.f56) (.lf) (.lf)))) (.nd (.some Try.f12) (.nd (.some Try.f20) (.nd (.some Try.f36) (.nd (.some Try.f68) (.lf) (.lf)) (.lf)) (.nd (.some Try.f52) (.nd (.some Try.f84) (.lf) (.lf)) (.lf))) (.nd (.some Try.f28) (.nd
  (.some Try.f44) (.nd (.some Try.f76) (.lf) (.lf)) (.lf)) (.nd (.some Try.f60) (.lf) (.lf))))) (.nd (.some Try.f6) (.nd (.some Try.f10) (.nd (.some Try.f18) (.nd (.some Try.f34) (.nd (.some Try.f66) (.lf) (.lf)) (.lf))
  (.nd (.some Try.f50) (.nd (.some Try.f82) (.lf) (.lf)) (.lf))) (.nd (.some Try.f26) (.nd (.some Try.f42) (.nd (.some Try.f74) (.lf) (.lf)) (.lf)) (.nd (.some Try.f58) (.lf) (.lf)))) (.nd (.some Try.f14) (.nd (.some
  Try.f22) (.nd (.some Try.f38) (.nd (.some Try.f70) (.lf) (.lf)) (.lf)) (.nd (.some Try.f54) (.lf) (.lf))) (.nd (.some Try.f30) (.nd (.some Try.f46) (.nd (.some Try.f78) (.lf) (.lf)) (.lf)) (.nd (.some Try.f62) (.lf)
  (.lf))))))
noncomputable def ts : Tr TypeInfo :=
  .nd (.some Try.t0) (.nd (.some Try.t1) (.nd (.some Try.t3) (.nd (.some Try.t7) (.nd (.some Try.t15) (.nd (.some Try.t31) (.nd (.some Try.t63) (.nd (.some Try.t127) (.lf) (.lf)) (.lf)) (.nd (.some Try.t95) (.lf) (.lf)))
  (.nd (.some Try.t47) (.nd (.some Try.t79) (.nd (.some Try.t143) (.lf) (.lf)) (.lf)) (.nd (.some Try.t111) (.lf) (.lf)))) (.nd (.some Try.t23) (.nd (.some Try.t39) (.nd (.some Try.t71) (.nd (.some Try.t135) (.lf) (.lf))
  (.lf)) (.nd (.some Try.t103) (.lf) (.lf))) (.nd (.some Try.t55) (.nd (.some Try.t87) (.lf) (.lf)) (.nd (.some Try.t119) (.lf) (.lf))))) (.nd (.some Try.t11) (.nd (.some Try.t19) (.nd (.some Try.t35) (.nd (.some Try.t67)
  (.nd (.some Try.t131) (.lf) (.lf)) (.lf)) (.nd (.some Try.t99) (.lf) (.lf))) (.nd (.some Try.t51) (.nd (.some Try.t83) (.nd (.some Try.t147) (.lf) (.lf)) (.lf)) (.nd (.some Try.t115) (.lf) (.lf)))) (.nd (.some Try.t27)
  (.nd (.some Try.t43) (.nd (.some Try.t75) (.nd (.some Try.t139) (.lf) (.lf)) (.lf)) (.nd (.some Try.t107) (.lf) (.lf))) (.nd (.some Try.t59) (.nd (.some Try.t91) (.lf) (.lf)) (.nd (.some Try.t123) (.lf) (.lf)))))) (.nd
  (.some Try.t5) (.nd (.some Try.t9) (.nd (.some Try.t17) (.nd (.some Try.t33) (.nd (.some Try.t65) (.nd (.some Try.t129) (.lf) (.lf)) (.lf)) (.nd (.some Try.t97) (.lf) (.lf))) (.nd (.some Try.t49) (.nd (.some Try.t81) (.nd
  (.some Try.t145) (.lf) (.lf)) (.lf)) (.nd (.some Try.t113) (.lf) (.lf)))) (.nd (.some Try.t25) (.nd (.some Try.t41) (.nd (.some Try.t73) (.nd (.some Try.t137) (.lf) (.lf)) (.lf)) (.nd (.some Try.t105) (.lf) (.lf))) (.nd
  (.some Try.t57) (.nd (.some Try.t89) (.lf) (.lf)) (.nd (.some Try.t121) (.lf) (.lf))))) (.nd (.some Try.t13) (.nd (.some Try.t21) (.nd (.some Try.t37) (.nd (.some Try.t69) (.nd (.some Try.t133) (.lf) (.lf)) (.lf)) (.nd
  (.some Try.t101) (.lf) (.lf))) (.nd (.some Try.t53) (.nd (.some Try.t85) (.lf) (.lf)) (.nd (.some Try.t117) (.lf) (.lf)))) (.nd (.some Try.t29) (.nd (.some Try.t45) (.nd (.some Try.t77) (.nd (.some Try.t141) (.lf) (.lf))
  (.lf)) (.nd (.some Try.t109) (.lf) (.lf))) (.nd (.some Try.t61) (.nd (.some Try.t93) (.lf) (.lf)) (.nd (.some Try.t125) (.lf) (.lf))))))) (.nd (.some Try.t2) (.nd (.some Try.t4) (.nd (.some Try.t8) (.nd (.some Try.t16)
  (.nd (.some Try.t32) (.nd (.some Try.t64) (.nd (.some Try.t128) (.lf) (.lf)) (.lf)) (.nd (.some Try.t96) (.lf) (.lf))) (.nd (.some Try.t48) (.nd (.some Try.t80) (.nd (.some Try.t144) (.lf) (.lf)) (.lf)) (.nd (.some
  Try.t112) (.lf) (.lf)))) (.nd (.some Try.t24) (.nd (.some Try.t40) (.nd (.some Try.t72) (.nd (.some Try.t136) (.lf) (.lf)) (.lf)) (.nd (.some Try.t104) (.lf) (.lf))) (.nd (.some Try.t56) (.nd (.some Try.t88) (.lf) (.lf))
  (.nd (.some Try.t120) (.lf) (.lf))))) (.nd (.some Try.t12) (.nd (.some Try.t20) (.nd (.some Try.t36) (.nd (.some Try.t68) (.nd (.some Try.t132) (.lf) (.lf)) (.lf)) (.nd (.some Try.t100) (.lf) (.lf))) (.nd (.some Try.t52)
  (.nd (.some Try.t84) (.nd (.some Try.t148) (.lf) (.lf)) (.lf)) (.nd (.some Try.t116) (.lf) (.lf)))) (.nd (.some Try.t28) (.nd (.some Try.t44) (.nd (.some Try.t76) (.nd (.some Try.t140) (.lf) (.lf)) (.lf)) (.nd (.some
  Try.t108) (.lf) (.lf))) (.nd (.some Try.t60) (.nd (.some Try.t92) (.lf) (.lf)) (.nd (.some Try.t124) (.lf) (.lf)))))) (.nd (.some Try.t6) (.nd (.some Try.t10) (.nd (.some Try.t18) (.nd (.some Try.t34) (.nd (.some Try.t66)
  (.nd (.some Try.t130) (.lf) (.lf)) (.lf)) (.nd (.some Try.t98) (.lf) (.lf))) (.nd (.some Try.t50) (.nd (.some Try.t82) (.nd (.some Try.t146) (.lf) (.lf)) (.lf)) (.nd (.some Try.t114) (.lf) (.lf)))) (.nd (.some Try.t26)
  (.nd (.some Try.t42) (.nd (.some Try.t74) (.nd (.some Try.t138) (.lf) (.lf)) (.lf)) (.nd (.some Try.t106) (.lf) (.lf))) (.nd (.some Try.t58) (.nd (.some Try.t90) (.lf) (.lf)) (.nd (.some Try.t122) (.lf) (.lf))))) (.nd
  (.some Try.t14) (.nd (.some Try.t22) (.nd (.some Try.t38) (.nd (.some Try.t70) (.nd (.some Try.t134) (.lf) (.lf)) (.lf)) (.nd (.some Try.t102) (.lf) (.lf))) (.nd (.some Try.t54) (.nd (.some Try.t86) (.lf) (.lf)) (.nd
  (.some Try.t118) (.lf) (.lf)))) (.nd (.some Try.t30) (.nd (.some Try.t46) (.nd (.some Try.t78) (.nd (.some Try.t142) (.lf) (.lf)) (.lf)) (.nd (.some Try.t110) (.lf) (.lf))) (.nd (.some Try.t62) (.nd (.some Try.t94) (.lf)
  (.lf)) (.nd (.some Try.t126) (.lf) (.lf)))))))
def es : List Nat := [7, 8, 26, 27, 33, 34, 38, 39, 40, 41, 47, 48, 51, 52, 56, 57, 66, 67, 69, 70, 75, 76, 78, 79, 100, 101, 113, 114]
theorem fs_eq : fs = Tr.fill Try.prog.funcs.toList 0 .lf := by kernel_rfl
theorem ts_eq : ts = Tr.fill Try.prog.types.toList 0 .lf := by kernel_rfl
theorem es_ok : (es.all fun t => !Try.prog.stoodInHeld t && !Try.prog.eqGuardType Try.prog.depth t) = true := by kernel_rfl
theorem mixed : Try.prog.follows .mixedOrders = true := by kernel_rfl
theorem own : ownKnob Try.prog.godebug = none := by kernel_rfl
theorem names_ok : (Try.prog.funcs.toList.all fun x => !(x.name == "runtime.NumGoroutine")) = true := by kernel_rfl
theorem name_of {ps : List (Nat × PrimT)} {K : Know} (hK : K.Ok) (f : Nat) (x : Func) (h : (tabOf fs ts es ps K).fn f = some x) : (x.name == "runtime.NumGoroutine") = false := by
  have h := (tabOf_ok hK fs_eq ts_eq es_ok).fn f x h
  have hx : x ∈ Try.prog.funcs.toList := by
    rw [Array.mem_toList_iff]
    exact Array.mem_of_getElem? h
  have := List.all_eq_true.1 names_ok x hx
  simpa using this
theorem tab_ok (ps : List (Nat × PrimT)) {K : Know} (hK : K.Ok) : (tabOf fs ts es ps K).Ok Try.prog := tabOf_ok hK fs_eq ts_eq es_ok
def base : List (Nat × PrimT) := [(61, passId), (67, passIbs)]
theorem base_ok (w0 : World) : ∀ x ∈ base, PrimSim Try.prog w0 x.1 x.2 := by
  intro x hx
  simp only [base, List.mem_cons, List.not_mem_nil, or_false] at hx
  rcases hx with rfl | rfl
  · exact passId_sim (fn := Try.f61) (by kernel_rfl) (by kernel_rfl) (by kernel_rfl) (by kernel_rfl) (by kernel_rfl)
  · exact passIbs_sim (fn := Try.f67) (by kernel_rfl) (by kernel_rfl) (by kernel_rfl) (by kernel_rfl) (by kernel_rfl)
/-- 'bonsai/bonsailaw25.known' is true. -/
theorem known4_true (O : Addr → Option Value) : isTrue (evalCallF (tabOf fs ts es base Know.nil) O 100000 60 4 [] .empty) = true := by kernel_rfl
theorem known4 (w : World) : Holds Try.prog 4 [] w :=
  holds_of (tab_ok _ Know.nil_ok) mixed (name_of Know.nil_ok) (primOk_of (base_ok w)) (fn := Try.f4) (by kernel_rfl) (by kernel_rfl) (by kernel_rfl) rfl (by rw [← evalCallF_eq]; exact known4_true _)
def ps : List (Nat × PrimT) := (4, pass0 (.bool true)) :: base
theorem ps_ok (w0 : World) : ∀ x ∈ ps, PrimSim Try.prog w0 x.1 x.2 := by
  intro x hx
  simp only [ps, List.mem_cons] at hx
  rcases hx with rfl | hx
  · exact pass0_sim (fn := Try.f4) (by kernel_rfl) (by kernel_rfl) (by kernel_rfl) known4
  · exact base_ok w0 x hx
theorem law_rel {K : Know} (hK : K.Ok) {f lf k : Nat} {fn : Func} {l l' : List Value} {w : World} (hf : fs.get f = some fn) (hb : fn.body.isNone = false) (hl : All2 (V (Ren.start K.sym)) l l') (h : isTrue (evalCallF (tabOf fs ts es ps K) w.cell? lf k f l .empty) = true) : Holds Try.prog f l' w :=
  holds_rel (tab_ok _ hK) mixed (name_of hK) (primOk_of (ps_ok w)) hf hb hl (by rw [← evalCallF_eq]; exact h)
/-- the table of the walks -/
noncomputable def TT : Tab := tabOf fs ts es ps Know.nil
theorem law_walk {f : Nat} {fn : Func} {l : List Value} {w : World} (hf : fs.get f = some fn) (hb : fn.body.isNone = false) (hp : primAt ps f = none) (hl : l.all closedC = true) (h : Wk.CallC TT w.cell? f l .empty fun v _ => v = .bool true) : Holds Try.prog f l w :=
  Wk.holds_walk (T := TT) (tab_ok _ Know.nil_ok) mixed (name_of Know.nil_ok) (primOk_of (ps_ok w)) hf hb hp hl h
end Go.Proofs.Ytmmojhbboomgoaa
