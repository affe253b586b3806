/-
  The table of this seat's program: its functions, its types, what is passed over.
-/
import Derived.Test.YtmmojhbboomgoaaGreatEvRow
import Derived.Test.YtmmojhbboomgoaaGreatEvArg
import Derived.Test.YtmmojhbboomgoaaGreatEvNum
import Derived.Test.YtmmojhbboomgoaaGreatEvWF
import Derived.Test.YtmmojhbboomgoaaGreatEvWS
import Derived.Test.YtmmojhbboomgoaaGreatRows
namespace Go.Proofs.YtmmojhbboomgoaaGreat
open Go.Ev
noncomputable def fs : Tr Func :=
  .nd (.some Tryz.f0) (.nd (.some Tryz.f1) (.nd (.some Tryz.f3) (.nd (.some Tryz.f7) (.nd (.some Tryz.f15) (.nd (.some Tryz.f31) (.nd (.some Tryz.f63) (.nd (.some Tryz.f127) (.lf) (.lf)) (.lf)) (.nd (.some Tryz.f95) (.lf) (.lf)))
  (.nd (.some Tryz.f47) (.nd (.some Tryz.f79) (.lf) (.lf)) (.nd (.some Tryz.f111) (.lf) (.lf)))) (.nd (.some Tryz.f23) (.nd (.some Tryz.f39) (.nd (.some Tryz.f71) (.lf) (.lf)) (.nd (.some Tryz.f103) (.lf) (.lf))) (.nd (.some
  Tryz.f55) (.nd (.some Tryz.f87) (.lf) (.lf)) (.nd (.some Tryz.f119) (.lf) (.lf))))) (.nd (.some Tryz.f11) (.nd (.some Tryz.f19) (.nd (.some Tryz.f35) (.nd (.some Tryz.f67) (.lf) (.lf)) (.nd (.some Tryz.f99) (.lf) (.lf))) (.nd
  (.some Tryz.f51) (.nd (.some Tryz.f83) (.lf) (.lf)) (.nd (.some Tryz.f115) (.lf) (.lf)))) (.nd (.some Tryz.f27) (.nd (.some Tryz.f43) (.nd (.some Tryz.f75) (.lf) (.lf)) (.nd (.some Tryz.f107) (.lf) (.lf))) (.nd (.some Tryz.f59)
  (.nd (.some Tryz.f91) (.lf) (.lf)) (.nd (.some Tryz.f123) (.lf) (.lf)))))) (.nd (.some Tryz.f5) (.nd (.some Tryz.f9) (.nd (.some Tryz.f17) (.nd (.some Tryz.f33) (.nd (.some Tryz.f65) (.lf) (.lf)) (.nd (.some Tryz.f97) (.lf)
  (.lf))) (.nd (.some Tryz.f49) (.nd (.some Tryz.f81) (.lf) (.lf)) (.nd (.some Tryz.f113) (.lf) (.lf)))) (.nd (.some Tryz.f25) (.nd (.some Tryz.f41) (.nd (.some Tryz.f73) (.lf) (.lf)) (.nd (.some Tryz.f105) (.lf) (.lf))) (.nd
  (.some Tryz.f57) (.nd (.some Tryz.f89) (.lf) (.lf)) (.nd (.some Tryz.f121) (.lf) (.lf))))) (.nd (.some Tryz.f13) (.nd (.some Tryz.f21) (.nd (.some Tryz.f37) (.nd (.some Tryz.f69) (.lf) (.lf)) (.nd (.some Tryz.f101) (.lf) (.lf)))
  (.nd (.some Tryz.f53) (.nd (.some Tryz.f85) (.lf) (.lf)) (.nd (.some Tryz.f117) (.lf) (.lf)))) (.nd (.some Tryz.f29) (.nd (.some Tryz.f45) (.nd (.some Tryz.f77) (.lf) (.lf)) (.nd (.some Tryz.f109) (.lf) (.lf))) (.nd (.some
  Tryz.f61) (.nd (.some Tryz.f93) (.lf) (.lf)) (.nd (.some Tryz.f125) (.lf) (.lf))))))) (.nd (.some Tryz.f2) (.nd (.some Tryz.f4) (.nd (.some Tryz.f8) (.nd (.some Tryz.f16) (.nd (.some Tryz.f32) (.nd (.some Tryz.f64) (.nd (.some
  Tryz.f128) (.lf) (.lf)) (.lf)) (.nd (.some Tryz.f96) (.lf) (.lf))) (.nd (.some Tryz.f48) (.nd (.some Tryz.f80) (.lf) (.lf)) (.nd (.some Tryz.f112) (.lf) (.lf)))) (.nd (.some Tryz.f24) (.nd (.some Tryz.f40) (.nd (.some Tryz.f72)
  (.lf) (.lf)) (.nd (.some Tryz.f104) (.lf) (.lf))) (.nd (.some Tryz.f56) (.nd (.some Tryz.f88) (.lf) (.lf)) (.nd (.some Tryz.f120) (.lf) (.lf))))) (.nd (.some Tryz.f12) (.nd (.some Tryz.f20) (.nd (.some Tryz.f36) (.nd (.some
  Tryz.f68) (.lf) (.lf)) (.nd (.some Tryz.f100) (.lf) (.lf))) (.nd (.some Tryz.f52) (.nd (.some Tryz.f84) (.lf) (.lf)) (.nd (.some Tryz.f116) (.lf) (.lf)))) (.nd (.some Tryz.f28) (.nd (.some Tryz.f44) (.nd (.some Tryz.f76) (.lf)
  (.lf)) (.nd (.some Tryz.f108) (.lf) (.lf))) (.nd (.some Tryz.f60) (.nd (.some Tryz.f92) (.lf) (.lf)) (.nd (.some Tryz.f124) (.lf) (.lf)))))) (.nd (.some Tryz.f6) (.nd (.some Tryz.f10) (.nd (.some Tryz.f18) (.nd (.some Tryz.f34)
  (.nd (.some Tryz.f66) (.lf) (.lf)) (.nd (.some Tryz.f98) (.lf) (.lf))) (.nd (.some Tryz.f50) (.nd (.some Tryz.f82) (.lf) (.lf)) (.nd (.some Tryz.f114) (.lf) (.lf)))) (.nd (.some Tryz.f26) (.nd (.some Tryz.f42) (.nd (.some
  Tryz.f74) (.lf) (.lf)) (.nd (.some Tryz.f106) (.lf) (.lf))) (.nd (.some Tryz.f58) (.nd (.some Tryz.f90) (.lf) (.lf)) (.nd (.some Tryz.f122) (.lf) (.lf))))) (.nd (.some Tryz.f14) (.nd (.some Tryz.f22) (.nd (.some Tryz.f38) (.nd
  (.some Tryz.f70) (.lf) (.lf)) (.nd (.some Tryz.f102) (.lf) (.lf))) (.nd (.some Tryz.f54) (.nd (.some Tryz.f86) (.lf) (.lf)) (.nd (.some Tryz.f118) (.lf) (.lf)))) (.nd (.some Tryz.f30) (.nd (.some Tryz.f46) (.nd (.some Tryz.f78)
  (.lf) (.lf)) (.nd (.some Tryz.f110) (.lf) (.lf))) (.nd (.some Tryz.f62) (.nd (.some Tryz.f94) (.lf) (.lf)) (.nd (.some Tryz.f126) (.lf) (.lf)))))))
noncomputable def ts : Tr TypeInfo :=
  .nd (.some Tryz.t0) (.nd (.some Tryz.t1) (.nd (.some Tryz.t3) (.nd (.some Tryz.t7) (.nd (.some Tryz.t15) (.nd (.some Tryz.t31) (.nd (.some Tryz.t63) (.nd (.some Tryz.t127) (.lf) (.lf)) (.lf)) (.nd (.some Tryz.t95) (.nd (.some
  Tryz.t159) (.lf) (.lf)) (.lf))) (.nd (.some Tryz.t47) (.nd (.some Tryz.t79) (.nd (.some Tryz.t143) (.lf) (.lf)) (.lf)) (.nd (.some Tryz.t111) (.nd (.some Tryz.t175) (.lf) (.lf)) (.lf)))) (.nd (.some Tryz.t23) (.nd (.some
  Tryz.t39) (.nd (.some Tryz.t71) (.nd (.some Tryz.t135) (.lf) (.lf)) (.lf)) (.nd (.some Tryz.t103) (.nd (.some Tryz.t167) (.lf) (.lf)) (.lf))) (.nd (.some Tryz.t55) (.nd (.some Tryz.t87) (.nd (.some Tryz.t151) (.lf) (.lf)) (.lf))
  (.nd (.some Tryz.t119) (.lf) (.lf))))) (.nd (.some Tryz.t11) (.nd (.some Tryz.t19) (.nd (.some Tryz.t35) (.nd (.some Tryz.t67) (.nd (.some Tryz.t131) (.lf) (.lf)) (.lf)) (.nd (.some Tryz.t99) (.nd (.some Tryz.t163) (.lf) (.lf))
  (.lf))) (.nd (.some Tryz.t51) (.nd (.some Tryz.t83) (.nd (.some Tryz.t147) (.lf) (.lf)) (.lf)) (.nd (.some Tryz.t115) (.nd (.some Tryz.t179) (.lf) (.lf)) (.lf)))) (.nd (.some Tryz.t27) (.nd (.some Tryz.t43) (.nd (.some Tryz.t75)
  (.nd (.some Tryz.t139) (.lf) (.lf)) (.lf)) (.nd (.some Tryz.t107) (.nd (.some Tryz.t171) (.lf) (.lf)) (.lf))) (.nd (.some Tryz.t59) (.nd (.some Tryz.t91) (.nd (.some Tryz.t155) (.lf) (.lf)) (.lf)) (.nd (.some Tryz.t123) (.lf)
  (.lf)))))) (.nd (.some Tryz.t5) (.nd (.some Tryz.t9) (.nd (.some Tryz.t17) (.nd (.some Tryz.t33) (.nd (.some Tryz.t65) (.nd (.some Tryz.t129) (.lf) (.lf)) (.lf)) (.nd (.some Tryz.t97) (.nd (.some Tryz.t161) (.lf) (.lf)) (.lf)))
  (.nd (.some Tryz.t49) (.nd (.some Tryz.t81) (.nd (.some Tryz.t145) (.lf) (.lf)) (.lf)) (.nd (.some Tryz.t113) (.nd (.some Tryz.t177) (.lf) (.lf)) (.lf)))) (.nd (.some Tryz.t25) (.nd (.some Tryz.t41) (.nd (.some Tryz.t73) (.nd
  (.some Tryz.t137) (.lf) (.lf)) (.lf)) (.nd (.some Tryz.t105) (.nd (.some Tryz.t169) (.lf) (.lf)) (.lf))) (.nd (.some Tryz.t57) (.nd (.some Tryz.t89) (.nd (.some Tryz.t153) (.lf) (.lf)) (.lf)) (.nd (.some Tryz.t121) (.lf)
  (.lf))))) (.nd (.some Tryz.t13) (.nd (.some Tryz.t21) (.nd (.some Tryz.t37) (.nd (.some Tryz.t69) (.nd (.some Tryz.t133) (.lf) (.lf)) (.lf)) (.nd (.some Tryz.t101) (.nd (.some Tryz.t165) (.lf) (.lf)) (.lf))) (.nd (.some Tryz.t53)
  (.nd (.some Tryz.t85) (.nd (.some Tryz.t149) (.lf) (.lf)) (.lf)) (.nd (.some Tryz.t117) (.nd (.some Tryz.t181) (.lf) (.lf)) (.lf)))) (.nd (.some Tryz.t29) (.nd (.some Tryz.t45) (.nd (.some Tryz.t77) (.nd (.some Tryz.t141) (.lf)
  (.lf)) (.lf)) (.nd (.some Tryz.t109) (.nd (.some Tryz.t173) (.lf) (.lf)) (.lf))) (.nd (.some Tryz.t61) (.nd (.some Tryz.t93) (.nd (.some Tryz.t157) (.lf) (.lf)) (.lf)) (.nd (.some Tryz.t125) (.lf) (.lf))))))) (.nd (.some
  Tryz.t2) (.nd (.some Tryz.t4) (.nd (.some Tryz.t8) (.nd (.some Tryz.t16) (.nd (.some Tryz.t32) (.nd (.some Tryz.t64) (.nd (.some Tryz.t128) (.lf) (.lf)) (.lf)) (.nd (.some Tryz.t96) (.nd (.some Tryz.t160) (.lf) (.lf)) (.lf))) (.nd
  (.some Tryz.t48) (.nd (.some Tryz.t80) (.nd (.some Tryz.t144) (.lf) (.lf)) (.lf)) (.nd (.some Tryz.t112) (.nd (.some Tryz.t176) (.lf) (.lf)) (.lf)))) (.nd (.some Tryz.t24) (.nd (.some Tryz.t40) (.nd (.some Tryz.t72) (.nd (.some
  Tryz.t136) (.lf) (.lf)) (.lf)) (.nd (.some Tryz.t104) (.nd (.some Tryz.t168) (.lf) (.lf)) (.lf))) (.nd (.some Tryz.t56) (.nd (.some Tryz.t88) (.nd (.some Tryz.t152) (.lf) (.lf)) (.lf)) (.nd (.some Tryz.t120) (.lf) (.lf))))) (.nd
  (.some Tryz.t12) (.nd (.some Tryz.t20) (.nd (.some Tryz.t36) (.nd (.some Tryz.t68) (.nd (.some Tryz.t132) (.lf) (.lf)) (.lf)) (.nd (.some Tryz.t100) (.nd (.some Tryz.t164) (.lf) (.lf)) (.lf))) (.nd (.some Tryz.t52) (.nd (.some
  Tryz.t84) (.nd (.some Tryz.t148) (.lf) (.lf)) (.lf)) (.nd (.some Tryz.t116) (.nd (.some Tryz.t180) (.lf) (.lf)) (.lf)))) (.nd (.some Tryz.t28) (.nd (.some Tryz.t44) (.nd (.some Tryz.t76) (.nd (.some Tryz.t140) (.lf) (.lf)) (.lf))
  (.nd (.some Tryz.t108) (.nd (.some Tryz.t172) (.lf) (.lf)) (.lf))) (.nd (.some Tryz.t60) (.nd (.some Tryz.t92) (.nd (.some Tryz.t156) (.lf) (.lf)) (.lf)) (.nd (.some Tryz.t124) (.lf) (.lf)))))) (.nd (.some Tryz.t6) (.nd (.some
  Tryz.t10) (.nd (.some Tryz.t18) (.nd (.some Tryz.t34) (.nd (.some Tryz.t66) (.nd (.some Tryz.t130) (.lf) (.lf)) (.lf)) (.nd (.some Tryz.t98) (.nd (.some Tryz.t162) (.lf) (.lf)) (.lf))) (.nd (.some Tryz.t50) (.nd (.some Tryz.t82)
  (.nd (.some Tryz.t146) (.lf) (.lf)) (.lf)) (.nd (.some Tryz.t114) (.nd (.some Tryz.t178) (.lf) (.lf)) (.lf)))) (.nd (.some Tryz.t26) (.nd (.some Tryz.t42) (.nd (.some Tryz.t74) (.nd (.some Tryz.t138) (.lf) (.lf)) (.lf)) (.nd
  (.some Tryz.t106) (.nd (.some Tryz.t170) (.lf) (.lf)) (.lf))) (.nd (.some Tryz.t58) (.nd (.some Tryz.t90) (.nd (.some Tryz.t154) (.lf) (.lf)) (.lf)) (.nd (.some Tryz.t122) (.lf) (.lf))))) (.nd (.some Tryz.t14) (.nd (.some
  Tryz.t22) (.nd (.some Tryz.t38) (.nd (.some Tryz.t70) (.nd (.some Tryz.t134) (.lf) (.lf)) (.lf)) (.nd (.some Tryz.t102) (.nd (.some Tryz.t166) (.lf) (.lf)) (.lf))) (.nd (.some Tryz.t54) (.nd (.some Tryz.t86) (.nd (.some Tryz.t150)
  (.lf) (.lf)) (.lf)) (.nd (.some Tryz.t118) (.lf) (.lf)))) (.nd (.some Tryz.t30) (.nd (.some Tryz.t46) (.nd (.some Tryz.t78) (.nd (.some Tryz.t142) (.lf) (.lf)) (.lf)) (.nd (.some Tryz.t110) (.nd (.some Tryz.t174) (.lf) (.lf))
  (.lf))) (.nd (.some Tryz.t62) (.nd (.some Tryz.t94) (.nd (.some Tryz.t158) (.lf) (.lf)) (.lf)) (.nd (.some Tryz.t126) (.lf) (.lf)))))))
def es : List Nat := [7, 8, 25, 26, 29, 30, 32, 33, 38, 39, 43, 44, 50, 51, 55, 56, 73, 74, 79, 80, 87, 88, 97, 98, 141, 142]
theorem fs_eq : fs = Tr.fill Tryz.prog.funcs.toList 0 .lf := by kernel_rfl
theorem ts_eq : ts = Tr.fill Tryz.prog.types.toList 0 .lf := by kernel_rfl
theorem es_ok : (es.all fun t => !Tryz.prog.stoodInHeld t && !Tryz.prog.eqGuardType Tryz.prog.depth t) = true := by kernel_rfl
theorem mixed : Tryz.prog.follows .mixedOrders = true := by kernel_rfl
theorem own : ownKnob Tryz.prog.godebug = none := by kernel_rfl
theorem names_ok : (Tryz.prog.funcs.toList.all fun x => !(x.name == "runtime.NumGoroutine")) = true := by kernel_rfl
theorem name_of {ps : List (Nat × PrimT)} {K : Know} (hK : K.Ok) (f : Nat) (x : Func) (h : (tabOf fs ts es ps K).fn f = some x) : (x.name == "runtime.NumGoroutine") = false := by
  have h := (tabOf_ok hK fs_eq ts_eq es_ok).fn f x h
  have hx : x ∈ Tryz.prog.funcs.toList := by
    rw [Array.mem_toList_iff]
    exact Array.mem_of_getElem? h
  have := List.all_eq_true.1 names_ok x hx
  simpa using this
theorem tab_ok (ps : List (Nat × PrimT)) {K : Know} (hK : K.Ok) : (tabOf fs ts es ps K).Ok Tryz.prog := tabOf_ok hK fs_eq ts_eq es_ok
def base : List (Nat × PrimT) := [(102, passId), (110, passIbs)]
theorem base_ok (w0 : World) : ∀ x ∈ base, PrimSim Tryz.prog w0 x.1 x.2 := by
  intro x hx
  simp only [base, List.mem_cons, List.not_mem_nil, or_false] at hx
  rcases hx with rfl | rfl
  · exact passId_sim (fn := Tryz.f102) (by kernel_rfl) (by kernel_rfl) (by kernel_rfl) (by kernel_rfl) (by kernel_rfl)
  · exact passIbs_sim (fn := Tryz.f110) (by kernel_rfl) (by kernel_rfl) (by kernel_rfl) (by kernel_rfl) (by kernel_rfl)
/-- 'bonsai/bonsailaw6.known' is true. -/
theorem known4_true (O : Addr → Option Value) : isTrue (evalCallF (tabOf fs ts es base Know.nil) O 100000 60 4 [] .empty) = true := by kernel_rfl
theorem known4 (w : World) : Holds Tryz.prog 4 [] w :=
  holds_of (tab_ok _ Know.nil_ok) mixed (name_of Know.nil_ok) (primOk_of (base_ok w)) (fn := Tryz.f4) (by kernel_rfl) (by kernel_rfl) (by kernel_rfl) rfl (by rw [← evalCallF_eq]; exact known4_true _)
def ps : List (Nat × PrimT) := (4, pass0 (.bool true)) :: base
theorem ps_ok (w0 : World) : ∀ x ∈ ps, PrimSim Tryz.prog w0 x.1 x.2 := by
  intro x hx
  simp only [ps, List.mem_cons] at hx
  rcases hx with rfl | hx
  · exact pass0_sim (fn := Tryz.f4) (by kernel_rfl) (by kernel_rfl) (by kernel_rfl) known4
  · exact base_ok w0 x hx
theorem law_rel {K : Know} (hK : K.Ok) {f lf k : Nat} {fn : Func} {l l' : List Value} {w : World} (hf : fs.get f = some fn) (hb : fn.body.isNone = false) (hl : All2 (V (Ren.start K.sym)) l l') (h : isTrue (evalCallF (tabOf fs ts es ps K) w.cell? lf k f l .empty) = true) : Holds Tryz.prog f l' w :=
  holds_rel (tab_ok _ hK) mixed (name_of hK) (primOk_of (ps_ok w)) hf hb hl (by rw [← evalCallF_eq]; exact h)
/-- the table of the walks -/
noncomputable def TT : Tab := tabOf fs ts es ps Know.nil
theorem law_walk {f : Nat} {fn : Func} {l : List Value} {w : World} (hf : fs.get f = some fn) (hb : fn.body.isNone = false) (hp : primAt ps f = none) (hl : l.all closedC = true) (h : Wk.CallC TT w.cell? f l .empty fun v _ => v = .bool true) : Holds Tryz.prog f l w :=
  Wk.holds_walk (T := TT) (tab_ok _ Know.nil_ok) mixed (name_of Know.nil_ok) (primOk_of (ps_ok w)) hf hb hp hl h
end Go.Proofs.YtmmojhbboomgoaaGreat
