/-
  Lemmas for the laws of this seat.
-/
import Derived.Test.YtlhkndjloeoodaaGreatK3
import Derived.Test.YtlhkndjloeoodaaGreatK4
import Derived.Test.YtlhkndjloeoodaaGreatRows
set_option linter.unusedVariables false
set_option linter.unusedSimpArgs false
namespace Go.Proofs.YtlhkndjloeoodaaGreat
open Go.Ev
noncomputable def fs : Tr Func :=
  .nd (.some Tryz.f0) (.nd (.some Tryz.f1) (.nd (.some Tryz.f3) (.nd (.some Tryz.f7) (.nd (.some Tryz.f15) (.nd (.some Tryz.f31) (.nd (.some Tryz.f63) (.nd (.some Tryz.f127) (.lf) (.lf)) (.nd (.some Tryz.f191) (.lf) (.lf))) (.nd
  (.some Tryz.f95) (.nd (.some Tryz.f159) (.lf) (.lf)) (.nd (.some Tryz.f223) (.lf) (.lf)))) (.nd (.some Tryz.f47) (.nd (.some Tryz.f79) (.nd (.some Tryz.f143) (.lf) (.lf)) (.nd (.some Tryz.f207) (.lf) (.lf))) (.nd (.some
  Tryz.f111) (.nd (.some Tryz.f175) (.lf) (.lf)) (.lf)))) (.nd (.some Tryz.f23) (.nd (.some Tryz.f39) (.nd (.some Tryz.f71) (.nd (.some Tryz.f135) (.lf) (.lf)) (.nd (.some Tryz.f199) (.lf) (.lf))) (.nd (.some Tryz.f103) (.nd (.some
  Tryz.f167) (.lf) (.lf)) (.lf))) (.nd (.some Tryz.f55) (.nd (.some Tryz.f87) (.nd (.some Tryz.f151) (.lf) (.lf)) (.nd (.some Tryz.f215) (.lf) (.lf))) (.nd (.some Tryz.f119) (.nd (.some Tryz.f183) (.lf) (.lf)) (.lf))))) (.nd
  (.some Tryz.f11) (.nd (.some Tryz.f19) (.nd (.some Tryz.f35) (.nd (.some Tryz.f67) (.nd (.some Tryz.f131) (.lf) (.lf)) (.nd (.some Tryz.f195) (.lf) (.lf))) (.nd (.some Tryz.f99) (.nd (.some Tryz.f163) (.lf) (.lf)) (.lf))) (.nd
  (.some Tryz.f51) (.nd (.some Tryz.f83) (.nd (.some Tryz.f147) (.lf) (.lf)) (.nd (.some Tryz.f211) (.lf) (.lf))) (.nd (.some Tryz.f115) (.nd (.some Tryz.f179) (.lf) (.lf)) (.lf)))) (.nd (.some Tryz.f27) (.nd (.some Tryz.f43) (.nd
  (.some Tryz.f75) (.nd (.some Tryz.f139) (.lf) (.lf)) (.nd (.some Tryz.f203) (.lf) (.lf))) (.nd (.some Tryz.f107) (.nd (.some Tryz.f171) (.lf) (.lf)) (.lf))) (.nd (.some Tryz.f59) (.nd (.some Tryz.f91) (.nd (.some Tryz.f155) (.lf)
  (.lf)) (.nd (.some Tryz.f219) (.lf) (.lf))) (.nd (.some Tryz.f123) (.nd (.some Tryz.f187) (.lf) (.lf)) (.lf)))))) (.nd (.some Tryz.f5) (.nd (.some Tryz.f9) (.nd (.some Tryz.f17) (.nd (.some Tryz.f33) (.nd (.some Tryz.f65) (.nd
  (.some Tryz.f129) (.lf) (.lf)) (.nd (.some Tryz.f193) (.lf) (.lf))) (.nd (.some Tryz.f97) (.nd (.some Tryz.f161) (.lf) (.lf)) (.nd (.some Tryz.f225) (.lf) (.lf)))) (.nd (.some Tryz.f49) (.nd (.some Tryz.f81) (.nd (.some
  Tryz.f145) (.lf) (.lf)) (.nd (.some Tryz.f209) (.lf) (.lf))) (.nd (.some Tryz.f113) (.nd (.some Tryz.f177) (.lf) (.lf)) (.lf)))) (.nd (.some Tryz.f25) (.nd (.some Tryz.f41) (.nd (.some Tryz.f73) (.nd (.some Tryz.f137) (.lf)
  (.lf)) (.nd (.some Tryz.f201) (.lf) (.lf))) (.nd (.some Tryz.f105) (.nd (.some Tryz.f169) (.lf) (.lf)) (.lf))) (.nd (.some Tryz.f57) (.nd (.some Tryz.f89) (.nd (.some Tryz.f153) (.lf) (.lf)) (.nd (.some Tryz.f217) (.lf) (.lf)))
  (.nd (.some Tryz.f121) (.nd (.some Tryz.f185) (.lf) (.lf)) (.lf))))) (.nd (.some Tryz.f13) (.nd (.some Tryz.f21) (.nd (.some Tryz.f37) (.nd (.some Tryz.f69) (.nd (.some Tryz.f133) (.lf) (.lf)) (.nd (.some Tryz.f197) (.lf) (.lf)))
  (.nd (.some Tryz.f101) (.nd (.some Tryz.f165) (.lf) (.lf)) (.lf))) (.nd (.some Tryz.f53) (.nd (.some Tryz.f85) (.nd (.some Tryz.f149) (.lf) (.lf)) (.nd (.some Tryz.f213) (.lf) (.lf))) (.nd (.some Tryz.f117) (.nd (.some Tryz.f181)
  (.lf) (.lf)) (.lf)))) (.nd (.some Tryz.f29) (.nd (.some Tryz.f45) (.nd (.some Tryz.f77) (.nd (.some Tryz.f141) (.lf) (.lf)) (.nd (.some Tryz.f205) (.lf) (.lf))) (.nd (.some Tryz.f109) (.nd (.some Tryz.f173) (.lf) (.lf)) (.lf)))
  (.nd (.some Tryz.f61) (.nd (.some Tryz.f93) (.nd (.some Tryz.f157) (.lf) (.lf)) (.nd (.some Tryz.f221) (.lf) (.lf))) (.nd (.some Tryz.f125) (.nd (.some Tryz.f189) (.lf) (.lf)) (.lf))))))) (.nd (.some Tryz.f2) (.nd (.some Tryz.f4)
  (.nd (.some Tryz.f8) (.nd (.some Tryz.f16) (.nd (.some Tryz.f32) (.nd (.some Tryz.f64) (.nd (.some Tryz.f128) (.lf) (.lf)) (.nd (.some Tryz.f192) (.lf) (.lf))) (.nd (.some Tryz.f96) (.nd (.some Tryz.f160) (.lf) (.lf)) (.nd (.some
  Tryz.f224) (.lf) (.lf)))) (.nd (.some Tryz.f48) (.nd (.some Tryz.f80) (.nd (.some Tryz.f144) (.lf) (.lf)) (.nd (.some Tryz.f208) (.lf) (.lf))) (.nd (.some Tryz.f112) (.nd (.some Tryz.f176) (.lf) (.lf)) (.lf)))) (.nd (.some
  Tryz.f24) (.nd (.some Tryz.f40) (.nd (.some Tryz.f72) (.nd (.some Tryz.f136) (.lf) (.lf)) (.nd (.some Tryz.f200) (.lf) (.lf))) (.nd (.some Tryz.f104) (.nd (.some Tryz.f168) (.lf) (.lf)) (.lf))) (.nd (.some Tryz.f56) (.nd (.some
  Tryz.f88) (.nd (.some Tryz.f152) (.lf) (.lf)) (.nd (.some Tryz.f216) (.lf) (.lf))) (.nd (.some Tryz.f120) (.nd (.some Tryz.f184) (.lf) (.lf)) (.lf))))) (.nd (.some Tryz.f12) (.nd (.some Tryz.f20) (.nd (.some Tryz.f36) (.nd (.some
  Tryz.f68) (.nd (.some Tryz.f132) (.lf) (.lf)) (.nd (.some Tryz.f196) (.lf) (.lf))) (.nd (.some Tryz.f100) (.nd (.some Tryz.f164) (.lf) (.lf)) (.lf))) (.nd (.some Tryz.f52) (.nd (.some Tryz.f84) (.nd (.some Tryz.f148) (.lf) (.lf))
  (.nd (.some Tryz.f212) (.lf) (.lf))) (.nd (.some Tryz.f116) (.nd (.some Tryz.f180) (.lf) (.lf)) (.lf)))) (.nd (.some Tryz.f28) (.nd (.some Tryz.f44) (.nd (.some Tryz.f76) (.nd (.some Tryz.f140) (.lf) (.lf)) (.nd (.some Tryz.f204)
  (.lf) (.lf))) (.nd (.some Tryz.f108) (.nd (.some Tryz.f172) (.lf) (.lf)) (.lf))) (.nd (.some Tryz.f60) (.nd (.some Tryz.f92) (.nd (.some Tryz.f156) (.lf) (.lf)) (.nd (.some Tryz.f220) (.lf) (.lf))) (.nd (.some Tryz.f124) (.nd
  (.some Tryz.f188) (.lf) (.lf)) (.lf)))))) (.nd (.some Tryz.f6) (.nd (.some Tryz.f10) (.nd (.some Tryz.f18) (.nd (.some Tryz.f34) (.nd (.some Tryz.f66) (.nd (.some Tryz.f130) (.lf) (.lf)) (.nd (.some Tryz.f194) (.lf) (.lf))) (.nd
  (.some Tryz.f98) (.nd (.some Tryz.f162) (.lf) (.lf)) (.lf))) (.nd (.some Tryz.f50) (.nd (.some Tryz.f82) (.nd (.some Tryz.f146) (.lf) (.lf)) (.nd (.some Tryz.f210) (.lf) (.lf))) (.nd (.some Tryz.f114) (.nd (.some Tryz.f178) (.lf)
  (.lf)) (.lf)))) (.nd (.some Tryz.f26) (.nd (.some Tryz.f42) (.nd (.some Tryz.f74) (.nd (.some Tryz.f138) (.lf) (.lf)) (.nd (.some Tryz.f202) (.lf) (.lf))) (.nd (.some Tryz.f106) (.nd (.some Tryz.f170) (.lf) (.lf)) (.lf))) (.nd
  (.some Tryz.f58) (.nd (.some Tryz.f90) (.nd (.some Tryz.f154) (.lf) (.lf)) (.nd (.some Tryz.f218) (.lf) (.lf))) (.nd (.some Tryz.f122) (.nd (.some Tryz.f186) (.lf) (.lf)) (.lf))))) (.nd (.some Tryz.f14) (.nd (.some Tryz.f22) (.nd
  (.some Tryz.f38) (.nd (.some Tryz.f70) (.nd (.some Tryz.f134) (.lf) (.lf)) (.nd (.some Tryz.f198) (.lf) (.lf))) (.nd (.some Tryz.f102) (.nd (.some Tryz.f166) (.lf) (.lf)) (.lf))) (.nd (.some Tryz.f54) (.nd (.some Tryz.f86) (.nd
  (.some Tryz.f150) (.lf) (.lf)) (.nd (.some Tryz.f214) (.lf) (.lf))) (.nd (.some Tryz.f118) (.nd (.some Tryz.f182) (.lf) (.lf)) (.lf)))) (.nd (.some Tryz.f30) (.nd (.some Tryz.f46) (.nd (.some Tryz.f78) (.nd (.some Tryz.f142)
  (.lf) (.lf)) (.nd (.some Tryz.f206) (.lf) (.lf))) (.nd (.some Tryz.f110) (.nd (.some Tryz.f174) (.lf) (.lf)) (.lf))) (.nd (.some Tryz.f62) (.nd (.some Tryz.f94) (.nd (.some Tryz.f158) (.lf) (.lf)) (.nd (.some Tryz.f222) (.lf)
  (.lf))) (.nd (.some Tryz.f126) (.nd (.some Tryz.f190) (.lf) (.lf)) (.lf)))))))
noncomputable def ts : Tr TypeInfo :=
  .nd (.some Tryz.t0) (.nd (.some Tryz.t1) (.nd (.some Tryz.t3) (.nd (.some Tryz.t7) (.nd (.some Tryz.t15) (.nd (.some Tryz.t31) (.nd (.some Tryz.t63) (.nd (.some Tryz.t127) (.lf) (.lf)) (.nd (.some Tryz.t191) (.lf) (.lf))) (.nd
  (.some Tryz.t95) (.nd (.some Tryz.t159) (.lf) (.lf)) (.nd (.some Tryz.t223) (.lf) (.lf)))) (.nd (.some Tryz.t47) (.nd (.some Tryz.t79) (.nd (.some Tryz.t143) (.lf) (.lf)) (.nd (.some Tryz.t207) (.lf) (.lf))) (.nd (.some
  Tryz.t111) (.nd (.some Tryz.t175) (.lf) (.lf)) (.nd (.some Tryz.t239) (.lf) (.lf))))) (.nd (.some Tryz.t23) (.nd (.some Tryz.t39) (.nd (.some Tryz.t71) (.nd (.some Tryz.t135) (.lf) (.lf)) (.nd (.some Tryz.t199) (.lf) (.lf))) (.nd
  (.some Tryz.t103) (.nd (.some Tryz.t167) (.lf) (.lf)) (.nd (.some Tryz.t231) (.lf) (.lf)))) (.nd (.some Tryz.t55) (.nd (.some Tryz.t87) (.nd (.some Tryz.t151) (.lf) (.lf)) (.nd (.some Tryz.t215) (.lf) (.lf))) (.nd (.some
  Tryz.t119) (.nd (.some Tryz.t183) (.lf) (.lf)) (.nd (.some Tryz.t247) (.lf) (.lf)))))) (.nd (.some Tryz.t11) (.nd (.some Tryz.t19) (.nd (.some Tryz.t35) (.nd (.some Tryz.t67) (.nd (.some Tryz.t131) (.lf) (.lf)) (.nd (.some
  Tryz.t195) (.lf) (.lf))) (.nd (.some Tryz.t99) (.nd (.some Tryz.t163) (.lf) (.lf)) (.nd (.some Tryz.t227) (.lf) (.lf)))) (.nd (.some Tryz.t51) (.nd (.some Tryz.t83) (.nd (.some Tryz.t147) (.lf) (.lf)) (.nd (.some Tryz.t211) (.lf)
  (.lf))) (.nd (.some Tryz.t115) (.nd (.some Tryz.t179) (.lf) (.lf)) (.nd (.some Tryz.t243) (.lf) (.lf))))) (.nd (.some Tryz.t27) (.nd (.some Tryz.t43) (.nd (.some Tryz.t75) (.nd (.some Tryz.t139) (.lf) (.lf)) (.nd (.some
  Tryz.t203) (.lf) (.lf))) (.nd (.some Tryz.t107) (.nd (.some Tryz.t171) (.lf) (.lf)) (.nd (.some Tryz.t235) (.lf) (.lf)))) (.nd (.some Tryz.t59) (.nd (.some Tryz.t91) (.nd (.some Tryz.t155) (.lf) (.lf)) (.nd (.some Tryz.t219)
  (.lf) (.lf))) (.nd (.some Tryz.t123) (.nd (.some Tryz.t187) (.lf) (.lf)) (.nd (.some Tryz.t251) (.lf) (.lf))))))) (.nd (.some Tryz.t5) (.nd (.some Tryz.t9) (.nd (.some Tryz.t17) (.nd (.some Tryz.t33) (.nd (.some Tryz.t65) (.nd
  (.some Tryz.t129) (.lf) (.lf)) (.nd (.some Tryz.t193) (.lf) (.lf))) (.nd (.some Tryz.t97) (.nd (.some Tryz.t161) (.lf) (.lf)) (.nd (.some Tryz.t225) (.lf) (.lf)))) (.nd (.some Tryz.t49) (.nd (.some Tryz.t81) (.nd (.some
  Tryz.t145) (.lf) (.lf)) (.nd (.some Tryz.t209) (.lf) (.lf))) (.nd (.some Tryz.t113) (.nd (.some Tryz.t177) (.lf) (.lf)) (.nd (.some Tryz.t241) (.lf) (.lf))))) (.nd (.some Tryz.t25) (.nd (.some Tryz.t41) (.nd (.some Tryz.t73) (.nd
  (.some Tryz.t137) (.lf) (.lf)) (.nd (.some Tryz.t201) (.lf) (.lf))) (.nd (.some Tryz.t105) (.nd (.some Tryz.t169) (.lf) (.lf)) (.nd (.some Tryz.t233) (.lf) (.lf)))) (.nd (.some Tryz.t57) (.nd (.some Tryz.t89) (.nd (.some
  Tryz.t153) (.lf) (.lf)) (.nd (.some Tryz.t217) (.lf) (.lf))) (.nd (.some Tryz.t121) (.nd (.some Tryz.t185) (.lf) (.lf)) (.nd (.some Tryz.t249) (.lf) (.lf)))))) (.nd (.some Tryz.t13) (.nd (.some Tryz.t21) (.nd (.some Tryz.t37)
  (.nd (.some Tryz.t69) (.nd (.some Tryz.t133) (.lf) (.lf)) (.nd (.some Tryz.t197) (.lf) (.lf))) (.nd (.some Tryz.t101) (.nd (.some Tryz.t165) (.lf) (.lf)) (.nd (.some Tryz.t229) (.lf) (.lf)))) (.nd (.some Tryz.t53) (.nd (.some
  Tryz.t85) (.nd (.some Tryz.t149) (.lf) (.lf)) (.nd (.some Tryz.t213) (.lf) (.lf))) (.nd (.some Tryz.t117) (.nd (.some Tryz.t181) (.lf) (.lf)) (.nd (.some Tryz.t245) (.lf) (.lf))))) (.nd (.some Tryz.t29) (.nd (.some Tryz.t45) (.nd
  (.some Tryz.t77) (.nd (.some Tryz.t141) (.lf) (.lf)) (.nd (.some Tryz.t205) (.lf) (.lf))) (.nd (.some Tryz.t109) (.nd (.some Tryz.t173) (.lf) (.lf)) (.nd (.some Tryz.t237) (.lf) (.lf)))) (.nd (.some Tryz.t61) (.nd (.some
  Tryz.t93) (.nd (.some Tryz.t157) (.lf) (.lf)) (.nd (.some Tryz.t221) (.lf) (.lf))) (.nd (.some Tryz.t125) (.nd (.some Tryz.t189) (.lf) (.lf)) (.nd (.some Tryz.t253) (.lf) (.lf)))))))) (.nd (.some Tryz.t2) (.nd (.some Tryz.t4)
  (.nd (.some Tryz.t8) (.nd (.some Tryz.t16) (.nd (.some Tryz.t32) (.nd (.some Tryz.t64) (.nd (.some Tryz.t128) (.lf) (.lf)) (.nd (.some Tryz.t192) (.lf) (.lf))) (.nd (.some Tryz.t96) (.nd (.some Tryz.t160) (.lf) (.lf)) (.nd (.some
  Tryz.t224) (.lf) (.lf)))) (.nd (.some Tryz.t48) (.nd (.some Tryz.t80) (.nd (.some Tryz.t144) (.lf) (.lf)) (.nd (.some Tryz.t208) (.lf) (.lf))) (.nd (.some Tryz.t112) (.nd (.some Tryz.t176) (.lf) (.lf)) (.nd (.some Tryz.t240)
  (.lf) (.lf))))) (.nd (.some Tryz.t24) (.nd (.some Tryz.t40) (.nd (.some Tryz.t72) (.nd (.some Tryz.t136) (.lf) (.lf)) (.nd (.some Tryz.t200) (.lf) (.lf))) (.nd (.some Tryz.t104) (.nd (.some Tryz.t168) (.lf) (.lf)) (.nd (.some
  Tryz.t232) (.lf) (.lf)))) (.nd (.some Tryz.t56) (.nd (.some Tryz.t88) (.nd (.some Tryz.t152) (.lf) (.lf)) (.nd (.some Tryz.t216) (.lf) (.lf))) (.nd (.some Tryz.t120) (.nd (.some Tryz.t184) (.lf) (.lf)) (.nd (.some Tryz.t248)
  (.lf) (.lf)))))) (.nd (.some Tryz.t12) (.nd (.some Tryz.t20) (.nd (.some Tryz.t36) (.nd (.some Tryz.t68) (.nd (.some Tryz.t132) (.lf) (.lf)) (.nd (.some Tryz.t196) (.lf) (.lf))) (.nd (.some Tryz.t100) (.nd (.some Tryz.t164) (.lf)
  (.lf)) (.nd (.some Tryz.t228) (.lf) (.lf)))) (.nd (.some Tryz.t52) (.nd (.some Tryz.t84) (.nd (.some Tryz.t148) (.lf) (.lf)) (.nd (.some Tryz.t212) (.lf) (.lf))) (.nd (.some Tryz.t116) (.nd (.some Tryz.t180) (.lf) (.lf)) (.nd
  (.some Tryz.t244) (.lf) (.lf))))) (.nd (.some Tryz.t28) (.nd (.some Tryz.t44) (.nd (.some Tryz.t76) (.nd (.some Tryz.t140) (.lf) (.lf)) (.nd (.some Tryz.t204) (.lf) (.lf))) (.nd (.some Tryz.t108) (.nd (.some Tryz.t172) (.lf)
  (.lf)) (.nd (.some Tryz.t236) (.lf) (.lf)))) (.nd (.some Tryz.t60) (.nd (.some Tryz.t92) (.nd (.some Tryz.t156) (.lf) (.lf)) (.nd (.some Tryz.t220) (.lf) (.lf))) (.nd (.some Tryz.t124) (.nd (.some Tryz.t188) (.lf) (.lf)) (.nd
  (.some Tryz.t252) (.lf) (.lf))))))) (.nd (.some Tryz.t6) (.nd (.some Tryz.t10) (.nd (.some Tryz.t18) (.nd (.some Tryz.t34) (.nd (.some Tryz.t66) (.nd (.some Tryz.t130) (.lf) (.lf)) (.nd (.some Tryz.t194) (.lf) (.lf))) (.nd (.some
  Tryz.t98) (.nd (.some Tryz.t162) (.lf) (.lf)) (.nd (.some Tryz.t226) (.lf) (.lf)))) (.nd (.some Tryz.t50) (.nd (.some Tryz.t82) (.nd (.some Tryz.t146) (.lf) (.lf)) (.nd (.some Tryz.t210) (.lf) (.lf))) (.nd (.some Tryz.t114) (.nd
  (.some Tryz.t178) (.lf) (.lf)) (.nd (.some Tryz.t242) (.lf) (.lf))))) (.nd (.some Tryz.t26) (.nd (.some Tryz.t42) (.nd (.some Tryz.t74) (.nd (.some Tryz.t138) (.lf) (.lf)) (.nd (.some Tryz.t202) (.lf) (.lf))) (.nd (.some
  Tryz.t106) (.nd (.some Tryz.t170) (.lf) (.lf)) (.nd (.some Tryz.t234) (.lf) (.lf)))) (.nd (.some Tryz.t58) (.nd (.some Tryz.t90) (.nd (.some Tryz.t154) (.lf) (.lf)) (.nd (.some Tryz.t218) (.lf) (.lf))) (.nd (.some Tryz.t122) (.nd
  (.some Tryz.t186) (.lf) (.lf)) (.nd (.some Tryz.t250) (.lf) (.lf)))))) (.nd (.some Tryz.t14) (.nd (.some Tryz.t22) (.nd (.some Tryz.t38) (.nd (.some Tryz.t70) (.nd (.some Tryz.t134) (.lf) (.lf)) (.nd (.some Tryz.t198) (.lf)
  (.lf))) (.nd (.some Tryz.t102) (.nd (.some Tryz.t166) (.lf) (.lf)) (.nd (.some Tryz.t230) (.lf) (.lf)))) (.nd (.some Tryz.t54) (.nd (.some Tryz.t86) (.nd (.some Tryz.t150) (.lf) (.lf)) (.nd (.some Tryz.t214) (.lf) (.lf))) (.nd
  (.some Tryz.t118) (.nd (.some Tryz.t182) (.lf) (.lf)) (.nd (.some Tryz.t246) (.lf) (.lf))))) (.nd (.some Tryz.t30) (.nd (.some Tryz.t46) (.nd (.some Tryz.t78) (.nd (.some Tryz.t142) (.lf) (.lf)) (.nd (.some Tryz.t206) (.lf)
  (.lf))) (.nd (.some Tryz.t110) (.nd (.some Tryz.t174) (.lf) (.lf)) (.nd (.some Tryz.t238) (.lf) (.lf)))) (.nd (.some Tryz.t62) (.nd (.some Tryz.t94) (.nd (.some Tryz.t158) (.lf) (.lf)) (.nd (.some Tryz.t222) (.lf) (.lf))) (.nd
  (.some Tryz.t126) (.nd (.some Tryz.t190) (.lf) (.lf)) (.lf)))))))
def es : List Nat := [7, 8, 23, 24, 51, 52, 54, 55, 58, 59, 60, 61, 62, 63, 65, 66, 90, 91, 92, 93, 96, 97, 109, 110, 122, 123, 127, 128, 132, 133, 152, 153, 160, 161, 221, 222]
def base : List (Nat × PrimT) := [(201, passId), (207, passIbs)]
def ps : List (Nat × PrimT) := base
noncomputable def TT : Tab := tabOf fs ts es ps Know.nil
end Go.Proofs.YtlhkndjloeoodaaGreat
namespace Go.Ev.Wk
section
variable {T : Tab} {O : Old} {X : List Nat} {H0 : Heap} {N : Nat} {E : Env} {L : Atoms}
def ResS (T : Tab) (O : Old) (X : List Nat) (H0 : Heap) (E : Env) (L : Atoms) : List ResultVar → List Value → Prop
  | [], [] => True
  | .tmp t :: l, v :: r => look E t = some v ∧ ResS T O X H0 E L l r
  | .cell a t :: l, v :: r => (∀ H, St X H0 H L → opL T O H (lk E) (.load t (.tmp a)) = some v) ∧ ResS T O X H0 E L l r
  | _, _ => False
theorem resS_ok {τ : Tr Value} {H : Heap} (h : Sub E τ) (hs : St X H0 H L) : ∀ {l : List ResultVar} {r : List Value}, ResS T O X H0 E L l r → resV T O τ H l = some r
  | [], [], _ => rfl
  | .tmp t :: l, v :: r, ⟨h1, h2⟩ => by
    simp only [resV]
    rw [h t v h1, resS_ok h hs h2]
  | .cell a t :: l, v :: r, ⟨h1, h2⟩ => by
    have h3 := h1 H hs
    simp only [opL] at h3
    cases hl : look E a with
    | none => rw [show lk E (.tmp a) = look E a from rfl, hl] at h3; cases h3
    | some p =>
      rw [show lk E (.tmp a) = look E a from rfl, hl] at h3
      simp only [resV]
      rw [h a p hl, resS_ok h hs h2]
      simp only at h3
      simp only [h3]
  | [], _ :: _, h => h.elim
  | .tmp _ :: _, [], h => h.elim
  | .cell _ _ :: _, [], h => h.elim
def endM (T : Tab) (O : Old) (X : List Nat) (H0 : Heap) (res : List ResultVar) (Q : Value → Atoms → Prop) (ex : Ex) (E : Env) (L : Atoms) : Prop :=
  (match ex with | .exit _ => False | _ => True) ∧ ∃ vs, ResS T O X H0 E L res vs ∧ Q (oneOf vs) L
theorem call_introM {f : Nat} {fn : Func} {c : Code} {l : List Value} {H : Heap} {Q : Value → Atoms → Prop} (hp : T.prim f = none) (hf : T.fn f = some fn) (hb : fn.body = some c) (hn : Nat.ble l.length fn.ntmps = true)
    (hst : St X H0 H L) {E0 : Env} (he : enumN l 0 = some E0) (h : ExecS T O X H0 fn.ntmps c E0 L (endM T O X H0 fn.results.toList Q)) : CallC T O f l H fun v H' => ∃ L', St X H0 H' L' ∧ Q v L' := by
  obtain rfl := enumN_eq he
  obtain ⟨lf, k, ex, τ', H', E', L', h1, h2, h3, hnx, h4, vs, h5, h6⟩ := h.run H hst _ (enumE_sub l)
  refine ⟨lf, k + 1, oneOf vs, H', ?_, hnx, L', h3, h6⟩
  simp only [evalCall, hp, hf, hb, hn, cond_true, h1]
  cases ex with
  | normal => simp only [resS_ok h2 h3 h5]
  | ret => simp only [resS_ok h2 h3 h5]
  | exit i => exact h4.elim
theorem call_pureM {f : Nat} {fn : Func} {c : Code} {l : List Value} {E0 : Env} {H : Heap} {V : Value} (hp : T.prim f = none) (hf : T.fn f = some fn) (hb : fn.body = some c) (hn : Nat.ble l.length fn.ntmps = true)
    (he : enumN l 0 = some E0) (h : ExecS T O [] H fn.ntmps c E0 [] (endM T O [] H fn.results.toList fun v _ => v = V)) : CallC T O f l H fun v H' => v = V ∧ Ext H H' :=
  (call_introM hp hf hb hn (St.start H) he h).mono fun v H' ⟨L', h1, h2⟩ => ⟨h2, h1.ext⟩
theorem call_fpM {f : Nat} {fn : Func} {c : Code} {l : List Value} {E0 : Env} {H : Heap} {F : Atoms} {R : Value → Atoms → Prop} (hp : T.prim f = none) (hf : T.fn f = some fn) (hb : fn.body = some c) (hn : Nat.ble l.length fn.ntmps = true) (he : enumN l 0 = some E0)
    (hst : St (blksOf F) H H F) (h : ExecS T O (blksOf F) H fn.ntmps c E0 F (endM T O (blksOf F) H fn.results.toList fun v L' => ∃ F' R', L'.Perm (F' ++ R') ∧ R v F')) : FpC T O f l H F R :=
  (call_introM hp hf hb hn hst he h).mono fun v H' ⟨L', h1, F', R', hp, h2⟩ => ⟨F', (h1.perm hp).sublist (List.sublist_append_left _ _), h2⟩
theorem PL.eqStrs {o : Oper} {t yt : Nat} {x y : Operand} {a b : List UInt8} (ho : o.op = .binOp .eql t x y yt) (hx : lk E x = some (str a)) (hy : lk E y = some (str b)) : PL T O X H0 E L o (.bool (decide (a = b))) := by
  refine .p (by rw [ho]; rfl) ?_
  rw [ho]
  simp only [opP, hx, hy, binV, strOp]
  by_cases h : a = b
  · subst h; simp
  · rw [decide_eq_false h, show (a == b) = false from beq_eq_false_iff_ne.2 h]
theorem ba_get {l : List UInt8} {i : Nat} (h : i < l.length) : (⟨⟨l⟩⟩ : ByteArray)[i]! = l[i] := by
  rw [getElem!_pos (⟨⟨l⟩⟩ : ByteArray) i h]; rfl
theorem find_ba (l : List UInt8) (c : UInt8) : ((List.range l.length).find? fun i => (⟨⟨l⟩⟩ : ByteArray)[i]! == c) = l.findIdx? (· == c) := by
  cases h : l.findIdx? (· == c) with
  | none =>
    rw [List.find?_range_eq_none]
    intro i hi
    rw [ba_get hi]
    have := List.findIdx?_eq_none_iff.1 h l[i] (List.getElem_mem hi)
    simp [this]
  | some i =>
    obtain ⟨hi, h1, h2⟩ := List.findIdx?_eq_some_iff_getElem.1 h
    rw [List.find?_range_eq_some]
    refine ⟨by rw [ba_get hi]; exact h1, List.mem_range.2 hi, fun j hj => ?_⟩
    rw [ba_get (by omega)]
    have := h2 j hj
    simpa using this
theorem call_ibs {f : Nat} {l : List UInt8} {c : UInt8} {n : Int} {H : Heap} (hp : T.prim f = some passIbs) (hn : n = (c.toNat : Int)) : CallC T O f [str l, .int .u8 n] H fun v H' => v = .int .i64 (match l.findIdx? (· == c) with | some i => (i : Int) | none => -1) ∧ Ext H H' := by
  subst hn
  refine call_prim hp (v := .int .i64 (match l.findIdx? (· == c) with | some i => (i : Int) | none => -1)) (H' := H) ?_ (Nat.le_refl _) ⟨rfl, ExtBut.refl _ _⟩
  have e : ((c.toNat : Int).toNat).toUInt8 = c := by simp
  show (match (List.range (⟨⟨l⟩⟩ : ByteArray).size).find? fun i => (⟨⟨l⟩⟩ : ByteArray)[i]! == ((c.toNat : Int).toNat).toUInt8 with | some i => some (Value.int .i64 i, H) | none => some (.int .i64 (-1), H)) = _
  rw [e, show (⟨⟨l⟩⟩ : ByteArray).size = l.length from rfl, find_ba]
  cases l.findIdx? (· == c) <;> rfl
end
end Go.Ev.Wk
namespace Go.Ev.Wk
def Keep (X : List Nat) (H0 : Heap) (P : Heap → Prop) : Prop := ∀ H', ExtBut X H0 H' → P H'
def Rd (Z : Atoms) (P : Heap → Prop) : Prop := ∀ (X : List Nat) (H0 H : Heap), St X H0 H Z → P H
section
variable {T : Tab} {O : Old} {X : List Nat} {H0 : Heap} {N : Nat} {E : Env} {L : Atoms} {P Q : Heap → Prop}
theorem Keep.at {H : Heap} (h : Keep X H0 P) (hs : St X H0 H L) : P H := h H hs.ext
theorem Keep.mono (h : Keep X H0 P) (f : ∀ H, P H → Q H) : Keep X H0 Q := fun H' e => f _ (h H' e)
theorem St.extF {H H' : Heap} {F R : Atoms} (hst : St X H0 H (F ++ R)) (e : ExtBut (blksOf F) H H') : ExtBut X H0 H' :=
  ⟨Nat.le_trans hst.ext.next e.next, fun b hb hx => by
    rw [e.same b (Nat.lt_of_lt_of_le hb hst.ext.next) ?_]
    · exact hst.ext.same b hb hx
    · intro hm
      obtain ⟨c, hc⟩ := mem_blksOf.1 hm
      rcases (hst.own b c (List.mem_append.2 (.inl hc))).1 with h1 | h1
      · omega
      · exact hx h1⟩
theorem Keep.base {H : Heap} {F R : Atoms} (h : Keep X H0 P) (hst : St X H0 H (F ++ R)) : Keep (blksOf F) H P := fun H' e => h H' (hst.extF e)
theorem Keep.pure {H : Heap} (h : Keep X H0 P) (hst : St X H0 H L) : Keep [] H P := fun H' e => h H' (hst.ext.trans (Ext.to e))
theorem St.restF {H H' : Heap} {F R : Atoms} (hst : St X H0 H (F ++ R)) (e : ExtBut (blksOf F) H H') : St (blksOf F ++ X) H0 H' R := by
  refine ⟨⟨Nat.le_trans hst.ext.next e.next, fun b hb hX => ?_⟩, fun b c hm => ?_, fun b c hm => ?_, (List.pairwise_append.1 hst.nodup).2.1⟩
  · simp only [List.mem_append, not_or] at hX
    rw [e.same b (Nat.lt_of_lt_of_le hb hst.ext.next) hX.1]
    exact hst.ext.same b hb hX.2
  · exact (hst.has b c (List.mem_append.2 (.inr hm))).congr (e.same b (hst.own b c (List.mem_append.2 (.inr hm))).2 (hst.apart hm))
  · obtain ⟨h1, h2⟩ := hst.own b c (List.mem_append.2 (.inr hm))
    exact ⟨h1.imp id fun h => List.mem_append.2 (.inr h), Nat.lt_of_lt_of_le h2 e.next⟩
theorem Rd.at {H : Heap} {Z : Atoms} (h : Rd Z P) (hst : St X H0 H Z) : P H := h _ _ _ hst
theorem Rd.mono {Z Z' : Atoms} (h : Rd Z P) (s : Z.Sublist Z') : Rd Z' P := fun X H0 H hst => h X H0 H (hst.sublist s)
theorem Rd.keep {H : Heap} {F R : Atoms} (h : Rd R P) (hst : St X H0 H (F ++ R)) : Keep (blksOf F) H P := fun H' e => h _ _ _ (hst.restF e)
theorem Rd.pure {H : Heap} (h : Rd L P) (hst : St X H0 H L) : Keep [] H P := fun H' e => h _ _ _ (hst.extend e)
theorem Rd.has {b : Nat} {c : Cont} {Z : Atoms} (h : (some b, c) ∈ Z) : Rd Z fun H => Has H b c := fun _ _ _ hst => hst.has _ _ h
theorem Rd.own {z ty n c : Nat} {a : Option Addr} {l : List Value} {p : Option Nat × Cont} {Z : Atoms} (h : OwnA z ty a n c l p) (hp : p ∈ Z) : Rd Z fun H => Sl O H (.slice a n c) z n l := fun _ _ _ hst => h.slM hst hp
theorem Rd.sl {b ver n z ty i : Nat} {l : List Value} {Z : Atoms} (hi : Z[i]? = some (some b, .cells ver l z ty)) (hl : l.length = n * z) (cap : Nat) : Rd Z fun H => Sl O H (.slice (some ⟨b, 0, some ver⟩) n cap) z n l := fun _ _ _ hst => Sl.own hst hi hl cap
def pickE (E : Env) : List Nat → Option Env
  | [] => some []
  | k :: ks => match look E k with
    | some v => match pickE E ks with
      | some r => some ((k, v) :: r)
      | none => none
    | none => none
theorem pickE_sub {E : Env} : ∀ {ks : List Nat} {E' : Env}, pickE E ks = some E' → SubE E' E
  | [], _, h => by cases h; trivial
  | k :: ks, E', h => by
    simp only [pickE] at h
    cases hk : look E k with
    | none => rw [hk] at h; cases h
    | some v =>
      rw [hk] at h
      cases hr : pickE E ks with
      | none => rw [hr] at h; cases h
      | some r =>
        rw [hr] at h
        cases h
        exact ⟨hk, pickE_sub hr⟩
def pickL : Atoms → List Bool → Option Atoms
  | _, [] => some []
  | [], _ :: _ => none
  | a :: l, b :: bs => match pickL l bs with
    | some r => match b with
      | true => some (a :: r)
      | false => some r
    | none => none
theorem pickL_sub : ∀ {l : Atoms} {bs : List Bool} {l' : Atoms}, pickL l bs = some l' → l'.Sublist l
  | l, [], _, h => by cases l <;> (simp only [pickL] at h; cases h; exact List.nil_sublist _)
  | [], _ :: _, _, h => by cases h
  | a :: l, b :: bs, l', h => by
    simp only [pickL] at h
    cases hr : pickL l bs with
    | none => rw [hr] at h; cases h
    | some r =>
      rw [hr] at h
      cases b with
      | true => cases h; exact List.Sublist.cons_cons _ (pickL_sub hr)
      | false => cases h; exact List.Sublist.cons _ (pickL_sub hr)
theorem OpsS.pick {all ops : List Oper} {E' : Env} {L' : Atoms} {Q : Env → Atoms → Prop} (ks : List Nat) (bs : List Bool) (he : pickE E ks = some E') (hl : pickL L bs = some L') (h : OpsS T O X H0 N all ops E' L' Q) : OpsS T O X H0 N all ops E L Q := h.weak (pickE_sub he) (pickL_sub hl)
theorem ExecS.pick {c : Code} {E' : Env} {L' : Atoms} {Q : Ex → Env → Atoms → Prop} (ks : List Nat) (bs : List Bool) (he : pickE E ks = some E') (hl : pickL L bs = some L') (h : ExecS T O X H0 N c E' L' Q) : ExecS T O X H0 N c E L Q := h.weak (pickE_sub he) (pickL_sub hl)
def appN : List Value → List Value → Option (List Value)
  | [], r => some r
  | x :: l, r => match appN l r with
    | some q => some (x :: q)
    | none => none
theorem appN_eq : ∀ {l r q : List Value}, appN l r = some q → q = l ++ r
  | [], _, _, h => by cases h; rfl
  | x :: l, r, q, h => by
    simp only [appN] at h
    cases hq : appN l r with
    | none => rw [hq] at h; cases h
    | some q' => rw [hq] at h; cases h; rw [appN_eq hq]; rfl
def flatN (n : Nat) : Nat → List (Nat × Value) → Option (List Value)
  | _, [] => some []
  | i, (j, v) :: r => match Nat.beq i j && Nat.beq v.cells.size n with
    | true => match flatN n (i + 1) r with
      | some q => appN v.cells.toList q
      | none => none
    | false => none
theorem lay_flat {n : Nat} : ∀ {pl : List (Nat × Value)} {i : Nat} {q pre zs : List Value}, flatN n i pl = some q → pre.length = i * n → zs.length = pl.length * n → lay (fun i => some (i * n, n)) (pre ++ zs) pl = some (pre ++ q)
  | [], i, q, pre, zs, h, hp, hz => by
    cases h
    have : zs = [] := List.length_eq_zero_iff.1 (by simpa using hz)
    rw [this]; rfl
  | (j, v) :: r, i, q, pre, zs, h, hp, hz => by
    simp only [flatN] at h
    cases hb : (Nat.beq i j && Nat.beq v.cells.size n) with
    | false => rw [hb] at h; cases h
    | true =>
      rw [hb] at h
      simp only at h
      simp only [Bool.and_eq_true] at hb
      obtain rfl := Nat.eq_of_beq_eq_true hb.1
      cases hq : flatN n (i + 1) r with
      | none => rw [hq] at h; cases h
      | some q' =>
        rw [hq] at h
        have e := appN_eq h
        have hv : v.cells.toList.length = n := by have := Nat.eq_of_beq_eq_true hb.2; simpa using this
        simp only [List.length_cons, Nat.add_mul, Nat.one_mul] at hz
        have hble : Nat.ble (i * n + n) (pre ++ zs).length = true := Nat.ble_eq_true_of_le (by rw [List.length_append]; omega)
        simp only [lay, hb.2, hble, Bool.and_self, cond_true]
        rw [show (pre ++ zs).take (i * n) = pre from by rw [← hp, List.take_left'] ; rfl]
        rw [show (pre ++ zs).drop (i * n + n) = zs.drop n from by rw [← hp, List.drop_append, List.drop_of_length_le (by omega), List.nil_append]; congr 1; omega]
        rw [lay_flat (i := i + 1) (q := q') hq (by rw [List.length_append, hv, hp, Nat.add_mul, Nat.one_mul]) (by rw [List.length_drop]; omega), e, List.append_assoc]
def sliceInfo2 (T : Tab) (t len : Nat) : Option (Nat × Nat) :=
  match T.und t with
  | some (.slice elem) => match T.size elem, T.zero elem with
    | some n, some z => bif closedC z && Nat.beq z.cells.size n && Nat.ble 1 n && Nat.ble (len * n) 16777216 then some (n, elem) else none
    | _, _ => none
  | _ => none
theorem reps_length (l : List Value) : ∀ k, (reps l k).length = k * l.length
  | 0 => by simp [reps]
  | k + 1 => by simp only [reps, List.length_append, reps_length l k, Nat.add_mul, Nat.one_mul]; omega
theorem sliceInfo2_of {T : Tab} {t len n elem : Nat} (h : sliceInfo2 T t len = some (n, elem)) : ∃ zs, sliceInfo T t len = some (n, elem, zs) ∧ zs.length = len * n := by
  unfold sliceInfo2 at h
  unfold sliceInfo
  split at h
  · rename_i e hu
    rw [hu]
    simp only
    split at h
    · rename_i n' z hn hz
      rw [hn, hz]
      simp only
      cases hb : (closedC z && Nat.beq z.cells.size n' && Nat.ble 1 n' && Nat.ble (len * n') 16777216) with
      | false => rw [hb] at h; cases h
      | true =>
        rw [hb] at h
        simp only [cond_true] at h ⊢
        cases h
        refine ⟨_, rfl, ?_⟩
        simp only [Bool.and_eq_true] at hb
        have := Nat.eq_of_beq_eq_true hb.1.1.2
        rw [reps_length, Array.length_toList, this]
    · cases h
  · cases h
theorem step_buildSliceF {o : Oper} {t len n elem : Nat} {ps : Array (Nat × Operand)} {pl : List (Nat × Value)} {l c : List Value} {k : Value → Atoms → Prop} (ho : o.op = .buildSlice t len ps) (hp : parts (lk E) ps.toList = some pl)
    (hi : sliceInfo2 T t len = some (n, elem)) (hpl : Nat.beq pl.length len = true) (hl : flatN n 0 pl = some l) (hc : normL l = some c)
    (h : ∀ b, k (.slice (some ⟨b, 0, some 0⟩) len len) ((some b, .cells 0 c n elem) :: L)) : StepS T O X H0 E L o k := by
  obtain ⟨zs, hi, hz⟩ := sliceInfo2_of hi
  have e := Nat.eq_of_beq_eq_true hpl
  have := lay_flat (pre := []) (zs := zs) hl (by simp) (by rw [hz, e])
  exact step_buildSlice ho hp hi this hc h
theorem ops_more {all l : List Oper} {o : Oper} {Q : Env → Atoms → Prop} (h : OpsS T O X H0 N all (o :: l) E L Q) : OpsS T O X H0 N all (o :: l) E L Q := h
theorem draw_more {all : List Oper} {ms : Tr Nat} {full : Nat} {x : Nat × Nat} {lst : List (Nat × Nat)} {pend : List PendE} {Q : Env → Atoms → Prop} (h : DrawS T O X H0 N all ms full (x :: lst) pend E L Q) : DrawS T O X H0 N all ms full (x :: lst) pend E L Q := h
theorem exec_more {c : Code} {Q : Ex → Env → Atoms → Prop} (h : ExecS T O X H0 N c E L Q) : ExecS T O X H0 N c E L Q := h
theorem look_hasO {b off ver esz ty t : Nat} {a : Operand} {l : List Value} {v : Value} (hh : ∀ H, St X H0 H L → Has H b (.cells ver l esz ty)) (ha : lk E a = some (.pointer (some ⟨b, off, some ver⟩))) (hd : plain T t = true) (hv : l[off]? = some v) :
    ∀ H, St X H0 H L → opL T O H (lk E) (.load t a) = some v := fun H hs => opL_load ha (by
  unfold plain at hd
  unfold load
  cases hu : T.und t with
  | none => rw [hu] at hd; cases hd
  | some d =>
    rw [hu] at hd
    simp only [Bool.not_eq_true'] at hd
    simp only [hd, cond_false]
    exact (hh H hs).rd hv)
theorem step_call_ex {o : Oper} {f : Operand} {xa : Array Operand} {ts : Array TypeId} {g : Nat} {a b : Array Value} {l : List Value} {R : Value → Prop} {k : Value → Atoms → Prop} (ho : o.op = .call { callee := .value f, args := xa, argTypes := ts })
    (hf : lk E f = some (.func (.func g) a b)) (hx : args (lk E) xa.toList = some l)
    (h : ∀ H, St X H0 H L → CallC T O g (a.toList ++ l ++ b.toList) H fun v H' => R v ∧ Ext H H') (hk : ∀ v, R v → k v L) : StepS T O X H0 E L o k :=
  step_call ho hf hx fun H hs => (h H hs).mono fun v H' ⟨e, hE⟩ => ⟨L, hs.extend hE, hk v e⟩
theorem call_exM {f : Nat} {fn : Func} {c : Code} {l : List Value} {E0 : Env} {H : Heap} {R : Value → Prop} (hp : T.prim f = none) (hf : T.fn f = some fn) (hb : fn.body = some c) (hn : Nat.ble l.length fn.ntmps = true) (he : enumN l 0 = some E0)
    (h : ExecS T O [] H fn.ntmps c E0 [] (endM T O [] H fn.results.toList fun v _ => R v)) : CallC T O f l H fun v H' => R v ∧ Ext H H' :=
  (call_introM hp hf hb hn (St.start H) he h).mono fun v H' ⟨L', h1, h2⟩ => ⟨h2, h1.ext⟩
theorem call_ex {f : Nat} {fn : Func} {c : Code} {l : List Value} {E0 : Env} {H : Heap} {R : Value → Prop} (hp : T.prim f = none) (hf : T.fn f = some fn) (hb : fn.body = some c) (hn : Nat.ble l.length fn.ntmps = true) (he : enumN l 0 = some E0)
    (h : ExecS T O [] H fn.ntmps c E0 [] (endS fn.results.toList fun v _ => R v)) : CallC T O f l H fun v H' => R v ∧ Ext H H' :=
  (call_intro hp hf hb hn (St.start H) he h).mono fun v H' ⟨L', h1, h2⟩ => ⟨h2, h1.ext⟩
def OwnC (z ty : Nat) (a : Option Addr) (n c : Nat) (l : List Value) (p : Option Nat × Cont) : Prop :=
  OwnA z ty a n c l p ∨ ∃ b ver, a = some ⟨b, 0, some ver⟩ ∧ c = n ∧ p = (some b, .cells ver l z ty) ∧ l.length = n * z
theorem OwnC.nil {z ty : Nat} (ct : Cont) : OwnC z ty none 0 0 [] (none, ct) := .inl (.nil ct)
theorem OwnC.full {z ty b ver n : Nat} {l : List Value} (h : l.length = n * z) : OwnC z ty (some ⟨b, 0, some ver⟩) n n l (some b, .cells ver l z ty) := .inr ⟨b, ver, rfl, rfl, rfl, h⟩
theorem OwnC.len {z ty n c : Nat} {a : Option Addr} {l : List Value} {p : Option Nat × Cont} (h : OwnC z ty a n c l p) : l.length = n * z := by
  rcases h with h | ⟨b, ver, _, _, _, h⟩
  · exact h.len
  · exact h
theorem OwnC.rd {z ty n c : Nat} {a : Option Addr} {l : List Value} {p : Option Nat × Cont} {Z : Atoms} (h : OwnC z ty a n c l p) (hp : p ∈ Z) : Rd Z fun H => Sl O H (.slice a n c) z n l := by
  rcases h with h | ⟨b, ver, rfl, rfl, rfl, hl⟩
  · exact Rd.own h hp
  · intro X H0 H hst
    obtain ⟨i, hi⟩ := List.getElem?_of_mem hp
    exact Sl.own hst hi hl _
theorem step_append_full1 {o : Oper} {s x : Operand} {t u e n m b ver z : Nat} {bv : Value} {i : TypeInfo} {l new : List Value} {k : Value → Atoms → Prop} (j : Nat) (ho : o.op = .call { callee := .builtin .append, args := #[s, x], argTypes := #[t, u] }) (hu : appTy T u = true) (hs : lk E s = some (.slice (some ⟨b, 0, some ver⟩) n n)) (hx : lk E x = some bv)
    (ht : T.und t = some (.slice e)) (hi : T.info e = some i) (hz : i.size = z) (hj : L[j]? = some (some b, .cells ver l z e)) (hl : l.length = n * z) (hsrc : ∀ H, St X H0 H L → src O H z bv = some (m, new)) (hb : appOkB i = true) (hall : new.all isCell = true) (hlen : new.length = m * z) (hn' : n + m ≤ 1073741824) (hm : 0 < m)
    (h : ∀ a' c' p', OwnA z e a' (n + m) c' (l ++ new) p' → k (.slice a' (n + m) c') (p' :: L)) : StepS T O X H0 E L o k := by
  subst hz
  have hok := appOk.of hb hall hlen
  have e0 : Nat.beq m 0 = false := by
    cases hb : Nat.beq m 0 with
    | false => rfl
    | true => have := Nat.eq_of_beq_eq_true hb; omega
  have e1 : Nat.blt 1073741824 (n + m) = false := by
    cases hb : Nat.blt 1073741824 (n + m) with
    | false => rfl
    | true => have := Nat.le_of_ble_eq_true hb; omega
  have e2 : Nat.beq n unk = false := by
    cases hb : Nat.beq n unk with
    | false => rfl
    | true => have := Nat.eq_of_beq_eq_true hb; unfold unk at this; omega
  have e3 : Nat.ble (n + m) n = false := by
    cases hb : Nat.ble (n + m) n with
    | false => rfl
    | true => have := Nat.le_of_ble_eq_true hb; omega
  refine step_w (by rw [ho]; rfl) fun H hst => ?_
  have hold : rdN O H b (some ver) (n * i.size) 0 = some l := by rw [← hl]; exact (hst.get hj).rdN (rdL_full l)
  refine ⟨.slice (some ⟨H.next, 0, some 0⟩) (n + m) unk, H.newCells (l ++ new) i.size e, _, ?_, hst.add (ext_new _ _) (Nat.le_refl _) (Nat.lt_succ_self _) (has_newCells _ _ _ _), Nat.le_succ _, ?_⟩
  · rw [ho, opW_append hu hs hx]
    simp only [append, ht, hi, hsrc H hst, hok.bif, cond_false, e0, e1, e2, e3, hold]
  · exact h _ _ _ (.own (by rw [List.length_append, hl, hlen, Nat.add_mul]))
theorem set_erase_perm {α : Type} : ∀ {l : List α} {j : Nat} {p q : α}, l[j]? = some p → (l.set j q).Perm (q :: l.eraseIdx j)
  | [], _, _, _, h => by cases h
  | x :: l, 0, p, q, h => by simp
  | x :: l, j + 1, p, q, h => by
    simp only [List.set_cons_succ, List.eraseIdx_cons_succ]
    exact ((set_erase_perm (l := l) (j := j) (q := q) h).cons x).trans (List.Perm.swap _ _ _)
theorem StepS.monoP {o : Oper} {k k' : Value → Atoms → Prop} (h : StepS T O X H0 E L o k) (hk : ∀ v L1, k v L1 → ∃ L2, (∀ H, St X H0 H L1 → St X H0 H L2) ∧ k' v L2) : StepS T O X H0 E L o k' := .mk fun H hs τ ht => by
  obtain ⟨lf, n, v, H', L', h1, h2, h3, h4⟩ := h.run H hs τ ht
  obtain ⟨L2, h5, h6⟩ := hk v L' h4
  exact ⟨lf, n, v, H', L2, h1, h5 _ h2, h3, h6⟩
theorem step_appendC {o : Oper} {s x : Operand} {t u e n m c z : Nat} {a : Option Addr} {bv : Value} {i : TypeInfo} {l new : List Value} {p : Option Nat × Cont} {k : Value → Atoms → Prop} (j : Nat) (ho : o.op = .call { callee := .builtin .append, args := #[s, x], argTypes := #[t, u] }) (hu : appTy T u = true) (hs : lk E s = some (.slice a n c)) (hx : lk E x = some bv)
    (ht : T.und t = some (.slice e)) (hi : T.info e = some i) (hz : i.size = z) (hj : L[j]? = some p) (hown : OwnC z e a n c l p) (hsrc : ∀ H, St X H0 H L → src O H z bv = some (m, new)) (hb : appOkB i = true) (hall : new.all isCell = true) (hlen : new.length = m * z) (hn' : n + m ≤ 1073741824) (hm : 0 < m)
    (h : ∀ a' c' p', OwnA z e a' (n + m) c' (l ++ new) p' → k (.slice a' (n + m) c') (p' :: L.eraseIdx j)) : StepS T O X H0 E L o k := by
  rcases hown with hown | ⟨b, ver, rfl, rfl, rfl, hl⟩
  · refine (step_append (k := fun v L' => ∃ a' c' p', OwnA z e a' (n + m) c' (l ++ new) p' ∧ v = .slice a' (n + m) c' ∧ L' = L.set j p') j z ho hu hs hx ht hi hz hj hown hsrc hb hall hlen hn' (fun a' c' p' ho' => ⟨a', c', p', ho', rfl, rfl⟩)).monoP ?_
    rintro v L1 ⟨a', c', p', ho', rfl, rfl⟩
    exact ⟨_, fun H hs => hs.perm (set_erase_perm hj), h a' c' p' ho'⟩
  · refine (step_append_full1 (k := fun v L' => ∃ a' c' p', OwnA z e a' (c + m) c' (l ++ new) p' ∧ v = .slice a' (c + m) c' ∧ L' = p' :: L) j ho hu hs hx ht hi hz hj hl hsrc hb hall hlen hn' hm (fun a' c' p' ho' => ⟨a', c', p', ho', rfl, rfl⟩)).monoP ?_
    rintro v L1 ⟨a', c', p', ho', rfl, rfl⟩
    exact ⟨_, fun H hs => hs.sublist (List.Sublist.cons_cons _ (List.eraseIdx_sublist _ _)), h a' c' p' ho'⟩
def takeAt {α : Type} : List α → Nat → Option (α × List α)
  | [], _ => none
  | x :: l, 0 => some (x, l)
  | x :: l, j + 1 => match takeAt l j with
    | some (y, r) => some (y, x :: r)
    | none => none
theorem takeAt_perm {α : Type} : ∀ {l : List α} {j : Nat} {y : α} {r : List α}, takeAt l j = some (y, r) → l.Perm (y :: r)
  | [], _, _, _, h => by cases h
  | x :: l, 0, y, r, h => by simp only [takeAt, Option.some.injEq, Prod.mk.injEq] at h; obtain ⟨rfl, rfl⟩ := h; exact List.Perm.refl _
  | x :: l, j + 1, y, r, h => by
    simp only [takeAt] at h
    cases hq : takeAt l j with
    | none => rw [hq] at h; cases h
    | some q =>
      obtain ⟨y', r'⟩ := q
      rw [hq] at h
      simp only [Option.some.injEq, Prod.mk.injEq] at h
      obtain ⟨rfl, rfl⟩ := h
      exact ((takeAt_perm hq).cons x).trans (List.Perm.swap _ _ _)
def permT {α : Type} (l : List α) : List Nat → Option (List α)
  | [] => some l
  | j :: js => match takeAt l j with
    | some (x, r) => match permT r js with
      | some q => some (x :: q)
      | none => none
    | none => none
theorem permT_perm {α : Type} : ∀ {js : List Nat} {l q : List α}, permT l js = some q → l.Perm q
  | [], _, _, h => by cases h; exact List.Perm.refl _
  | j :: js, l, q, h => by
    simp only [permT] at h
    cases ht : takeAt l j with
    | none => rw [ht] at h; cases h
    | some y =>
      obtain ⟨x, r⟩ := y
      rw [ht] at h
      simp only at h
      cases hq : permT r js with
      | none => rw [hq] at h; cases h
      | some q' =>
        rw [hq] at h
        cases h
        exact (takeAt_perm ht).trans ((permT_perm hq).cons x)
theorem ExecS.reord {c : Code} {L' : Atoms} {Q : Ex → Env → Atoms → Prop} (js : List Nat) (hl : permT L js = some L') (h : ExecS T O X H0 N c E L' Q) : ExecS T O X H0 N c E L Q := h.perm (permT_perm hl)
theorem OpsS.reord {all ops : List Oper} {L' : Atoms} {Q : Env → Atoms → Prop} (js : List Nat) (hl : permT L js = some L') (h : OpsS T O X H0 N all ops E L' Q) : OpsS T O X H0 N all ops E L Q := h.perm (permT_perm hl)
def setT {α : Type} : List α → Nat → α → Option (List α)
  | [], _, _ => none
  | _ :: l, 0, y => some (y :: l)
  | x :: l, j + 1, y => match setT l j y with
    | some r => some (x :: r)
    | none => none
theorem setT_eq {α : Type} : ∀ {l : List α} {j : Nat} {y : α} {r : List α}, setT l j y = some r → r = l.set j y
  | [], _, _, _, h => by cases h
  | x :: l, 0, y, r, h => by cases h; rfl
  | x :: l, j + 1, y, r, h => by
    simp only [setT] at h
    cases hq : setT l j y with
    | none => rw [hq] at h; cases h
    | some q => rw [hq] at h; cases h; rw [setT_eq hq]; rfl
theorem step_storeZ {o : Oper} {t n b off ver esz ty : Nat} {a x : Operand} {v : Value} {l l' : List Value} {L' : Atoms} {k : Value → Atoms → Prop} (i : Nat) (ho : o.op = .store t a x) (ha : lk E a = some (.pointer (some ⟨b, off, some ver⟩))) (hx : lk E x = some v)
    (hi : L[i]? = some (some b, .cells ver l esz ty)) (hn : T.size t = some n) (hv : Nat.beq v.cells.size n = true) (hw : wrL v.cells.toList off l = some l') {l2 : List Value} (hc : normL l' = some l2) (hL : setT L i (some b, .cells ver l2 esz ty) = some L')
    (h : k skipped L') : StepS T O X H0 E L o k := by
  obtain rfl := normL_eq hc
  obtain rfl := setT_eq hL
  refine step_w (by rw [ho]; rfl) fun H hs => ?_
  obtain ⟨H', h1, h2, h3⟩ := store_own (T := T) hs hi hn hv hw
  exact ⟨skipped, H', _, by rw [ho]; simp only [opW, ha, hx, h1], h2, h3, h⟩
end
end Go.Ev.Wk
namespace Go.Ev.Wk
structure Hold (G : Prop) : Prop where
  out : G
theorem zr {G G' : Prop} (h' : G') (h : Hold G' → G := by (intro h; (first | (refine exec_more ?_; first | refine exec_seq ?_ | refine exec_region ?_ | refine exec_block ?_ | refine exec_skip ?_ | refine exec_exit ?_ | refine exec_ret ?_ | refine exec_true rfl ?_ | refine exec_false rfl ?_) | refine ops_nil ?_ | (refine ops_more ?_; first | (apply ops_pl rfl rfl rfl ?_ rfl ?_; rotate_left; focus first | exact (.bld rfl rfl rfl rfl) | exact (.cat rfl rfl rfl (by first | (simp; done) | (simp; omega))) | exact (.neSelf rfl rfl rfl rfl) | exact (.eqSelf rfl rfl rfl rfl) | exact (.wr64 rfl rfl (by omega) (by omega)) | exact (.p rfl rfl) | exact (.cv64 rfl (fun _ => rfl) (by omega) (by omega)) | exact (.l rfl (fun _ _ => rfl)) | exact (.l rfl (look_own 0 rfl rfl rfl rfl)) | exact (.l rfl (look_own 1 rfl rfl rfl rfl)) | exact (.l rfl (look_own 2 rfl rfl rfl rfl)) | exact (.l rfl (look_own 3 rfl rfl rfl rfl)) | exact (.l rfl (look_agg 0 rfl rfl rfl rfl)) | exact (.l rfl (look_agg 1 rfl rfl rfl rfl)) | exact (.l rfl (look_agg 2 rfl rfl rfl rfl)) | exact (.l rfl (look_agg 3 rfl rfl rfl rfl))) | refine ops_skip rfl rfl rfl ?_ | (refine ops_step rfl rfl rfl ?_; first | refine step_storeZ 0 rfl rfl rfl rfl rfl rfl rfl rfl rfl ?_ | refine step_storeZ 1 rfl rfl rfl rfl rfl rfl rfl rfl rfl ?_ | refine step_storeZ 2 rfl rfl rfl rfl rfl rfl rfl rfl rfl ?_ | refine step_storeZ 3 rfl rfl rfl rfl rfl rfl rfl rfl rfl ?_))); (repeat (first | (refine exec_more ?_; first | refine exec_seq ?_ | refine exec_region ?_ | refine exec_block ?_ | refine exec_skip ?_ | refine exec_exit ?_ | refine exec_ret ?_ | refine exec_true rfl ?_ | refine exec_false rfl ?_) | refine ops_nil ?_ | (refine ops_more ?_; first | (apply ops_pl rfl rfl rfl ?_ rfl ?_; rotate_left; focus first | exact (.bld rfl rfl rfl rfl) | exact (.cat rfl rfl rfl (by first | (simp; done) | (simp; omega))) | exact (.neSelf rfl rfl rfl rfl) | exact (.eqSelf rfl rfl rfl rfl) | exact (.wr64 rfl rfl (by omega) (by omega)) | exact (.p rfl rfl) | exact (.cv64 rfl (fun _ => rfl) (by omega) (by omega)) | exact (.l rfl (fun _ _ => rfl)) | exact (.l rfl (look_own 0 rfl rfl rfl rfl)) | exact (.l rfl (look_own 1 rfl rfl rfl rfl)) | exact (.l rfl (look_own 2 rfl rfl rfl rfl)) | exact (.l rfl (look_own 3 rfl rfl rfl rfl)) | exact (.l rfl (look_agg 0 rfl rfl rfl rfl)) | exact (.l rfl (look_agg 1 rfl rfl rfl rfl)) | exact (.l rfl (look_agg 2 rfl rfl rfl rfl)) | exact (.l rfl (look_agg 3 rfl rfl rfl rfl))) | refine ops_skip rfl rfl rfl ?_ | (refine ops_step rfl rfl rfl ?_; first | refine step_storeZ 0 rfl rfl rfl rfl rfl rfl rfl rfl rfl ?_ | refine step_storeZ 1 rfl rfl rfl rfl rfl rfl rfl rfl rfl ?_ | refine step_storeZ 2 rfl rfl rfl rfl rfl rfl rfl rfl rfl ?_ | refine step_storeZ 3 rfl rfl rfl rfl rfl rfl rfl rfl rfl ?_)))); exact h.1)) : G := h ⟨h'⟩
theorem zo {G G' : Prop} (h' : G') (h : Hold G' → G := by (intro h; ((refine ops_more ?_; first | (apply ops_pl rfl rfl rfl ?_ rfl ?_; rotate_left; focus first | exact (.bld rfl rfl rfl rfl) | exact (.cat rfl rfl rfl (by first | (simp; done) | (simp; omega))) | exact (.neSelf rfl rfl rfl rfl) | exact (.eqSelf rfl rfl rfl rfl) | exact (.wr64 rfl rfl (by omega) (by omega)) | exact (.p rfl rfl) | exact (.cv64 rfl (fun _ => rfl) (by omega) (by omega)) | exact (.l rfl (fun _ _ => rfl)) | exact (.l rfl (look_own 0 rfl rfl rfl rfl)) | exact (.l rfl (look_own 1 rfl rfl rfl rfl)) | exact (.l rfl (look_own 2 rfl rfl rfl rfl)) | exact (.l rfl (look_own 3 rfl rfl rfl rfl)) | exact (.l rfl (look_agg 0 rfl rfl rfl rfl)) | exact (.l rfl (look_agg 1 rfl rfl rfl rfl)) | exact (.l rfl (look_agg 2 rfl rfl rfl rfl)) | exact (.l rfl (look_agg 3 rfl rfl rfl rfl))) | refine ops_skip rfl rfl rfl ?_ | (refine ops_step rfl rfl rfl ?_; first | refine step_storeZ 0 rfl rfl rfl rfl rfl rfl rfl rfl rfl ?_ | refine step_storeZ 1 rfl rfl rfl rfl rfl rfl rfl rfl rfl ?_ | refine step_storeZ 2 rfl rfl rfl rfl rfl rfl rfl rfl rfl ?_ | refine step_storeZ 3 rfl rfl rfl rfl rfl rfl rfl rfl rfl ?_))); (repeat ((refine ops_more ?_; first | (apply ops_pl rfl rfl rfl ?_ rfl ?_; rotate_left; focus first | exact (.bld rfl rfl rfl rfl) | exact (.cat rfl rfl rfl (by first | (simp; done) | (simp; omega))) | exact (.neSelf rfl rfl rfl rfl) | exact (.eqSelf rfl rfl rfl rfl) | exact (.wr64 rfl rfl (by omega) (by omega)) | exact (.p rfl rfl) | exact (.cv64 rfl (fun _ => rfl) (by omega) (by omega)) | exact (.l rfl (fun _ _ => rfl)) | exact (.l rfl (look_own 0 rfl rfl rfl rfl)) | exact (.l rfl (look_own 1 rfl rfl rfl rfl)) | exact (.l rfl (look_own 2 rfl rfl rfl rfl)) | exact (.l rfl (look_own 3 rfl rfl rfl rfl)) | exact (.l rfl (look_agg 0 rfl rfl rfl rfl)) | exact (.l rfl (look_agg 1 rfl rfl rfl rfl)) | exact (.l rfl (look_agg 2 rfl rfl rfl rfl)) | exact (.l rfl (look_agg 3 rfl rfl rfl rfl))) | refine ops_skip rfl rfl rfl ?_ | (refine ops_step rfl rfl rfl ?_; first | refine step_storeZ 0 rfl rfl rfl rfl rfl rfl rfl rfl rfl ?_ | refine step_storeZ 1 rfl rfl rfl rfl rfl rfl rfl rfl rfl ?_ | refine step_storeZ 2 rfl rfl rfl rfl rfl rfl rfl rfl rfl ?_ | refine step_storeZ 3 rfl rfl rfl rfl rfl rfl rfl rfl rfl ?_)))); exact h.1)) : G := h ⟨h'⟩
theorem zd {G G' : Prop} (h' : G') (h : Hold G' → G := by (intro h; ((refine draw_more ?_; first | (apply draw_pl rfl rfl rfl rfl ?_ rfl rfl ?_; rotate_left; focus first | exact (.bld rfl rfl rfl rfl) | exact (.cat rfl rfl rfl (by first | (simp; done) | (simp; omega))) | exact (.neSelf rfl rfl rfl rfl) | exact (.eqSelf rfl rfl rfl rfl) | exact (.wr64 rfl rfl (by omega) (by omega)) | exact (.p rfl rfl) | exact (.cv64 rfl (fun _ => rfl) (by omega) (by omega)) | exact (.l rfl (fun _ _ => rfl)) | exact (.l rfl (look_own 0 rfl rfl rfl rfl)) | exact (.l rfl (look_own 1 rfl rfl rfl rfl)) | exact (.l rfl (look_own 2 rfl rfl rfl rfl)) | exact (.l rfl (look_own 3 rfl rfl rfl rfl)) | exact (.l rfl (look_agg 0 rfl rfl rfl rfl)) | exact (.l rfl (look_agg 1 rfl rfl rfl rfl)) | exact (.l rfl (look_agg 2 rfl rfl rfl rfl)) | exact (.l rfl (look_agg 3 rfl rfl rfl rfl))) | refine draw_skip rfl rfl rfl rfl ?_)); (repeat ((refine draw_more ?_; first | (apply draw_pl rfl rfl rfl rfl ?_ rfl rfl ?_; rotate_left; focus first | exact (.bld rfl rfl rfl rfl) | exact (.cat rfl rfl rfl (by first | (simp; done) | (simp; omega))) | exact (.neSelf rfl rfl rfl rfl) | exact (.eqSelf rfl rfl rfl rfl) | exact (.wr64 rfl rfl (by omega) (by omega)) | exact (.p rfl rfl) | exact (.cv64 rfl (fun _ => rfl) (by omega) (by omega)) | exact (.l rfl (fun _ _ => rfl)) | exact (.l rfl (look_own 0 rfl rfl rfl rfl)) | exact (.l rfl (look_own 1 rfl rfl rfl rfl)) | exact (.l rfl (look_own 2 rfl rfl rfl rfl)) | exact (.l rfl (look_own 3 rfl rfl rfl rfl)) | exact (.l rfl (look_agg 0 rfl rfl rfl rfl)) | exact (.l rfl (look_agg 1 rfl rfl rfl rfl)) | exact (.l rfl (look_agg 2 rfl rfl rfl rfl)) | exact (.l rfl (look_agg 3 rfl rfl rfl rfl))) | refine draw_skip rfl rfl rfl rfl ?_))); exact h.1)) : G := h ⟨h'⟩
theorem zrb {G G' : Prop} (h' : G') (h : Hold G' → G := by (intro h; (first | (refine exec_more ?_; first | refine exec_seq ?_ | refine exec_region ?_ | refine exec_block ?_ | refine exec_skip ?_ | refine exec_exit ?_ | refine exec_ret ?_ | refine exec_true rfl ?_ | refine exec_false rfl ?_) | refine ops_nil ?_ | (refine ops_more ?_; first | (apply ops_pl rfl rfl rfl ?_ rfl ?_; rotate_left; focus first | exact (.bld rfl rfl rfl rfl) | exact (.cat rfl rfl rfl (by first | (simp; done) | (simp; omega))) | exact (.neSelf rfl rfl rfl rfl) | exact (.eqSelf rfl rfl rfl rfl) | exact (.wr64 rfl rfl (by omega) (by omega)) | exact (.p rfl rfl) | exact (.cv64 rfl (fun _ => rfl) (by omega) (by omega)) | exact (.l rfl (fun _ _ => rfl)) | exact (.l rfl (look_own 0 rfl rfl rfl rfl)) | exact (.l rfl (look_own 1 rfl rfl rfl rfl)) | exact (.l rfl (look_own 2 rfl rfl rfl rfl)) | exact (.l rfl (look_own 3 rfl rfl rfl rfl)) | exact (.l rfl (look_own 4 rfl rfl rfl rfl)) | exact (.l rfl (look_own 5 rfl rfl rfl rfl)) | exact (.l rfl (look_own 6 rfl rfl rfl rfl)) | exact (.l rfl (look_own 7 rfl rfl rfl rfl)) | exact (.l rfl (look_agg 0 rfl rfl rfl rfl)) | exact (.l rfl (look_agg 1 rfl rfl rfl rfl)) | exact (.l rfl (look_agg 2 rfl rfl rfl rfl)) | exact (.l rfl (look_agg 3 rfl rfl rfl rfl)) | exact (.l rfl (look_agg 4 rfl rfl rfl rfl)) | exact (.l rfl (look_agg 5 rfl rfl rfl rfl)) | exact (.l rfl (look_agg 6 rfl rfl rfl rfl)) | exact (.l rfl (look_agg 7 rfl rfl rfl rfl))) | refine ops_skip rfl rfl rfl ?_ | (refine ops_step rfl rfl rfl ?_; first | refine step_storeZ 0 rfl rfl rfl rfl rfl rfl rfl rfl rfl ?_ | refine step_storeZ 1 rfl rfl rfl rfl rfl rfl rfl rfl rfl ?_ | refine step_storeZ 2 rfl rfl rfl rfl rfl rfl rfl rfl rfl ?_ | refine step_storeZ 3 rfl rfl rfl rfl rfl rfl rfl rfl rfl ?_ | refine step_storeZ 4 rfl rfl rfl rfl rfl rfl rfl rfl rfl ?_ | refine step_storeZ 5 rfl rfl rfl rfl rfl rfl rfl rfl rfl ?_ | refine step_storeZ 6 rfl rfl rfl rfl rfl rfl rfl rfl rfl ?_ | refine step_storeZ 7 rfl rfl rfl rfl rfl rfl rfl rfl rfl ?_))); (repeat (first | (refine exec_more ?_; first | refine exec_seq ?_ | refine exec_region ?_ | refine exec_block ?_ | refine exec_skip ?_ | refine exec_exit ?_ | refine exec_ret ?_ | refine exec_true rfl ?_ | refine exec_false rfl ?_) | refine ops_nil ?_ | (refine ops_more ?_; first | (apply ops_pl rfl rfl rfl ?_ rfl ?_; rotate_left; focus first | exact (.bld rfl rfl rfl rfl) | exact (.cat rfl rfl rfl (by first | (simp; done) | (simp; omega))) | exact (.neSelf rfl rfl rfl rfl) | exact (.eqSelf rfl rfl rfl rfl) | exact (.wr64 rfl rfl (by omega) (by omega)) | exact (.p rfl rfl) | exact (.cv64 rfl (fun _ => rfl) (by omega) (by omega)) | exact (.l rfl (fun _ _ => rfl)) | exact (.l rfl (look_own 0 rfl rfl rfl rfl)) | exact (.l rfl (look_own 1 rfl rfl rfl rfl)) | exact (.l rfl (look_own 2 rfl rfl rfl rfl)) | exact (.l rfl (look_own 3 rfl rfl rfl rfl)) | exact (.l rfl (look_own 4 rfl rfl rfl rfl)) | exact (.l rfl (look_own 5 rfl rfl rfl rfl)) | exact (.l rfl (look_own 6 rfl rfl rfl rfl)) | exact (.l rfl (look_own 7 rfl rfl rfl rfl)) | exact (.l rfl (look_agg 0 rfl rfl rfl rfl)) | exact (.l rfl (look_agg 1 rfl rfl rfl rfl)) | exact (.l rfl (look_agg 2 rfl rfl rfl rfl)) | exact (.l rfl (look_agg 3 rfl rfl rfl rfl)) | exact (.l rfl (look_agg 4 rfl rfl rfl rfl)) | exact (.l rfl (look_agg 5 rfl rfl rfl rfl)) | exact (.l rfl (look_agg 6 rfl rfl rfl rfl)) | exact (.l rfl (look_agg 7 rfl rfl rfl rfl))) | refine ops_skip rfl rfl rfl ?_ | (refine ops_step rfl rfl rfl ?_; first | refine step_storeZ 0 rfl rfl rfl rfl rfl rfl rfl rfl rfl ?_ | refine step_storeZ 1 rfl rfl rfl rfl rfl rfl rfl rfl rfl ?_ | refine step_storeZ 2 rfl rfl rfl rfl rfl rfl rfl rfl rfl ?_ | refine step_storeZ 3 rfl rfl rfl rfl rfl rfl rfl rfl rfl ?_ | refine step_storeZ 4 rfl rfl rfl rfl rfl rfl rfl rfl rfl ?_ | refine step_storeZ 5 rfl rfl rfl rfl rfl rfl rfl rfl rfl ?_ | refine step_storeZ 6 rfl rfl rfl rfl rfl rfl rfl rfl rfl ?_ | refine step_storeZ 7 rfl rfl rfl rfl rfl rfl rfl rfl rfl ?_)))); exact h.1)) : G := h ⟨h'⟩
theorem zob {G G' : Prop} (h' : G') (h : Hold G' → G := by (intro h; ((refine ops_more ?_; first | (apply ops_pl rfl rfl rfl ?_ rfl ?_; rotate_left; focus first | exact (.bld rfl rfl rfl rfl) | exact (.cat rfl rfl rfl (by first | (simp; done) | (simp; omega))) | exact (.neSelf rfl rfl rfl rfl) | exact (.eqSelf rfl rfl rfl rfl) | exact (.wr64 rfl rfl (by omega) (by omega)) | exact (.p rfl rfl) | exact (.cv64 rfl (fun _ => rfl) (by omega) (by omega)) | exact (.l rfl (fun _ _ => rfl)) | exact (.l rfl (look_own 0 rfl rfl rfl rfl)) | exact (.l rfl (look_own 1 rfl rfl rfl rfl)) | exact (.l rfl (look_own 2 rfl rfl rfl rfl)) | exact (.l rfl (look_own 3 rfl rfl rfl rfl)) | exact (.l rfl (look_own 4 rfl rfl rfl rfl)) | exact (.l rfl (look_own 5 rfl rfl rfl rfl)) | exact (.l rfl (look_own 6 rfl rfl rfl rfl)) | exact (.l rfl (look_own 7 rfl rfl rfl rfl)) | exact (.l rfl (look_agg 0 rfl rfl rfl rfl)) | exact (.l rfl (look_agg 1 rfl rfl rfl rfl)) | exact (.l rfl (look_agg 2 rfl rfl rfl rfl)) | exact (.l rfl (look_agg 3 rfl rfl rfl rfl)) | exact (.l rfl (look_agg 4 rfl rfl rfl rfl)) | exact (.l rfl (look_agg 5 rfl rfl rfl rfl)) | exact (.l rfl (look_agg 6 rfl rfl rfl rfl)) | exact (.l rfl (look_agg 7 rfl rfl rfl rfl))) | refine ops_skip rfl rfl rfl ?_ | (refine ops_step rfl rfl rfl ?_; first | refine step_storeZ 0 rfl rfl rfl rfl rfl rfl rfl rfl rfl ?_ | refine step_storeZ 1 rfl rfl rfl rfl rfl rfl rfl rfl rfl ?_ | refine step_storeZ 2 rfl rfl rfl rfl rfl rfl rfl rfl rfl ?_ | refine step_storeZ 3 rfl rfl rfl rfl rfl rfl rfl rfl rfl ?_ | refine step_storeZ 4 rfl rfl rfl rfl rfl rfl rfl rfl rfl ?_ | refine step_storeZ 5 rfl rfl rfl rfl rfl rfl rfl rfl rfl ?_ | refine step_storeZ 6 rfl rfl rfl rfl rfl rfl rfl rfl rfl ?_ | refine step_storeZ 7 rfl rfl rfl rfl rfl rfl rfl rfl rfl ?_))); (repeat ((refine ops_more ?_; first | (apply ops_pl rfl rfl rfl ?_ rfl ?_; rotate_left; focus first | exact (.bld rfl rfl rfl rfl) | exact (.cat rfl rfl rfl (by first | (simp; done) | (simp; omega))) | exact (.neSelf rfl rfl rfl rfl) | exact (.eqSelf rfl rfl rfl rfl) | exact (.wr64 rfl rfl (by omega) (by omega)) | exact (.p rfl rfl) | exact (.cv64 rfl (fun _ => rfl) (by omega) (by omega)) | exact (.l rfl (fun _ _ => rfl)) | exact (.l rfl (look_own 0 rfl rfl rfl rfl)) | exact (.l rfl (look_own 1 rfl rfl rfl rfl)) | exact (.l rfl (look_own 2 rfl rfl rfl rfl)) | exact (.l rfl (look_own 3 rfl rfl rfl rfl)) | exact (.l rfl (look_own 4 rfl rfl rfl rfl)) | exact (.l rfl (look_own 5 rfl rfl rfl rfl)) | exact (.l rfl (look_own 6 rfl rfl rfl rfl)) | exact (.l rfl (look_own 7 rfl rfl rfl rfl)) | exact (.l rfl (look_agg 0 rfl rfl rfl rfl)) | exact (.l rfl (look_agg 1 rfl rfl rfl rfl)) | exact (.l rfl (look_agg 2 rfl rfl rfl rfl)) | exact (.l rfl (look_agg 3 rfl rfl rfl rfl)) | exact (.l rfl (look_agg 4 rfl rfl rfl rfl)) | exact (.l rfl (look_agg 5 rfl rfl rfl rfl)) | exact (.l rfl (look_agg 6 rfl rfl rfl rfl)) | exact (.l rfl (look_agg 7 rfl rfl rfl rfl))) | refine ops_skip rfl rfl rfl ?_ | (refine ops_step rfl rfl rfl ?_; first | refine step_storeZ 0 rfl rfl rfl rfl rfl rfl rfl rfl rfl ?_ | refine step_storeZ 1 rfl rfl rfl rfl rfl rfl rfl rfl rfl ?_ | refine step_storeZ 2 rfl rfl rfl rfl rfl rfl rfl rfl rfl ?_ | refine step_storeZ 3 rfl rfl rfl rfl rfl rfl rfl rfl rfl ?_ | refine step_storeZ 4 rfl rfl rfl rfl rfl rfl rfl rfl rfl ?_ | refine step_storeZ 5 rfl rfl rfl rfl rfl rfl rfl rfl rfl ?_ | refine step_storeZ 6 rfl rfl rfl rfl rfl rfl rfl rfl rfl ?_ | refine step_storeZ 7 rfl rfl rfl rfl rfl rfl rfl rfl rfl ?_)))); exact h.1)) : G := h ⟨h'⟩
theorem zdb {G G' : Prop} (h' : G') (h : Hold G' → G := by (intro h; ((refine draw_more ?_; first | (apply draw_pl rfl rfl rfl rfl ?_ rfl rfl ?_; rotate_left; focus first | exact (.bld rfl rfl rfl rfl) | exact (.cat rfl rfl rfl (by first | (simp; done) | (simp; omega))) | exact (.neSelf rfl rfl rfl rfl) | exact (.eqSelf rfl rfl rfl rfl) | exact (.wr64 rfl rfl (by omega) (by omega)) | exact (.p rfl rfl) | exact (.cv64 rfl (fun _ => rfl) (by omega) (by omega)) | exact (.l rfl (fun _ _ => rfl)) | exact (.l rfl (look_own 0 rfl rfl rfl rfl)) | exact (.l rfl (look_own 1 rfl rfl rfl rfl)) | exact (.l rfl (look_own 2 rfl rfl rfl rfl)) | exact (.l rfl (look_own 3 rfl rfl rfl rfl)) | exact (.l rfl (look_own 4 rfl rfl rfl rfl)) | exact (.l rfl (look_own 5 rfl rfl rfl rfl)) | exact (.l rfl (look_own 6 rfl rfl rfl rfl)) | exact (.l rfl (look_own 7 rfl rfl rfl rfl)) | exact (.l rfl (look_agg 0 rfl rfl rfl rfl)) | exact (.l rfl (look_agg 1 rfl rfl rfl rfl)) | exact (.l rfl (look_agg 2 rfl rfl rfl rfl)) | exact (.l rfl (look_agg 3 rfl rfl rfl rfl)) | exact (.l rfl (look_agg 4 rfl rfl rfl rfl)) | exact (.l rfl (look_agg 5 rfl rfl rfl rfl)) | exact (.l rfl (look_agg 6 rfl rfl rfl rfl)) | exact (.l rfl (look_agg 7 rfl rfl rfl rfl))) | refine draw_skip rfl rfl rfl rfl ?_)); (repeat ((refine draw_more ?_; first | (apply draw_pl rfl rfl rfl rfl ?_ rfl rfl ?_; rotate_left; focus first | exact (.bld rfl rfl rfl rfl) | exact (.cat rfl rfl rfl (by first | (simp; done) | (simp; omega))) | exact (.neSelf rfl rfl rfl rfl) | exact (.eqSelf rfl rfl rfl rfl) | exact (.wr64 rfl rfl (by omega) (by omega)) | exact (.p rfl rfl) | exact (.cv64 rfl (fun _ => rfl) (by omega) (by omega)) | exact (.l rfl (fun _ _ => rfl)) | exact (.l rfl (look_own 0 rfl rfl rfl rfl)) | exact (.l rfl (look_own 1 rfl rfl rfl rfl)) | exact (.l rfl (look_own 2 rfl rfl rfl rfl)) | exact (.l rfl (look_own 3 rfl rfl rfl rfl)) | exact (.l rfl (look_own 4 rfl rfl rfl rfl)) | exact (.l rfl (look_own 5 rfl rfl rfl rfl)) | exact (.l rfl (look_own 6 rfl rfl rfl rfl)) | exact (.l rfl (look_own 7 rfl rfl rfl rfl)) | exact (.l rfl (look_agg 0 rfl rfl rfl rfl)) | exact (.l rfl (look_agg 1 rfl rfl rfl rfl)) | exact (.l rfl (look_agg 2 rfl rfl rfl rfl)) | exact (.l rfl (look_agg 3 rfl rfl rfl rfl)) | exact (.l rfl (look_agg 4 rfl rfl rfl rfl)) | exact (.l rfl (look_agg 5 rfl rfl rfl rfl)) | exact (.l rfl (look_agg 6 rfl rfl rfl rfl)) | exact (.l rfl (look_agg 7 rfl rfl rfl rfl))) | refine draw_skip rfl rfl rfl rfl ?_))); exact h.1)) : G := h ⟨h'⟩
theorem zrc {G G' : Prop} (h' : G') (h : Hold G' → G := by (intro h; (first | (refine exec_more ?_; first | refine exec_seq ?_ | refine exec_region ?_ | refine exec_block ?_ | refine exec_skip ?_ | refine exec_exit ?_ | refine exec_ret ?_ | refine exec_true rfl ?_ | refine exec_false rfl ?_) | refine ops_nil ?_ | (refine ops_more ?_; first | (apply ops_pl rfl rfl rfl ?_ rfl ?_; rotate_left; focus first | exact (.bld rfl rfl rfl rfl) | exact (.cat rfl rfl rfl (by first | (simp; done) | (simp; omega))) | exact (.neSelf rfl rfl rfl rfl) | exact (.eqSelf rfl rfl rfl rfl) | exact (.wr64 rfl rfl (by omega) (by omega)) | exact (.p rfl rfl) | exact (.cv64 rfl (fun _ => rfl) (by omega) (by omega)) | exact (.l rfl (fun _ _ => rfl)) | exact (.l rfl (look_own 0 rfl rfl rfl rfl)) | exact (.l rfl (look_own 1 rfl rfl rfl rfl)) | exact (.l rfl (look_own 2 rfl rfl rfl rfl)) | exact (.l rfl (look_own 3 rfl rfl rfl rfl)) | exact (.l rfl (look_own 4 rfl rfl rfl rfl)) | exact (.l rfl (look_own 5 rfl rfl rfl rfl)) | exact (.l rfl (look_own 6 rfl rfl rfl rfl)) | exact (.l rfl (look_own 7 rfl rfl rfl rfl)) | exact (.l rfl (look_own 8 rfl rfl rfl rfl)) | exact (.l rfl (look_own 9 rfl rfl rfl rfl)) | exact (.l rfl (look_own 10 rfl rfl rfl rfl)) | exact (.l rfl (look_own 11 rfl rfl rfl rfl)) | exact (.l rfl (look_agg 0 rfl rfl rfl rfl)) | exact (.l rfl (look_agg 1 rfl rfl rfl rfl)) | exact (.l rfl (look_agg 2 rfl rfl rfl rfl)) | exact (.l rfl (look_agg 3 rfl rfl rfl rfl)) | exact (.l rfl (look_agg 4 rfl rfl rfl rfl)) | exact (.l rfl (look_agg 5 rfl rfl rfl rfl)) | exact (.l rfl (look_agg 6 rfl rfl rfl rfl)) | exact (.l rfl (look_agg 7 rfl rfl rfl rfl)) | exact (.l rfl (look_agg 8 rfl rfl rfl rfl)) | exact (.l rfl (look_agg 9 rfl rfl rfl rfl)) | exact (.l rfl (look_agg 10 rfl rfl rfl rfl)) | exact (.l rfl (look_agg 11 rfl rfl rfl rfl))) | refine ops_skip rfl rfl rfl ?_ | (refine ops_step rfl rfl rfl ?_; first | refine step_storeZ 0 rfl rfl rfl rfl rfl rfl rfl rfl rfl ?_ | refine step_storeZ 1 rfl rfl rfl rfl rfl rfl rfl rfl rfl ?_ | refine step_storeZ 2 rfl rfl rfl rfl rfl rfl rfl rfl rfl ?_ | refine step_storeZ 3 rfl rfl rfl rfl rfl rfl rfl rfl rfl ?_ | refine step_storeZ 4 rfl rfl rfl rfl rfl rfl rfl rfl rfl ?_ | refine step_storeZ 5 rfl rfl rfl rfl rfl rfl rfl rfl rfl ?_ | refine step_storeZ 6 rfl rfl rfl rfl rfl rfl rfl rfl rfl ?_ | refine step_storeZ 7 rfl rfl rfl rfl rfl rfl rfl rfl rfl ?_ | refine step_storeZ 8 rfl rfl rfl rfl rfl rfl rfl rfl rfl ?_ | refine step_storeZ 9 rfl rfl rfl rfl rfl rfl rfl rfl rfl ?_ | refine step_storeZ 10 rfl rfl rfl rfl rfl rfl rfl rfl rfl ?_ | refine step_storeZ 11 rfl rfl rfl rfl rfl rfl rfl rfl rfl ?_))); (repeat (first | (refine exec_more ?_; first | refine exec_seq ?_ | refine exec_region ?_ | refine exec_block ?_ | refine exec_skip ?_ | refine exec_exit ?_ | refine exec_ret ?_ | refine exec_true rfl ?_ | refine exec_false rfl ?_) | refine ops_nil ?_ | (refine ops_more ?_; first | (apply ops_pl rfl rfl rfl ?_ rfl ?_; rotate_left; focus first | exact (.bld rfl rfl rfl rfl) | exact (.cat rfl rfl rfl (by first | (simp; done) | (simp; omega))) | exact (.neSelf rfl rfl rfl rfl) | exact (.eqSelf rfl rfl rfl rfl) | exact (.wr64 rfl rfl (by omega) (by omega)) | exact (.p rfl rfl) | exact (.cv64 rfl (fun _ => rfl) (by omega) (by omega)) | exact (.l rfl (fun _ _ => rfl)) | exact (.l rfl (look_own 0 rfl rfl rfl rfl)) | exact (.l rfl (look_own 1 rfl rfl rfl rfl)) | exact (.l rfl (look_own 2 rfl rfl rfl rfl)) | exact (.l rfl (look_own 3 rfl rfl rfl rfl)) | exact (.l rfl (look_own 4 rfl rfl rfl rfl)) | exact (.l rfl (look_own 5 rfl rfl rfl rfl)) | exact (.l rfl (look_own 6 rfl rfl rfl rfl)) | exact (.l rfl (look_own 7 rfl rfl rfl rfl)) | exact (.l rfl (look_own 8 rfl rfl rfl rfl)) | exact (.l rfl (look_own 9 rfl rfl rfl rfl)) | exact (.l rfl (look_own 10 rfl rfl rfl rfl)) | exact (.l rfl (look_own 11 rfl rfl rfl rfl)) | exact (.l rfl (look_agg 0 rfl rfl rfl rfl)) | exact (.l rfl (look_agg 1 rfl rfl rfl rfl)) | exact (.l rfl (look_agg 2 rfl rfl rfl rfl)) | exact (.l rfl (look_agg 3 rfl rfl rfl rfl)) | exact (.l rfl (look_agg 4 rfl rfl rfl rfl)) | exact (.l rfl (look_agg 5 rfl rfl rfl rfl)) | exact (.l rfl (look_agg 6 rfl rfl rfl rfl)) | exact (.l rfl (look_agg 7 rfl rfl rfl rfl)) | exact (.l rfl (look_agg 8 rfl rfl rfl rfl)) | exact (.l rfl (look_agg 9 rfl rfl rfl rfl)) | exact (.l rfl (look_agg 10 rfl rfl rfl rfl)) | exact (.l rfl (look_agg 11 rfl rfl rfl rfl))) | refine ops_skip rfl rfl rfl ?_ | (refine ops_step rfl rfl rfl ?_; first | refine step_storeZ 0 rfl rfl rfl rfl rfl rfl rfl rfl rfl ?_ | refine step_storeZ 1 rfl rfl rfl rfl rfl rfl rfl rfl rfl ?_ | refine step_storeZ 2 rfl rfl rfl rfl rfl rfl rfl rfl rfl ?_ | refine step_storeZ 3 rfl rfl rfl rfl rfl rfl rfl rfl rfl ?_ | refine step_storeZ 4 rfl rfl rfl rfl rfl rfl rfl rfl rfl ?_ | refine step_storeZ 5 rfl rfl rfl rfl rfl rfl rfl rfl rfl ?_ | refine step_storeZ 6 rfl rfl rfl rfl rfl rfl rfl rfl rfl ?_ | refine step_storeZ 7 rfl rfl rfl rfl rfl rfl rfl rfl rfl ?_ | refine step_storeZ 8 rfl rfl rfl rfl rfl rfl rfl rfl rfl ?_ | refine step_storeZ 9 rfl rfl rfl rfl rfl rfl rfl rfl rfl ?_ | refine step_storeZ 10 rfl rfl rfl rfl rfl rfl rfl rfl rfl ?_ | refine step_storeZ 11 rfl rfl rfl rfl rfl rfl rfl rfl rfl ?_)))); exact h.1)) : G := h ⟨h'⟩
theorem zdc {G G' : Prop} (h' : G') (h : Hold G' → G := by (intro h; ((refine draw_more ?_; first | (apply draw_pl rfl rfl rfl rfl ?_ rfl rfl ?_; rotate_left; focus first | exact (.bld rfl rfl rfl rfl) | exact (.cat rfl rfl rfl (by first | (simp; done) | (simp; omega))) | exact (.neSelf rfl rfl rfl rfl) | exact (.eqSelf rfl rfl rfl rfl) | exact (.wr64 rfl rfl (by omega) (by omega)) | exact (.p rfl rfl) | exact (.cv64 rfl (fun _ => rfl) (by omega) (by omega)) | exact (.l rfl (fun _ _ => rfl)) | exact (.l rfl (look_own 0 rfl rfl rfl rfl)) | exact (.l rfl (look_own 1 rfl rfl rfl rfl)) | exact (.l rfl (look_own 2 rfl rfl rfl rfl)) | exact (.l rfl (look_own 3 rfl rfl rfl rfl)) | exact (.l rfl (look_own 4 rfl rfl rfl rfl)) | exact (.l rfl (look_own 5 rfl rfl rfl rfl)) | exact (.l rfl (look_own 6 rfl rfl rfl rfl)) | exact (.l rfl (look_own 7 rfl rfl rfl rfl)) | exact (.l rfl (look_own 8 rfl rfl rfl rfl)) | exact (.l rfl (look_own 9 rfl rfl rfl rfl)) | exact (.l rfl (look_own 10 rfl rfl rfl rfl)) | exact (.l rfl (look_own 11 rfl rfl rfl rfl)) | exact (.l rfl (look_agg 0 rfl rfl rfl rfl)) | exact (.l rfl (look_agg 1 rfl rfl rfl rfl)) | exact (.l rfl (look_agg 2 rfl rfl rfl rfl)) | exact (.l rfl (look_agg 3 rfl rfl rfl rfl)) | exact (.l rfl (look_agg 4 rfl rfl rfl rfl)) | exact (.l rfl (look_agg 5 rfl rfl rfl rfl)) | exact (.l rfl (look_agg 6 rfl rfl rfl rfl)) | exact (.l rfl (look_agg 7 rfl rfl rfl rfl)) | exact (.l rfl (look_agg 8 rfl rfl rfl rfl)) | exact (.l rfl (look_agg 9 rfl rfl rfl rfl)) | exact (.l rfl (look_agg 10 rfl rfl rfl rfl)) | exact (.l rfl (look_agg 11 rfl rfl rfl rfl))) | refine draw_skip rfl rfl rfl rfl ?_)); (repeat ((refine draw_more ?_; first | (apply draw_pl rfl rfl rfl rfl ?_ rfl rfl ?_; rotate_left; focus first | exact (.bld rfl rfl rfl rfl) | exact (.cat rfl rfl rfl (by first | (simp; done) | (simp; omega))) | exact (.neSelf rfl rfl rfl rfl) | exact (.eqSelf rfl rfl rfl rfl) | exact (.wr64 rfl rfl (by omega) (by omega)) | exact (.p rfl rfl) | exact (.cv64 rfl (fun _ => rfl) (by omega) (by omega)) | exact (.l rfl (fun _ _ => rfl)) | exact (.l rfl (look_own 0 rfl rfl rfl rfl)) | exact (.l rfl (look_own 1 rfl rfl rfl rfl)) | exact (.l rfl (look_own 2 rfl rfl rfl rfl)) | exact (.l rfl (look_own 3 rfl rfl rfl rfl)) | exact (.l rfl (look_own 4 rfl rfl rfl rfl)) | exact (.l rfl (look_own 5 rfl rfl rfl rfl)) | exact (.l rfl (look_own 6 rfl rfl rfl rfl)) | exact (.l rfl (look_own 7 rfl rfl rfl rfl)) | exact (.l rfl (look_own 8 rfl rfl rfl rfl)) | exact (.l rfl (look_own 9 rfl rfl rfl rfl)) | exact (.l rfl (look_own 10 rfl rfl rfl rfl)) | exact (.l rfl (look_own 11 rfl rfl rfl rfl)) | exact (.l rfl (look_agg 0 rfl rfl rfl rfl)) | exact (.l rfl (look_agg 1 rfl rfl rfl rfl)) | exact (.l rfl (look_agg 2 rfl rfl rfl rfl)) | exact (.l rfl (look_agg 3 rfl rfl rfl rfl)) | exact (.l rfl (look_agg 4 rfl rfl rfl rfl)) | exact (.l rfl (look_agg 5 rfl rfl rfl rfl)) | exact (.l rfl (look_agg 6 rfl rfl rfl rfl)) | exact (.l rfl (look_agg 7 rfl rfl rfl rfl)) | exact (.l rfl (look_agg 8 rfl rfl rfl rfl)) | exact (.l rfl (look_agg 9 rfl rfl rfl rfl)) | exact (.l rfl (look_agg 10 rfl rfl rfl rfl)) | exact (.l rfl (look_agg 11 rfl rfl rfl rfl))) | refine draw_skip rfl rfl rfl rfl ?_))); exact h.1)) : G := h ⟨h'⟩
theorem zrm {G G' : Prop} (h' : G') (h : Hold G' → G := by (intro h; (first | (refine exec_more ?_; first | refine exec_seq ?_ | refine exec_region ?_ | refine exec_block ?_ | refine exec_skip ?_ | refine exec_exit ?_ | refine exec_ret ?_ | refine exec_true rfl ?_ | refine exec_false rfl ?_) | refine ops_nil ?_ | (refine ops_more ?_; first | (apply ops_pl rfl rfl rfl ?_ rfl ?_; rotate_left; focus first | exact (.bld rfl rfl rfl rfl) | exact (.cat rfl rfl rfl (by first | (simp; done) | (simp; omega))) | exact (.neSelf rfl rfl rfl rfl) | exact (.eqSelf rfl rfl rfl rfl) | exact (.wr64 rfl rfl (by omega) (by omega)) | exact (.wr8 rfl rfl (by omega) (by omega)) | exact (.num rfl rfl (and127_u8N (by omega))) | exact (.num rfl rfl (or128_u8N (by omega))) | exact (.orU8 rfl rfl rfl (by omega) (by omega)) | exact (.num rfl rfl (and127_i64N (by omega))) | exact (.num rfl rfl (and1_i64N (by omega))) | exact (.p rfl rfl) | exact (.max2 rfl rfl rfl) | exact (.min2 rfl rfl rfl) | exact (.numL rfl (fun _ => rfl) (byte_wrap _)) | exact (.cv64 rfl (fun _ => rfl) (by omega) (by omega)) | exact (.cv8 rfl (fun _ => rfl) (by omega) (by omega)) | exact (.l rfl (fun _ _ => rfl)) | exact (.l rfl (look_own 0 rfl rfl rfl rfl)) | exact (.l rfl (look_own 1 rfl rfl rfl rfl)) | exact (.l rfl (look_own 2 rfl rfl rfl rfl)) | exact (.l rfl (look_own 3 rfl rfl rfl rfl)) | exact (.l rfl (look_own 4 rfl rfl rfl rfl)) | exact (.l rfl (look_own 5 rfl rfl rfl rfl)) | exact (.l rfl (look_own 6 rfl rfl rfl rfl)) | exact (.l rfl (look_own 7 rfl rfl rfl rfl)) | exact (.l rfl (look_agg 0 rfl rfl rfl rfl)) | exact (.l rfl (look_agg 1 rfl rfl rfl rfl)) | exact (.l rfl (look_agg 2 rfl rfl rfl rfl)) | exact (.l rfl (look_agg 3 rfl rfl rfl rfl)) | exact (.l rfl (look_agg 4 rfl rfl rfl rfl)) | exact (.l rfl (look_agg 5 rfl rfl rfl rfl)) | exact (.l rfl (look_agg 6 rfl rfl rfl rfl)) | exact (.l rfl (look_agg 7 rfl rfl rfl rfl))) | refine ops_skip rfl rfl rfl ?_ | (refine ops_step rfl rfl rfl ?_; first | refine step_storeZ 0 rfl rfl rfl rfl rfl rfl rfl rfl rfl ?_ | refine step_storeZ 1 rfl rfl rfl rfl rfl rfl rfl rfl rfl ?_ | refine step_storeZ 2 rfl rfl rfl rfl rfl rfl rfl rfl rfl ?_ | refine step_storeZ 3 rfl rfl rfl rfl rfl rfl rfl rfl rfl ?_ | refine step_storeZ 4 rfl rfl rfl rfl rfl rfl rfl rfl rfl ?_ | refine step_storeZ 5 rfl rfl rfl rfl rfl rfl rfl rfl rfl ?_ | refine step_storeZ 6 rfl rfl rfl rfl rfl rfl rfl rfl rfl ?_ | refine step_storeZ 7 rfl rfl rfl rfl rfl rfl rfl rfl rfl ?_))); (repeat (first | (refine exec_more ?_; first | refine exec_seq ?_ | refine exec_region ?_ | refine exec_block ?_ | refine exec_skip ?_ | refine exec_exit ?_ | refine exec_ret ?_ | refine exec_true rfl ?_ | refine exec_false rfl ?_) | refine ops_nil ?_ | (refine ops_more ?_; first | (apply ops_pl rfl rfl rfl ?_ rfl ?_; rotate_left; focus first | exact (.bld rfl rfl rfl rfl) | exact (.cat rfl rfl rfl (by first | (simp; done) | (simp; omega))) | exact (.neSelf rfl rfl rfl rfl) | exact (.eqSelf rfl rfl rfl rfl) | exact (.wr64 rfl rfl (by omega) (by omega)) | exact (.wr8 rfl rfl (by omega) (by omega)) | exact (.num rfl rfl (and127_u8N (by omega))) | exact (.num rfl rfl (or128_u8N (by omega))) | exact (.orU8 rfl rfl rfl (by omega) (by omega)) | exact (.num rfl rfl (and127_i64N (by omega))) | exact (.num rfl rfl (and1_i64N (by omega))) | exact (.p rfl rfl) | exact (.max2 rfl rfl rfl) | exact (.min2 rfl rfl rfl) | exact (.numL rfl (fun _ => rfl) (byte_wrap _)) | exact (.cv64 rfl (fun _ => rfl) (by omega) (by omega)) | exact (.cv8 rfl (fun _ => rfl) (by omega) (by omega)) | exact (.l rfl (fun _ _ => rfl)) | exact (.l rfl (look_own 0 rfl rfl rfl rfl)) | exact (.l rfl (look_own 1 rfl rfl rfl rfl)) | exact (.l rfl (look_own 2 rfl rfl rfl rfl)) | exact (.l rfl (look_own 3 rfl rfl rfl rfl)) | exact (.l rfl (look_own 4 rfl rfl rfl rfl)) | exact (.l rfl (look_own 5 rfl rfl rfl rfl)) | exact (.l rfl (look_own 6 rfl rfl rfl rfl)) | exact (.l rfl (look_own 7 rfl rfl rfl rfl)) | exact (.l rfl (look_agg 0 rfl rfl rfl rfl)) | exact (.l rfl (look_agg 1 rfl rfl rfl rfl)) | exact (.l rfl (look_agg 2 rfl rfl rfl rfl)) | exact (.l rfl (look_agg 3 rfl rfl rfl rfl)) | exact (.l rfl (look_agg 4 rfl rfl rfl rfl)) | exact (.l rfl (look_agg 5 rfl rfl rfl rfl)) | exact (.l rfl (look_agg 6 rfl rfl rfl rfl)) | exact (.l rfl (look_agg 7 rfl rfl rfl rfl))) | refine ops_skip rfl rfl rfl ?_ | (refine ops_step rfl rfl rfl ?_; first | refine step_storeZ 0 rfl rfl rfl rfl rfl rfl rfl rfl rfl ?_ | refine step_storeZ 1 rfl rfl rfl rfl rfl rfl rfl rfl rfl ?_ | refine step_storeZ 2 rfl rfl rfl rfl rfl rfl rfl rfl rfl ?_ | refine step_storeZ 3 rfl rfl rfl rfl rfl rfl rfl rfl rfl ?_ | refine step_storeZ 4 rfl rfl rfl rfl rfl rfl rfl rfl rfl ?_ | refine step_storeZ 5 rfl rfl rfl rfl rfl rfl rfl rfl rfl ?_ | refine step_storeZ 6 rfl rfl rfl rfl rfl rfl rfl rfl rfl ?_ | refine step_storeZ 7 rfl rfl rfl rfl rfl rfl rfl rfl rfl ?_)))); exact h.1)) : G := h ⟨h'⟩
theorem zom {G G' : Prop} (h' : G') (h : Hold G' → G := by (intro h; ((refine ops_more ?_; first | (apply ops_pl rfl rfl rfl ?_ rfl ?_; rotate_left; focus first | exact (.bld rfl rfl rfl rfl) | exact (.cat rfl rfl rfl (by first | (simp; done) | (simp; omega))) | exact (.neSelf rfl rfl rfl rfl) | exact (.eqSelf rfl rfl rfl rfl) | exact (.wr64 rfl rfl (by omega) (by omega)) | exact (.wr8 rfl rfl (by omega) (by omega)) | exact (.num rfl rfl (and127_u8N (by omega))) | exact (.num rfl rfl (or128_u8N (by omega))) | exact (.orU8 rfl rfl rfl (by omega) (by omega)) | exact (.num rfl rfl (and127_i64N (by omega))) | exact (.num rfl rfl (and1_i64N (by omega))) | exact (.p rfl rfl) | exact (.max2 rfl rfl rfl) | exact (.min2 rfl rfl rfl) | exact (.numL rfl (fun _ => rfl) (byte_wrap _)) | exact (.cv64 rfl (fun _ => rfl) (by omega) (by omega)) | exact (.cv8 rfl (fun _ => rfl) (by omega) (by omega)) | exact (.l rfl (fun _ _ => rfl)) | exact (.l rfl (look_own 0 rfl rfl rfl rfl)) | exact (.l rfl (look_own 1 rfl rfl rfl rfl)) | exact (.l rfl (look_own 2 rfl rfl rfl rfl)) | exact (.l rfl (look_own 3 rfl rfl rfl rfl)) | exact (.l rfl (look_own 4 rfl rfl rfl rfl)) | exact (.l rfl (look_own 5 rfl rfl rfl rfl)) | exact (.l rfl (look_own 6 rfl rfl rfl rfl)) | exact (.l rfl (look_own 7 rfl rfl rfl rfl)) | exact (.l rfl (look_agg 0 rfl rfl rfl rfl)) | exact (.l rfl (look_agg 1 rfl rfl rfl rfl)) | exact (.l rfl (look_agg 2 rfl rfl rfl rfl)) | exact (.l rfl (look_agg 3 rfl rfl rfl rfl)) | exact (.l rfl (look_agg 4 rfl rfl rfl rfl)) | exact (.l rfl (look_agg 5 rfl rfl rfl rfl)) | exact (.l rfl (look_agg 6 rfl rfl rfl rfl)) | exact (.l rfl (look_agg 7 rfl rfl rfl rfl))) | refine ops_skip rfl rfl rfl ?_ | (refine ops_step rfl rfl rfl ?_; first | refine step_storeZ 0 rfl rfl rfl rfl rfl rfl rfl rfl rfl ?_ | refine step_storeZ 1 rfl rfl rfl rfl rfl rfl rfl rfl rfl ?_ | refine step_storeZ 2 rfl rfl rfl rfl rfl rfl rfl rfl rfl ?_ | refine step_storeZ 3 rfl rfl rfl rfl rfl rfl rfl rfl rfl ?_ | refine step_storeZ 4 rfl rfl rfl rfl rfl rfl rfl rfl rfl ?_ | refine step_storeZ 5 rfl rfl rfl rfl rfl rfl rfl rfl rfl ?_ | refine step_storeZ 6 rfl rfl rfl rfl rfl rfl rfl rfl rfl ?_ | refine step_storeZ 7 rfl rfl rfl rfl rfl rfl rfl rfl rfl ?_))); (repeat ((refine ops_more ?_; first | (apply ops_pl rfl rfl rfl ?_ rfl ?_; rotate_left; focus first | exact (.bld rfl rfl rfl rfl) | exact (.cat rfl rfl rfl (by first | (simp; done) | (simp; omega))) | exact (.neSelf rfl rfl rfl rfl) | exact (.eqSelf rfl rfl rfl rfl) | exact (.wr64 rfl rfl (by omega) (by omega)) | exact (.wr8 rfl rfl (by omega) (by omega)) | exact (.num rfl rfl (and127_u8N (by omega))) | exact (.num rfl rfl (or128_u8N (by omega))) | exact (.orU8 rfl rfl rfl (by omega) (by omega)) | exact (.num rfl rfl (and127_i64N (by omega))) | exact (.num rfl rfl (and1_i64N (by omega))) | exact (.p rfl rfl) | exact (.max2 rfl rfl rfl) | exact (.min2 rfl rfl rfl) | exact (.numL rfl (fun _ => rfl) (byte_wrap _)) | exact (.cv64 rfl (fun _ => rfl) (by omega) (by omega)) | exact (.cv8 rfl (fun _ => rfl) (by omega) (by omega)) | exact (.l rfl (fun _ _ => rfl)) | exact (.l rfl (look_own 0 rfl rfl rfl rfl)) | exact (.l rfl (look_own 1 rfl rfl rfl rfl)) | exact (.l rfl (look_own 2 rfl rfl rfl rfl)) | exact (.l rfl (look_own 3 rfl rfl rfl rfl)) | exact (.l rfl (look_own 4 rfl rfl rfl rfl)) | exact (.l rfl (look_own 5 rfl rfl rfl rfl)) | exact (.l rfl (look_own 6 rfl rfl rfl rfl)) | exact (.l rfl (look_own 7 rfl rfl rfl rfl)) | exact (.l rfl (look_agg 0 rfl rfl rfl rfl)) | exact (.l rfl (look_agg 1 rfl rfl rfl rfl)) | exact (.l rfl (look_agg 2 rfl rfl rfl rfl)) | exact (.l rfl (look_agg 3 rfl rfl rfl rfl)) | exact (.l rfl (look_agg 4 rfl rfl rfl rfl)) | exact (.l rfl (look_agg 5 rfl rfl rfl rfl)) | exact (.l rfl (look_agg 6 rfl rfl rfl rfl)) | exact (.l rfl (look_agg 7 rfl rfl rfl rfl))) | refine ops_skip rfl rfl rfl ?_ | (refine ops_step rfl rfl rfl ?_; first | refine step_storeZ 0 rfl rfl rfl rfl rfl rfl rfl rfl rfl ?_ | refine step_storeZ 1 rfl rfl rfl rfl rfl rfl rfl rfl rfl ?_ | refine step_storeZ 2 rfl rfl rfl rfl rfl rfl rfl rfl rfl ?_ | refine step_storeZ 3 rfl rfl rfl rfl rfl rfl rfl rfl rfl ?_ | refine step_storeZ 4 rfl rfl rfl rfl rfl rfl rfl rfl rfl ?_ | refine step_storeZ 5 rfl rfl rfl rfl rfl rfl rfl rfl rfl ?_ | refine step_storeZ 6 rfl rfl rfl rfl rfl rfl rfl rfl rfl ?_ | refine step_storeZ 7 rfl rfl rfl rfl rfl rfl rfl rfl rfl ?_)))); exact h.1)) : G := h ⟨h'⟩
theorem zdm {G G' : Prop} (h' : G') (h : Hold G' → G := by (intro h; ((refine draw_more ?_; first | (apply draw_pl rfl rfl rfl rfl ?_ rfl rfl ?_; rotate_left; focus first | exact (.bld rfl rfl rfl rfl) | exact (.cat rfl rfl rfl (by first | (simp; done) | (simp; omega))) | exact (.neSelf rfl rfl rfl rfl) | exact (.eqSelf rfl rfl rfl rfl) | exact (.wr64 rfl rfl (by omega) (by omega)) | exact (.wr8 rfl rfl (by omega) (by omega)) | exact (.num rfl rfl (and127_u8N (by omega))) | exact (.num rfl rfl (or128_u8N (by omega))) | exact (.orU8 rfl rfl rfl (by omega) (by omega)) | exact (.num rfl rfl (and127_i64N (by omega))) | exact (.num rfl rfl (and1_i64N (by omega))) | exact (.p rfl rfl) | exact (.max2 rfl rfl rfl) | exact (.min2 rfl rfl rfl) | exact (.numL rfl (fun _ => rfl) (byte_wrap _)) | exact (.cv64 rfl (fun _ => rfl) (by omega) (by omega)) | exact (.cv8 rfl (fun _ => rfl) (by omega) (by omega)) | exact (.l rfl (fun _ _ => rfl)) | exact (.l rfl (look_own 0 rfl rfl rfl rfl)) | exact (.l rfl (look_own 1 rfl rfl rfl rfl)) | exact (.l rfl (look_own 2 rfl rfl rfl rfl)) | exact (.l rfl (look_own 3 rfl rfl rfl rfl)) | exact (.l rfl (look_own 4 rfl rfl rfl rfl)) | exact (.l rfl (look_own 5 rfl rfl rfl rfl)) | exact (.l rfl (look_own 6 rfl rfl rfl rfl)) | exact (.l rfl (look_own 7 rfl rfl rfl rfl)) | exact (.l rfl (look_agg 0 rfl rfl rfl rfl)) | exact (.l rfl (look_agg 1 rfl rfl rfl rfl)) | exact (.l rfl (look_agg 2 rfl rfl rfl rfl)) | exact (.l rfl (look_agg 3 rfl rfl rfl rfl)) | exact (.l rfl (look_agg 4 rfl rfl rfl rfl)) | exact (.l rfl (look_agg 5 rfl rfl rfl rfl)) | exact (.l rfl (look_agg 6 rfl rfl rfl rfl)) | exact (.l rfl (look_agg 7 rfl rfl rfl rfl))) | refine draw_skip rfl rfl rfl rfl ?_)); (repeat ((refine draw_more ?_; first | (apply draw_pl rfl rfl rfl rfl ?_ rfl rfl ?_; rotate_left; focus first | exact (.bld rfl rfl rfl rfl) | exact (.cat rfl rfl rfl (by first | (simp; done) | (simp; omega))) | exact (.neSelf rfl rfl rfl rfl) | exact (.eqSelf rfl rfl rfl rfl) | exact (.wr64 rfl rfl (by omega) (by omega)) | exact (.wr8 rfl rfl (by omega) (by omega)) | exact (.num rfl rfl (and127_u8N (by omega))) | exact (.num rfl rfl (or128_u8N (by omega))) | exact (.orU8 rfl rfl rfl (by omega) (by omega)) | exact (.num rfl rfl (and127_i64N (by omega))) | exact (.num rfl rfl (and1_i64N (by omega))) | exact (.p rfl rfl) | exact (.max2 rfl rfl rfl) | exact (.min2 rfl rfl rfl) | exact (.numL rfl (fun _ => rfl) (byte_wrap _)) | exact (.cv64 rfl (fun _ => rfl) (by omega) (by omega)) | exact (.cv8 rfl (fun _ => rfl) (by omega) (by omega)) | exact (.l rfl (fun _ _ => rfl)) | exact (.l rfl (look_own 0 rfl rfl rfl rfl)) | exact (.l rfl (look_own 1 rfl rfl rfl rfl)) | exact (.l rfl (look_own 2 rfl rfl rfl rfl)) | exact (.l rfl (look_own 3 rfl rfl rfl rfl)) | exact (.l rfl (look_own 4 rfl rfl rfl rfl)) | exact (.l rfl (look_own 5 rfl rfl rfl rfl)) | exact (.l rfl (look_own 6 rfl rfl rfl rfl)) | exact (.l rfl (look_own 7 rfl rfl rfl rfl)) | exact (.l rfl (look_agg 0 rfl rfl rfl rfl)) | exact (.l rfl (look_agg 1 rfl rfl rfl rfl)) | exact (.l rfl (look_agg 2 rfl rfl rfl rfl)) | exact (.l rfl (look_agg 3 rfl rfl rfl rfl)) | exact (.l rfl (look_agg 4 rfl rfl rfl rfl)) | exact (.l rfl (look_agg 5 rfl rfl rfl rfl)) | exact (.l rfl (look_agg 6 rfl rfl rfl rfl)) | exact (.l rfl (look_agg 7 rfl rfl rfl rfl))) | refine draw_skip rfl rfl rfl rfl ?_))); exact h.1)) : G := h ⟨h'⟩
theorem zn {G G' : Prop} (h' : G') (h : Hold G' → G := by (intro h; refine ops_more ?_; refine ops_step rfl rfl rfl ?_; first | (refine step_box rfl rfl rfl ?_; exact h.1) | (refine step_alloc rfl rfl rfl rfl ?_; exact h.1) | (refine step_buildSliceF rfl rfl rfl rfl rfl rfl ?_; exact h.1) | (refine step_map rfl ?_; exact h.1))) : G := h ⟨h'⟩
theorem zs1 {A B : Prop} (hb : B) (ha : A := by (first | exact .inl rfl | exact .inr ⟨veq_refl rfl, (fun _ _ => rfl)⟩ | exact .inr ⟨veq_refl rfl, (look_own 0 rfl rfl rfl rfl)⟩ | exact .inr ⟨veq_refl rfl, (look_own 1 rfl rfl rfl rfl)⟩ | exact .inr ⟨veq_refl rfl, (look_own 2 rfl rfl rfl rfl)⟩ | exact .inr ⟨veq_refl rfl, (look_own 3 rfl rfl rfl rfl)⟩ | exact .inr ⟨veq_refl rfl, (look_own 4 rfl rfl rfl rfl)⟩ | exact .inr ⟨veq_refl rfl, (look_own 5 rfl rfl rfl rfl)⟩ | exact .inr ⟨veq_refl rfl, (look_own 6 rfl rfl rfl rfl)⟩ | exact .inr ⟨veq_refl rfl, (look_own 7 rfl rfl rfl rfl)⟩ | exact .inr ⟨veq_refl rfl, (look_own 8 rfl rfl rfl rfl)⟩ | exact .inr ⟨veq_refl rfl, (look_own 9 rfl rfl rfl rfl)⟩ | exact .inr ⟨veq_refl rfl, (look_own 10 rfl rfl rfl rfl)⟩ | exact .inr ⟨veq_refl rfl, (look_own 11 rfl rfl rfl rfl)⟩ | exact .inr ⟨veq_refl rfl, (look_agg 0 rfl rfl rfl rfl)⟩ | exact .inr ⟨veq_refl rfl, (look_agg 1 rfl rfl rfl rfl)⟩ | exact .inr ⟨veq_refl rfl, (look_agg 2 rfl rfl rfl rfl)⟩ | exact .inr ⟨veq_refl rfl, (look_agg 3 rfl rfl rfl rfl)⟩ | exact .inr ⟨veq_refl rfl, (look_agg 4 rfl rfl rfl rfl)⟩ | exact .inr ⟨veq_refl rfl, (look_agg 5 rfl rfl rfl rfl)⟩ | exact .inr ⟨veq_refl rfl, (look_agg 6 rfl rfl rfl rfl)⟩ | exact .inr ⟨veq_refl rfl, (look_agg 7 rfl rfl rfl rfl)⟩ | exact .inr ⟨veq_refl rfl, (look_agg 8 rfl rfl rfl rfl)⟩ | exact .inr ⟨veq_refl rfl, (look_agg 9 rfl rfl rfl rfl)⟩ | exact .inr ⟨veq_refl rfl, (look_agg 10 rfl rfl rfl rfl)⟩ | exact .inr ⟨veq_refl rfl, (look_agg 11 rfl rfl rfl rfl)⟩)) : A ∧ B := ⟨ha, hb⟩
theorem zst {A B : Prop} (hb : B) (ha : A := by (repeat (first | exact True.intro | refine zs1 ?_))) : A ∧ B := ⟨ha, hb⟩
end Go.Ev.Wk
namespace Go.Proofs.YtlhkndjloeoodaaGreat
open Go.Ev Go.Ev.Wk
variable {O : Old}
abbrev by8 (b : UInt8) : Value := .int .u8 (b.toNat : Int)
def numGo (most : Int) : List UInt8 → Nat → Nat → Int × Int × Int
  | [], _, _ => (0, 0, 20)
  | c :: r, i, v => if i = 8 ∧ 128 ≤ c.toNat ∨ 0 < i ∧ c.toNat = 0 then (0, 0, 21) else
    if 128 ≤ c.toNat then numGo most r (i + 1) (v + c.toNat % 128 * 2 ^ (7 * i)) else
    if ((v + c.toNat % 128 * 2 ^ (7 * i) : Nat) : Int) > max most 0 then (0, 0, 22) else (((v + c.toNat % 128 * 2 ^ (7 * i) : Nat) : Int), ((i + 1 : Nat) : Int), 0)
def numR (l : List UInt8) (most : Int) : Int × Int × Int := numGo most l 0 0
abbrev rdr (a : Option Addr) (n c : Nat) (e : Int) : Cont := .cells 0 [.slice a n c, .int .i64 e] 0 161
set_option maxHeartbeats 8000000 in
set_option maxRecDepth 100000 in
theorem num_ok {H : Heap} {rb : Nat} {a : Option Addr} {n c : Nat} {l : List UInt8} {e most : Int} (hh : Has H rb (rdr a n c e)) (hlt : rb < H.next) (hs0 : SlX [rb] O H (.slice a n c) 1 n (l.map by8)) (hn : n ≤ 1073741824) :
    CallC TT O 135 [.pointer (some ⟨rb, 0, some 0⟩), .int .i64 most] H fun v H' => ∃ ct', ExtBut [rb] H H' ∧ Has H' rb ct' ∧ (ct' = rdr a n c e ∧ v = .tuple #[.int .i64 (numR l most).1, .int .i64 (numR l most).2.1, .int .i64 (numR l most).2.2]) := by
  have hln : l.length = n := by have := (hs0 H (ExtBut.refl _ _)).1; simpa using this
  refine call_mut rfl rfl rfl rfl rfl hh hlt ?_
  repeat (first | refine zrm ?_ | (refine zn ?_; intro _))
  refine ExecS.weak (E' := [(0, .pointer (some ⟨rb, 0, some 0⟩)), (1, .int .i64 most), (7, .int .i64 ((0 : Nat) : Int)), (13, .slice a n c), (14, .int .i64 (n : Int)), (15, .int .i64 ((0 : Nat) : Int))]) ⟨rfl, rfl, rfl, rfl, rfl, rfl, trivial⟩ (.refl _) ?_
  refine exec_loop (fun q E L => ∃ i v : Nat, i + q = n ∧ i ≤ 8 ∧ v < 2 ^ (7 * i) ∧ numR l most = numGo most (l.drop i) i v ∧ E = [(0, .pointer (some ⟨rb, 0, some 0⟩)), (1, .int .i64 most), (7, .int .i64 (v : Int)), (13, .slice a n c), (14, .int .i64 (n : Int)), (15, .int .i64 (i : Int))] ∧ L = [(some rb, rdr a n c e)]) ?_ n _ _ ⟨0, 0, by omega, by omega, by decide, rfl, rfl, rfl⟩
  rintro q E L ⟨i, v, hiq, hi8, hv, hnum, rfl, rfl⟩
  repeat (first | refine zrm ?_ | (refine zn ?_; intro _))
  refine exec_cond rfl (fun hlt' => ?_) (fun hge => ?_)
  rotate_left
  · repeat (first | refine zrm ?_ | (refine zn ?_; intro _))
    refine ⟨trivial, _, rfl, _, .head _, rfl, ?_⟩
    have hin : n ≤ i := by simp at hge; omega
    rw [hnum, List.drop_eq_nil_of_le (by omega)]
    rfl
  have hi : i < n := by simp at hlt'; omega
  repeat (first | refine zrm ?_ | (refine zn ?_; intro _))
  (first | apply ops_pl rfl rfl rfl ?_ rfl ?_ | apply draw_pl rfl rfl rfl rfl ?_ rfl rfl ?_); rotate_left; focus exact (.p rfl (opP_idx rfl rfl (hs0 H (ExtBut.refl _ _)) rfl rfl (by omega) (by omega)))
  have hil : i < l.length := by omega
  (first | apply ops_pl rfl rfl rfl ?_ rfl ?_ | apply draw_pl rfl rfl rfl rfl ?_ rfl rfl ?_); rotate_left; focus exact (.l rfl (fun H hs => opL_load rfl ((hs0.at hs).ld rfl (getMap (l := l) (i := i) hil rfl))))
  have hdrop : l.drop i = l[i] :: l.drop (i + 1) := List.drop_eq_getElem_cons hil
  rw [hdrop] at hnum
  generalize l[i] = ch at hnum
  have hch : ch.toNat ≤ 255 := by have := ch.toNat_lt; omega
  repeat (first | refine zom ?_ | (refine zn ?_; intro _))
  refine ops_nil ?_
  refine exec_seq ?_
  refine exec_midQ (fun E L => ¬ (i = 8 ∧ 128 ≤ ch.toNat ∨ 0 < i ∧ ch.toNat = 0) ∧ SubE [(0, .pointer (some ⟨rb, 0, some 0⟩)), (1, .int .i64 most), (7, .int .i64 (v : Int)), (8, .int .i64 (i : Int)), (9, by8 ch), (13, .slice a n c), (14, .int .i64 (n : Int)), (15, .int .i64 (i : Int))] E ∧ L = [(some rb, rdr a n c e)]) ?_ ?_
  · repeat (first | refine zrm ?_ | (refine zn ?_; intro _))
    cases h8 : ((i : Int) == 8)
    · repeat (first | refine zrm ?_ | (refine zn ?_; intro _))
      cases h0 : decide ((i : Int) > 0)
      · repeat (first | refine zrm ?_ | (refine zn ?_; intro _))
        exact ⟨by simp at h8 h0; omega, ⟨rfl, rfl, rfl, rfl, rfl, rfl, rfl, rfl, trivial⟩, rfl⟩
      · repeat (first | refine zrm ?_ | (refine zn ?_; intro _))
        cases hz : ((ch.toNat : Int) == 0)
        · repeat (first | refine zrm ?_ | (refine zn ?_; intro _))
          exact ⟨by simp at h8 h0 hz; omega, ⟨rfl, rfl, rfl, rfl, rfl, rfl, rfl, rfl, trivial⟩, rfl⟩
        · repeat (first | refine zrm ?_ | (refine zn ?_; intro _))
          refine ⟨trivial, _, rfl, _, .head _, rfl, ?_⟩
          rw [hnum, numGo, if_pos (by simp at h8 h0 hz; omega)]
          rfl
    · repeat (first | refine zrm ?_ | (refine zn ?_; intro _))
      cases hg : decide ((ch.toNat : Int) ≥ 128)
      · repeat (first | refine zrm ?_ | (refine zn ?_; intro _))
        cases h0 : decide ((i : Int) > 0)
        · simp at h8 h0; omega
        · repeat (first | refine zrm ?_ | (refine zn ?_; intro _))
          cases hz : ((ch.toNat : Int) == 0)
          · repeat (first | refine zrm ?_ | (refine zn ?_; intro _))
            exact ⟨by simp at h8 hg hz; omega, ⟨rfl, rfl, rfl, rfl, rfl, rfl, rfl, rfl, trivial⟩, rfl⟩
          · repeat (first | refine zrm ?_ | (refine zn ?_; intro _))
            refine ⟨trivial, _, rfl, _, .head _, rfl, ?_⟩
            rw [hnum, numGo, if_pos (by simp at h8 hg h0 hz; omega)]
            rfl
      · repeat (first | refine zrm ?_ | (refine zn ?_; intro _))
        refine ⟨trivial, _, rfl, _, .head _, rfl, ?_⟩
        rw [hnum, numGo, if_pos (by simp at h8 hg; omega)]
        rfl
  rintro E L ⟨hno, hE, rfl⟩
  refine ExecS.weak hE (.refl _) ?_
  have hp56 : 2 ^ (7 * i) ≤ 2 ^ 56 := Nat.pow_le_pow_right (by decide) (by omega)
  have hc127 : ch.toNat % 128 ≤ 127 := by omega
  have hmul : ch.toNat % 128 * 2 ^ (7 * i) ≤ 127 * 2 ^ (7 * i) := Nat.mul_le_mul_right _ hc127
  rw [numGo, if_neg hno] at hnum
  repeat (first | refine zrm ?_ | (refine zn ?_; intro _))
  rw [shl_raw (a := ch.toNat % 128) (s := 7 * i) (b := 7 * (i : Int)) (by push_cast; rfl) (by omega) (by omega), or_i64 hv (by omega)]
  generalize hv' : v + ch.toNat % 128 * 2 ^ (7 * i) = v' at hnum
  have hvlt : v' < 2 ^ (7 * (i + 1)) := by
    have : 2 ^ (7 * (i + 1)) = 128 * 2 ^ (7 * i) := by rw [show 7 * (i + 1) = 7 + 7 * i by omega, Nat.pow_add]
    omega
  refine exec_cond rfl (fun hge => ?_) (fun hlt2 => ?_)
  · repeat (first | refine zrm ?_ | (refine zn ?_; intro _))
    have h128 : 128 ≤ ch.toNat := by simp at hge; omega
    rw [if_pos h128] at hnum
    refine ⟨q - 1, by omega, _, _, ?_, .refl _, i + 1, v', by omega, ?_, hvlt, hnum, rfl, rfl⟩
    · exact ⟨rfl, rfl, rfl, rfl, rfl, rfl, trivial⟩
    · omega
  · have h128 : ¬ 128 ≤ ch.toNat := by simp at hlt2; omega
    rw [if_neg h128] at hnum
    repeat (first | refine zrm ?_ | (refine zn ?_; intro _))
    refine exec_cond rfl (fun hgt => ?_) (fun hle => ?_)
    · repeat (first | refine zrm ?_ | (refine zn ?_; intro _))
      refine ⟨trivial, _, rfl, _, .head _, rfl, ?_⟩
      rw [hnum, if_pos (by simpa using hgt)]
      rfl
    · repeat (first | refine zrm ?_ | (refine zn ?_; intro _))
      refine ⟨trivial, _, rfl, _, .head _, rfl, ?_⟩
      rw [hnum, if_neg (by simpa using hle)]
      rfl
end Go.Proofs.YtlhkndjloeoodaaGreat
namespace Go.Proofs.YtlhkndjloeoodaaGreat
open Go.Ev Go.Ev.Wk
variable {O : Old}
theorem numGo_len (most : Int) : ∀ (l : List UInt8) (i v : Nat), ∃ (x : Int) (k : Nat) (e : Int), numGo most l i v = (x, (k : Int), e) ∧ (k = 0 ∨ i < k ∧ k ≤ i + l.length) ∧ (e ≠ 0 → x = 0 ∧ k = 0) ∧ 0 ≤ e
  | [], i, v => ⟨0, 0, 20, rfl, .inl rfl, fun _ => ⟨rfl, rfl⟩, by decide⟩
  | c :: r, i, v => by
    rw [numGo]
    split
    · exact ⟨0, 0, 21, rfl, .inl rfl, fun _ => ⟨rfl, rfl⟩, by decide⟩
    · split
      · obtain ⟨x, k, e, h1, h2, h3, h4⟩ := numGo_len most r (i + 1) (v + c.toNat % 128 * 2 ^ (7 * i))
        refine ⟨x, k, e, h1, ?_, h3, h4⟩
        simp only [List.length_cons]
        omega
      · split
        · exact ⟨0, 0, 22, rfl, .inl rfl, fun _ => ⟨rfl, rfl⟩, by decide⟩
        · refine ⟨_, i + 1, 0, rfl, ?_, fun h => absurd rfl h, by decide⟩
          simp only [List.length_cons]
          omega
theorem numR_len (l : List UInt8) (most : Int) : ∃ (x : Int) (k : Nat) (e : Int), numR l most = (x, (k : Int), e) ∧ k ≤ l.length ∧ (e ≠ 0 → x = 0 ∧ k = 0) ∧ 0 ≤ e := by
  obtain ⟨x, k, e, h1, h2, h3, h4⟩ := numGo_len most l 0 0
  exact ⟨x, k, e, h1, by omega, h3, h4⟩
theorem num_ok' {H : Heap} {rb : Nat} {a : Option Addr} {n c : Nat} {l : List UInt8} {e most x k e' : Int} (hh : Has H rb (rdr a n c e)) (hlt : rb < H.next) (hs0 : SlX [rb] O H (.slice a n c) 1 n (l.map by8)) (hn : n ≤ 1073741824) (hr : numR l most = (x, k, e')) :
    CallC TT O 135 [.pointer (some ⟨rb, 0, some 0⟩), .int .i64 most] H fun v H' => ∃ ct', ExtBut [rb] H H' ∧ Has H' rb ct' ∧ (ct' = rdr a n c e ∧ v = .tuple #[.int .i64 x, .int .i64 k, .int .i64 e']) := by
  have := num_ok (most := most) hh hlt hs0 hn
  rw [hr] at this
  exact this
set_option maxHeartbeats 8000000 in
set_option maxRecDepth 100000 in
theorem numErr_ok {H : Heap} {rb : Nat} {a : Option Addr} {n c : Nat} {e most : Int} (hh : Has H rb (rdr a n c e)) (hlt : rb < H.next) (he : e ≠ 0) :
    CallC TT O 97 [.pointer (some ⟨rb, 0, some 0⟩), .int .i64 most] H fun v H' => ∃ ct', ExtBut [rb] H H' ∧ Has H' rb ct' ∧ (ct' = rdr a n c e ∧ v = .int .i64 0) := by
  refine call_mut rfl rfl rfl rfl rfl hh hlt ?_
  repeat (first | refine zrm ?_ | (refine zn ?_; intro _))
  have hne : (e != 0) = true := by simpa using he
  rw [hne]
  repeat (first | refine zrm ?_ | (refine zn ?_; intro _))
  exact ⟨trivial, _, rfl, _, .head _, rfl, rfl⟩
set_option maxHeartbeats 8000000 in
set_option maxRecDepth 100000 in
theorem numM_ok {H : Heap} {rb : Nat} {a : Option Addr} {n c k : Nat} {l : List UInt8} {most x e' : Int} (hh : Has H rb (rdr a n c 0)) (hlt : rb < H.next) (hs0 : SlX [rb] O H (.slice a n c) 1 n (l.map by8)) (hn : n ≤ 1073741824) (hr : numR l most = (x, (k : Int), e')) :
    CallC TT O 97 [.pointer (some ⟨rb, 0, some 0⟩), .int .i64 most] H fun v H' => ∃ ct', ExtBut [rb] H H' ∧ Has H' rb ct' ∧ (ct' = rdr (cutAddr a 1 c k) (n - k) (cutCap' a c k) e' ∧ v = .int .i64 x) := by
  have hln : l.length = n := by have := (hs0 H (ExtBut.refl _ _)).1; simpa using this
  have hkn : k ≤ n := by
    obtain ⟨x1, k1, e1, h1, h2, _⟩ := numR_len l most
    rw [hr] at h1
    simp only [Prod.mk.injEq] at h1
    omega
  refine call_mut rfl rfl rfl rfl rfl hh hlt ?_
  repeat (first | refine zrm ?_ | (refine zn ?_; intro _))
  refine ops_step rfl rfl rfl (step_call_mut 0 rfl rfl rfl rfl (fun H' hs hh' hlt' => num_ok' hh' hlt' (hs0.mono hs.ext (fun _ h => h)) hn hr) (fun v ct' h => ?_))
  obtain ⟨rfl, rfl⟩ := h
  repeat (first | refine zrm ?_ | (refine zn ?_; intro _))
  (first | apply ops_pl rfl rfl rfl ?_ rfl ?_ | apply draw_pl rfl rfl rfl rfl ?_ rfl rfl ?_); rotate_left; focus exact (.l rfl (look_cut (l := k) (h := n) rfl rfl rfl rfl (by omega) rfl (by omega) (fun H hs => hs0.at hs) rfl rfl (by omega) (by omega)))
  repeat (first | refine zrm ?_ | (refine zn ?_; intro _))
  exact ⟨trivial, _, rfl, _, .head _, rfl, rfl⟩
def intOf (x : Nat) : Int := if x % 2 = 1 then IntKind.i32.wrap (-(((x + 1) / 2 : Nat) : Int)) else IntKind.i32.wrap ((x / 2 : Nat) : Int)
theorem tdiv2 (x : Nat) : ((x : Int).tdiv 2) = ((x / 2 : Nat) : Int) := by simp [Int.tdiv]
theorem tdiv2n (x : Nat) : ((0 - ((x : Int) + 1)).tdiv 2) = -(((x + 1) / 2 : Nat) : Int) := by
  rw [Int.zero_sub, Int.neg_tdiv]
  congr 1
set_option maxHeartbeats 8000000 in
set_option maxRecDepth 100000 in
theorem intErr_ok {H : Heap} {rb : Nat} {a : Option Addr} {n c : Nat} {e : Int} (hh : Has H rb (rdr a n c e)) (hlt : rb < H.next) (he : e ≠ 0) :
    CallC TT O 176 [.pointer (some ⟨rb, 0, some 0⟩)] H fun v H' => ∃ ct', ExtBut [rb] H H' ∧ Has H' rb ct' ∧ (ct' = rdr a n c e ∧ v = .int .i32 0) := by
  refine call_mut rfl rfl rfl rfl rfl hh hlt ?_
  repeat (first | refine zrm ?_ | (refine zn ?_; intro _))
  refine ops_step rfl rfl rfl (step_call_mut 0 rfl rfl rfl rfl (fun H' hs hh' hlt' => numErr_ok hh' hlt' he) (fun v ct' h => ?_))
  obtain ⟨rfl, rfl⟩ := h
  repeat (first | refine zrm ?_ | (refine zn ?_; intro _))
  exact ⟨trivial, _, rfl, _, .head _, rfl, rfl⟩
set_option maxHeartbeats 8000000 in
set_option maxRecDepth 100000 in
theorem intM_ok {H : Heap} {rb : Nat} {a : Option Addr} {n c k x : Nat} {l : List UInt8} {e' : Int} (hh : Has H rb (rdr a n c 0)) (hlt : rb < H.next) (hs0 : SlX [rb] O H (.slice a n c) 1 n (l.map by8)) (hn : n ≤ 1073741824) (hr : numR l 4294967295 = ((x : Int), (k : Int), e')) (hx : x ≤ 4294967295) :
    CallC TT O 176 [.pointer (some ⟨rb, 0, some 0⟩)] H fun v H' => ∃ ct', ExtBut [rb] H H' ∧ Has H' rb ct' ∧ (ct' = rdr (cutAddr a 1 c k) (n - k) (cutCap' a c k) e' ∧ v = .int .i32 (intOf x)) := by
  refine call_mut rfl rfl rfl rfl rfl hh hlt ?_
  repeat (first | refine zrm ?_ | (refine zn ?_; intro _))
  refine ops_step rfl rfl rfl (step_call_mut 0 rfl rfl rfl rfl (fun H' hs hh' hlt' => numM_ok hh' hlt' (hs0.mono hs.ext (fun _ h => h)) hn hr) (fun v ct' h => ?_))
  obtain ⟨rfl, rfl⟩ := h
  repeat (first | refine zrm ?_ | (refine zn ?_; intro _))
  cases hb : (((x % 2 : Nat) : Int) == 1)
  · repeat (first | refine zrm ?_ | (refine zn ?_; intro _))
    refine ⟨trivial, _, rfl, _, .head _, rfl, ?_⟩
    have h2 : ¬ x % 2 = 1 := by simp at hb; omega
    simp only [oneOf, intOf, if_neg h2, tdiv2]
    rw [w64 (n := ((x / 2 : Nat) : Int)) rfl (by omega) (by omega)]
  · repeat (first | refine zrm ?_ | (refine zn ?_; intro _))
    refine ⟨trivial, _, rfl, _, .head _, rfl, ?_⟩
    have h2 : x % 2 = 1 := by simp at hb; omega
    simp only [oneOf, intOf, if_pos h2, tdiv2n]
    rw [w64 (n := -(((x + 1) / 2 : Nat) : Int)) rfl (by omega) (by omega)]
set_option maxHeartbeats 8000000 in
set_option maxRecDepth 100000 in
theorem err_ok {H : Heap} {rb : Nat} {a : Option Addr} {n c : Nat} {e : Int} (hh : Has H rb (rdr a n c e)) (hlt : rb < H.next) :
    CallC TT O 57 [.pointer (some ⟨rb, 0, some 0⟩)] H fun v H' => ∃ ct', ExtBut [rb] H H' ∧ Has H' rb ct' ∧ (ct' = rdr a n c e ∧ v = .int .i64 e) := by
  refine call_mut rfl rfl rfl rfl rfl hh hlt ?_
  repeat (first | refine zrm ?_ | (refine zn ?_; intro _))
  exact ⟨trivial, _, rfl, _, .head _, rfl, rfl⟩
set_option maxHeartbeats 8000000 in
set_option maxRecDepth 100000 in
theorem done_ok {H : Heap} {rb : Nat} {a : Option Addr} {n c : Nat} {e : Int} (hh : Has H rb (rdr a n c e)) (hlt : rb < H.next) :
    CallC TT O 61 [.pointer (some ⟨rb, 0, some 0⟩)] H fun v H' => ∃ ct', ExtBut [rb] H H' ∧ Has H' rb ct' ∧ (ct' = rdr a n c e ∧ v = .bool (e == 0 && (n : Int) == 0)) := by
  refine call_mut rfl rfl rfl rfl rfl hh hlt ?_
  repeat (first | refine zrm ?_ | (refine zn ?_; intro _))
  cases he : (e == 0)
  · repeat (first | refine zrm ?_ | (refine zn ?_; intro _))
    exact ⟨trivial, _, rfl, _, .head _, rfl, by simp [oneOf]⟩
  · repeat (first | refine zrm ?_ | (refine zn ?_; intro _))
    exact ⟨trivial, _, rfl, _, .head _, rfl, by simp [oneOf]⟩
set_option maxHeartbeats 8000000 in
set_option maxRecDepth 100000 in
theorem new_ok {X : List Nat} {H0 H : Heap} {L : Atoms} {a : Option Addr} {n c : Nat} (hst : St X H0 H L) :
    CallC TT O 55 [.slice a n c] H fun v H' => ∃ L', St X H0 H' L' ∧ ∃ rb, v = .pointer (some ⟨rb, 0, some 0⟩) ∧ L' = (some rb, rdr a n c 0) :: L := by
  refine call_intro rfl rfl rfl rfl hst rfl ?_
  repeat (first | refine zrm ?_ | (refine zn ?_; intro _))
  exact ⟨trivial, _, rfl, _, rfl, rfl⟩
end Go.Proofs.YtlhkndjloeoodaaGreat
namespace Go.Proofs.YtlhkndjloeoodaaGreat
open Go.Ev Go.Ev.Wk
variable {O : Old}
def enc (n : Nat) : List UInt8 :=
  if h : n < 128 then [UInt8.ofNat n] else UInt8.ofNat (n % 128 + 128) :: enc (n / 128)
termination_by n
decreasing_by omega
def encL : List Int → List UInt8
  | [] => []
  | n :: l => enc n.toNat ++ encL l
theorem by8_ofNat {n : Nat} (h : n < 256) : by8 (UInt8.ofNat n) = .int .u8 (n : Int) := by
  simp [by8, UInt8.toNat_ofNat', Nat.mod_eq_of_lt h]
theorem enc_lt {n : Nat} (h : n < 128) : enc n = [UInt8.ofNat n] := by rw [enc, dif_pos h]
theorem enc_ge {n : Nat} (h : ¬ n < 128) : enc n = UInt8.ofNat (n % 128 + 128) :: enc (n / 128) := by rw [enc, dif_neg h]
theorem enc_len : ∀ (k n : Nat), n < 128 ^ (k + 1) → (enc n).length ≤ k + 1
  | 0, n, h => by rw [enc_lt (by simpa using h)]; simp
  | k + 1, n, h => by
    by_cases h1 : n < 128
    · rw [enc_lt h1]; simp
    · rw [enc_ge h1, List.length_cons]
      have := enc_len k (n / 128) (by rw [Nat.pow_succ] at h; omega)
      omega
theorem encL_len : ∀ (l : List Int), (∀ x ∈ l, x ≤ 9223372036854775807) → (encL l).length ≤ 9 * l.length
  | [], _ => by simp [encL]
  | n :: l, h => by
    have h1 := enc_len 8 n.toNat (by have := h n (by simp); omega)
    have h2 := encL_len l (fun x hx => h x (by simp [hx]))
    simp only [encL, List.length_append, List.length_cons]
    omega
set_option maxHeartbeats 8000000 in
set_option maxRecDepth 100000 in
theorem numW_ok {H : Heap} {a : Option Addr} {n c : Nat} {l0 : List UInt8} {p : Option Nat × Cont} {al : Option Addr} {m cl : Nat} {ns : List Int} (hst : St (blkOf p) H H [p]) (hown : OwnA 1 5 a n c (l0.map by8) p) (hsl : SlX (blkOf p) O H (.slice al m cl) 1 m (ns.map (.int .i64)))
    (hw : ∀ x ∈ ns, -9223372036854775808 ≤ x ∧ x ≤ 9223372036854775807) (hm : m ≤ 1000) (hn : n ≤ 100000000) :
    AppC TT O 88 [.slice a n c, .slice al m cl] H p 1 5 ((l0 ++ encL ns).map by8) := by
  have hml : ns.length = m := by have := (hsl H (ExtBut.refl _ _)).1; simpa using this
  refine call_app rfl rfl rfl rfl rfl hst ?_
  have hlen0 : l0.length = n := by have := hown.len; simpa using this
  have htot : (encL ns).length ≤ 9000 := by have := encL_len ns (fun x hx => (hw x hx).2); omega
  refine exec_seq ?_
  repeat (first | refine zrm ?_ | (refine zn ?_; intro _))
  refine ExecS.weak (E' := [(0, .slice a n c), (7, .slice al m cl), (8, .int .i64 (m : Int)), (9, .int .i64 ((0 : Nat) : Int))]) ⟨rfl, rfl, rfl, rfl, trivial⟩ (.refl _) ?_
  refine exec_loop (fun q E L => ∃ (i n1 c1 : Nat) (a1 : Option Addr) (p1 : Option Nat × Cont) (lc : List UInt8), i + q = m ∧ OwnA 1 5 a1 n1 c1 (lc.map by8) p1 ∧ lc ++ encL (ns.drop i) = l0 ++ encL ns ∧ E = [(0, .slice a1 n1 c1), (7, .slice al m cl), (8, .int .i64 (m : Int)), (9, .int .i64 (i : Int))] ∧ L = [p1]) ?_ m _ _ ⟨0, n, c, a, p, l0, by omega, hown, rfl, rfl, rfl⟩
  rintro q E L ⟨i, n1, c1, a1, p1, lc, hiq, own1, hlc, rfl, rfl⟩
  repeat (first | refine zrm ?_ | (refine zn ?_; intro _))
  refine exec_cond rfl (fun hlt => ?_) (fun hge => ?_)
  rotate_left
  · repeat (first | refine zrm ?_ | (refine zn ?_; intro _))
    refine ⟨trivial, _, rfl, _, _, _, p1, rfl, ?_, .head _⟩
    have him : m ≤ i := by simp at hge; omega
    rw [List.drop_eq_nil_of_le (by omega)] at hlc
    simp only [encL, List.append_nil] at hlc
    rw [← hlc]
    exact own1
  have hi : i < m := by simp at hlt; omega
  have hil : i < ns.length := by omega
  repeat (first | refine zrm ?_ | (refine zn ?_; intro _))
  (first | apply ops_pl rfl rfl rfl ?_ rfl ?_ | apply draw_pl rfl rfl rfl rfl ?_ rfl rfl ?_); rotate_left; focus exact (.p rfl (opP_idx rfl rfl (hsl H (ExtBut.refl _ _)) rfl rfl (by omega) (by omega)))
  (first | apply ops_pl rfl rfl rfl ?_ rfl ?_ | apply draw_pl rfl rfl rfl rfl ?_ rfl rfl ?_); rotate_left; focus exact (.l rfl (fun H hs => opL_load rfl ((hsl.at hs).ld rfl (getMap (l := ns) (i := i) hil rfl))))
  have hwi := hw _ (List.getElem_mem hil)
  have hdrop : ns.drop i = ns[i] :: ns.drop (i + 1) := List.drop_eq_getElem_cons hil
  rw [hdrop] at hlc
  generalize ns[i] = z at hlc hwi
  repeat (first | refine zrm ?_ | (refine zn ?_; intro _))
  rw [show max z 0 = ((z.toNat : Nat) : Int) from by omega]
  have hz : z.toNat ≤ 9223372036854775807 := by omega
  simp only [encL] at hlc
  rw [← List.append_assoc] at hlc
  generalize hy0 : z.toNat = y0 at hlc hz
  refine ExecS.weak (E' := [(0, .slice a1 n1 c1), (6, .int .i64 (y0 : Int)), (7, .slice al m cl), (8, .int .i64 (m : Int)), (9, .int .i64 (i : Int))]) ⟨rfl, rfl, rfl, rfl, rfl, trivial⟩ (.refl _) ?_
  refine exec_loop (fun q' E L => ∃ (y n2 c2 : Nat) (a2 : Option Addr) (p2 : Option Nat × Cont) (ld : List UInt8), y = q' ∧ y ≤ y0 ∧ OwnA 1 5 a2 n2 c2 (ld.map by8) p2 ∧ ld ++ enc y = lc ++ enc y0 ∧ E = [(0, .slice a2 n2 c2), (6, .int .i64 (y : Int)), (7, .slice al m cl), (8, .int .i64 (m : Int)), (9, .int .i64 (i : Int))] ∧ L = [p2]) ?_ y0 _ _ ⟨y0, n1, c1, a1, p1, lc, rfl, Nat.le_refl _, own1, rfl, rfl, rfl⟩
  rintro q' E L ⟨y, n2, c2, a2, p2, ld, rfl, hyy, own2, hld, rfl, rfl⟩
  have hlen2 : ld.length = n2 := by have := own2.len; simpa using this
  have hb2 : n2 + (enc y).length ≤ 100009000 := by
    have h1 := congrArg List.length hld
    have h2 := congrArg List.length hlc
    simp only [List.length_append] at h1 h2
    omega
  repeat (first | refine zrm ?_ | (refine zn ?_; intro _))
  refine exec_cond rfl (fun hge => ?_) (fun hlt => ?_)
  · have h128 : ¬ y < 128 := by simp at hge; omega
    rw [enc_ge h128] at hld hb2
    simp only [List.length_cons] at hb2
    repeat (first | refine zrm ?_ | (refine zn ?_; intro _))
    rw [show y % 256 % 128 = y % 128 from by omega]
    have hsum : n2 + 1 ≤ 1073741824 := by omega
    refine ops_step rfl rfl rfl (step_append 1 1 rfl rfl rfl rfl rfl rfl rfl rfl own2 (fun H hs => src_own (j := 0) hs rfl rfl 1) rfl (by first | rfl | exact allCell_map (fun _ => rfl) _) (by first | rfl | (simp; done) | (simp; omega)) (by omega) (fun a3 c3 p3 own3 => ?_))
    repeat (first | refine zrm ?_ | (refine zn ?_; intro _))
    rw [shr_raw (s := 7) (b := 7) rfl (by omega)]
    have own4 : OwnA 1 5 a3 (n2 + 1) c3 ((ld ++ [UInt8.ofNat (y % 128 + 128)]).map by8) p3 := by
      rw [List.map_append, List.map_cons, List.map_nil, by8_ofNat (by omega)]
      exact own3
    refine ⟨y / 2 ^ 7, by omega, _, _, ?_, ?_, y / 2 ^ 7, n2 + 1, c3, a3, p3, _, rfl, by omega, own4, ?_, rfl, rfl⟩
    · exact ⟨rfl, rfl, rfl, rfl, rfl, trivial⟩
    · exact .cons _ (.refl _)
    · rw [← hld]; simp
  · have h128 : y < 128 := by simp at hlt; omega
    rw [enc_lt h128] at hld hb2
    simp only [List.length_cons, List.length_nil] at hb2
    repeat (first | refine zrm ?_ | (refine zn ?_; intro _))
    rw [show y % 256 = y from by omega]
    have hsum : n2 + 1 ≤ 1073741824 := by omega
    refine ops_step rfl rfl rfl (step_append 1 1 rfl rfl rfl rfl rfl rfl rfl rfl own2 (fun H hs => src_own (j := 0) hs rfl rfl 1) rfl (by first | rfl | exact allCell_map (fun _ => rfl) _) (by first | rfl | (simp; done) | (simp; omega)) (by omega) (fun a3 c3 p3 own3 => ?_))
    repeat (first | refine zrm ?_ | (refine zn ?_; intro _))
    have own4 : OwnA 1 5 a3 (n2 + 1) c3 ((ld ++ [UInt8.ofNat y]).map by8) p3 := by
      rw [List.map_append, List.map_cons, List.map_nil, by8_ofNat (by omega)]
      exact own3
    refine ⟨q - 1, by omega, _, _, ?_, ?_, i + 1, n2 + 1, c3, a3, p3, _, by omega, own4, ?_, rfl, rfl⟩
    · exact ⟨rfl, rfl, rfl, rfl, trivial⟩
    · exact .cons _ (.refl _)
    · rw [hld, hlc]
end Go.Proofs.YtlhkndjloeoodaaGreat
namespace Go.Proofs.YtlhkndjloeoodaaGreat
open Go.Ev Go.Ev.Wk
variable {O : Old}
theorem SlX.buf {X : List Nat} {H0 H : Heap} {L : Atoms} {i j b ver n z ty : Nat} {l : List Value} {p : Option Nat × Cont} (hst : St X H0 H L) (hi : L[i]? = some (some b, .cells ver l z ty)) (hj : L[j]? = some p) (hij : i ≠ j) (hl : l.length = n * z) (cap : Nat) : SlX (blkOf p) O H (.slice (some ⟨b, 0, some ver⟩) n cap) z n l := by
  intro H' e
  rcases p with ⟨_ | rb, ct⟩
  · exact (Sl.own hst hi hl cap).ext e
  · have hst' := hst.rest hj e
    obtain ⟨jj, hjj⟩ := List.getElem?_of_mem ((List.mem_eraseIdx_iff_getElem?).2 ⟨i, hij, hi⟩)
    exact Sl.own hst' hjj hl cap
theorem enc_len9 {n : Nat} (h : n ≤ 9223372036854775807) : (enc n).length ≤ 9 := enc_len 8 n (by omega)
theorem bytesOf_by8 : ∀ l : List UInt8, bytesOf (l.map by8) = some l
  | [] => rfl
  | c :: l => by
    have := bytesOf_by8 l
    simp [bytesOf, this]
def zig (x : Int) : Int := if x < 0 then -2 * x - 1 else 2 * x
set_option maxHeartbeats 8000000 in
set_option maxRecDepth 100000 in
theorem intW_ok {H : Heap} {a : Option Addr} {n c : Nat} {l0 : List UInt8} {p : Option Nat × Cont} {x : Int} (hst : St (blkOf p) H H [p]) (hown : OwnA 1 5 a n c (l0.map by8) p)
    (hw : -2147483648 ≤ x ∧ x ≤ 2147483647) (hn : n ≤ 100000000) :
    AppC TT O 191 [.slice a n c, .int .i32 x] H p 1 5 ((l0 ++ enc (zig x).toNat).map by8) := by
  refine call_app rfl rfl rfl rfl rfl hst ?_
  repeat (first | refine zrm ?_ | (refine zn ?_; intro _))
  refine exec_cond rfl (fun hlt => ?_) (fun hge => ?_)
  · have hx : x < 0 := by simpa using hlt
    repeat (first | refine zrm ?_ | (refine zn ?_; intro _))
    have hz : zig x = -2 * x - 1 := by rw [zig, if_pos hx]
    refine ops_step rfl rfl rfl (step_call_app (z := 1) (ty := 5) (cs := (l0 ++ encL [zig x]).map by8) 1 rfl rfl rfl rfl (fun H hs hst => ?_) (fun a1 n1 c1 p1 own1 => ?_))
    · exact numW_ok (ns := [zig x]) hst hown (by rw [hz]; exact SlX.buf hs (i := 0) (j := 1) rfl rfl (by decide) rfl 1) (fun y hy => by rw [List.mem_singleton.1 hy, hz]; omega) (by omega) hn
    rw [show encL [zig x] = enc (zig x).toNat from by simp [encL]] at own1
    repeat (first | refine zrm ?_ | (refine zn ?_; intro _))
    exact ⟨trivial, _, rfl, _, _, _, p1, rfl, own1, .tail _ (.head _)⟩
  · have hx : ¬ x < 0 := by simpa using hge
    repeat (first | refine zrm ?_ | (refine zn ?_; intro _))
    have hz : zig x = 2 * x := by rw [zig, if_neg hx]
    refine ops_step rfl rfl rfl (step_call_app (z := 1) (ty := 5) (cs := (l0 ++ encL [zig x]).map by8) 1 rfl rfl rfl rfl (fun H hs hst => ?_) (fun a1 n1 c1 p1 own1 => ?_))
    · exact numW_ok (ns := [zig x]) hst hown (by rw [hz]; exact SlX.buf hs (i := 0) (j := 1) rfl rfl (by decide) rfl 1) (fun y hy => by rw [List.mem_singleton.1 hy, hz]; omega) (by omega) hn
    rw [show encL [zig x] = enc (zig x).toNat from by simp [encL]] at own1
    repeat (first | refine zrm ?_ | (refine zn ?_; intro _))
    exact ⟨trivial, _, rfl, _, _, _, p1, rfl, own1, .tail _ (.head _)⟩
set_option maxHeartbeats 8000000 in
set_option maxRecDepth 100000 in
theorem textW_ok {H : Heap} {a : Option Addr} {n c : Nat} {l0 s : List UInt8} {p : Option Nat × Cont} (hst : St (blkOf p) H H [p]) (hown : OwnA 1 5 a n c (l0.map by8) p)
    (hs0 : s.length ≤ 100000000) (hn : n ≤ 100000000) :
    AppC TT O 89 [.slice a n c, str s] H p 1 5 ((l0 ++ (enc s.length ++ s)).map by8) := by
  refine call_app rfl rfl rfl rfl rfl hst ?_
  repeat (first | refine zrm ?_ | (refine zn ?_; intro _))
  refine ops_step rfl rfl rfl (step_call_app (z := 1) (ty := 5) (cs := (l0 ++ encL [(s.length : Int)]).map by8) 1 rfl rfl rfl rfl (fun H hs hst => ?_) (fun a1 n1 c1 p1 own1 => ?_))
  · exact numW_ok (ns := [(s.length : Int)]) hst hown (SlX.buf hs (i := 0) (j := 1) rfl rfl (by decide) rfl 1) (fun y hy => by rw [List.mem_singleton.1 hy]; omega) (by omega) hn
  rw [show encL [(s.length : Int)] = enc s.length from by simp [encL]] at own1
  have hlen1 : (l0 ++ enc s.length).length = n1 := by have := own1.len; simpa using this
  have hlen0 : l0.length = n := by have := hown.len; simpa using this
  have h9 := enc_len9 (n := s.length) (by omega)
  have hb1 : n1 + s.length ≤ 1073741824 := by rw [← hlen1, List.length_append]; omega
  repeat (first | refine zrm ?_ | (refine zn ?_; intro _))
  refine ops_step rfl rfl rfl (step_append 1 1 rfl rfl rfl rfl rfl rfl rfl rfl own1 (fun H hs => (show src O H 1 (str s) = some (s.length, s.map by8) from rfl)) rfl (by first | rfl | exact allCell_map (fun _ => rfl) _) (by first | rfl | (simp; done) | (simp; omega)) (by omega) (fun a2 c2 p2 own2 => ?_))
  rw [← List.map_append, List.append_assoc] at own2
  repeat (first | refine zrm ?_ | (refine zn ?_; intro _))
  exact ⟨trivial, _, rfl, _, _, _, p2, rfl, own2, .tail _ (.head _)⟩
set_option maxHeartbeats 8000000 in
set_option maxRecDepth 100000 in
theorem twoW_ok {H : Heap} {a : Option Addr} {n c : Nat} {l0 : List UInt8} {p : Option Nat × Cont} {x : Int} (hst : St (blkOf p) H H [p]) (hown : OwnA 1 5 a n c (l0.map by8) p)
    (hn : n ≤ 100000000) :
    AppC TT O 164 [.slice a n c, .int .i64 x] H p 1 5 ((l0 ++ [UInt8.ofNat ((min (max x 0) 65535).toNat % 256), UInt8.ofNat ((min (max x 0) 65535).toNat / 256)]).map by8) := by
  refine call_app rfl rfl rfl rfl rfl hst ?_
  repeat (first | refine zrm ?_ | (refine zn ?_; intro _))
  have hy : min (max x 0) 65535 = (((min (max x 0) 65535).toNat : Nat) : Int) := by omega
  have hy2 : (min (max x 0) 65535).toNat ≤ 65535 := by omega
  generalize (min (max x 0) 65535).toNat = y at hy hy2 ⊢
  rw [hy, shr_raw (s := 8) (b := 8) rfl (by omega), byte_wrap, byte_wrap, show y / 2 ^ 8 % 256 = y / 256 from by omega]
  refine ops_step rfl rfl rfl (step_append 1 1 rfl rfl rfl rfl rfl rfl rfl rfl hown (fun H hs => src_own (j := 0) hs rfl rfl 2) rfl (by first | rfl | exact allCell_map (fun _ => rfl) _) (by first | rfl | (simp; done) | (simp; omega)) (by omega) (fun a2 c2 p2 own2 => ?_))
  have own3 : OwnA 1 5 a2 (n + 2) c2 ((l0 ++ [UInt8.ofNat (y % 256), UInt8.ofNat (y / 256)]).map by8) p2 := by
    rw [List.map_append, List.map_cons, List.map_cons, List.map_nil, by8_ofNat (by omega), by8_ofNat (by omega)]
    exact own2
  repeat (first | refine zrm ?_ | (refine zn ?_; intro _))
  exact ⟨trivial, _, rfl, _, _, _, p2, rfl, own3, .tail _ (.head _)⟩
set_option maxHeartbeats 8000000 in
set_option maxRecDepth 100000 in
theorem textM_ok {H : Heap} {rb : Nat} {a : Option Addr} {n c k x : Nat} {l : List UInt8} {most : Int} (hh : Has H rb (rdr a n c 0)) (hlt : rb < H.next) (hs0 : SlX [rb] O H (.slice a n c) 1 n (l.map by8)) (hn : n ≤ 1073741824) (hr : numR l most = ((x : Int), (k : Int), 0)) (hx : k + x ≤ n) :
    CallC TT O 99 [.pointer (some ⟨rb, 0, some 0⟩), .int .i64 most] H fun v H' => ∃ ct', ExtBut [rb] H H' ∧ Has H' rb ct' ∧ (ct' = rdr (cutAddr a 1 c (k + x)) (n - (k + x)) (cutCap' a c (k + x)) 0 ∧ v = str ((l.drop k).take x)) := by
  have hln : l.length = n := by have := (hs0 H (ExtBut.refl _ _)).1; simpa using this
  refine call_mut rfl rfl rfl rfl rfl hh hlt ?_
  repeat (first | refine zrm ?_ | (refine zn ?_; intro _))
  refine ops_step rfl rfl rfl (step_call_mut 0 rfl rfl rfl rfl (fun H' hs hh' hlt' => num_ok' hh' hlt' (hs0.mono hs.ext (fun _ h => h)) hn hr) (fun v ct' h => ?_))
  obtain ⟨rfl, rfl⟩ := h
  repeat (first | refine zrm ?_ | (refine zn ?_; intro _))
  rw [show decide ((x : Int) > (n : Int) - (k : Int)) = false from by simp; omega]
  repeat (first | refine zrm ?_ | (refine zn ?_; intro _))
  (first | apply ops_pl rfl rfl rfl ?_ rfl ?_ | apply draw_pl rfl rfl rfl rfl ?_ rfl rfl ?_); rotate_left; focus exact (.l rfl (look_cut (l := k) (h := k + x) rfl rfl rfl rfl (by omega) rfl (by omega) (fun H hs => hs0.at hs) rfl rfl (by omega) (by omega)))
  repeat (first | refine zrm ?_ | (refine zn ?_; intro _))
  have hbytes : bytesOf (((l.drop k).take (k + x - k)).map by8) = some ((l.drop k).take x) := by
    rw [Nat.add_sub_cancel_left]
    exact bytesOf_by8 _
  (first | apply ops_pl rfl rfl rfl ?_ rfl ?_ | apply draw_pl rfl rfl rfl rfl ?_ rfl rfl ?_); rotate_left; focus exact (.l rfl (look_strS rfl (fun H hs => (hs0.at hs).cutM (Nat.le_add_right k x) hx) rfl rfl rfl hbytes))
  repeat (first | refine zrm ?_ | (refine zn ?_; intro _))
  (first | apply ops_pl rfl rfl rfl ?_ rfl ?_ | apply draw_pl rfl rfl rfl rfl ?_ rfl rfl ?_); rotate_left; focus exact (.l rfl (look_cut (l := k + x) (h := n) rfl rfl rfl rfl (by omega) rfl (by omega) (fun H hs => hs0.at hs) rfl rfl (by omega) (by omega)))
  repeat (first | refine zrm ?_ | (refine zn ?_; intro _))
  exact ⟨trivial, _, rfl, _, .head _, rfl, rfl⟩
set_option maxHeartbeats 8000000 in
set_option maxRecDepth 100000 in
theorem textE_ok {H : Heap} {rb : Nat} {a : Option Addr} {n c : Nat} {l : List UInt8} {most x k e : Int} (hh : Has H rb (rdr a n c 0)) (hlt : rb < H.next) (hs0 : SlX [rb] O H (.slice a n c) 1 n (l.map by8)) (hn : n ≤ 1073741824) (hr : numR l most = (x, k, e)) (he : e ≠ 0) :
    CallC TT O 99 [.pointer (some ⟨rb, 0, some 0⟩), .int .i64 most] H fun v H' => ∃ ct', ExtBut [rb] H H' ∧ Has H' rb ct' ∧ (ct' = rdr a n c e ∧ v = str []) := by
  have hln : l.length = n := by have := (hs0 H (ExtBut.refl _ _)).1; simpa using this
  refine call_mut rfl rfl rfl rfl rfl hh hlt ?_
  repeat (first | refine zrm ?_ | (refine zn ?_; intro _))
  refine ops_step rfl rfl rfl (step_call_mut 0 rfl rfl rfl rfl (fun H' hs hh' hlt' => num_ok' hh' hlt' (hs0.mono hs.ext (fun _ h => h)) hn hr) (fun v ct' h => ?_))
  obtain ⟨rfl, rfl⟩ := h
  repeat (first | refine zrm ?_ | (refine zn ?_; intro _))
  have he0 : (e == 0) = false := by simpa using he
  have he1 : (e != 0) = true := by simpa using he
  rw [he0]
  repeat (first | refine zrm ?_ | (refine zn ?_; intro _))
  rw [he1]
  repeat (first | refine zrm ?_ | (refine zn ?_; intro _))
  exact ⟨trivial, _, rfl, _, .head _, rfl, rfl⟩
end Go.Proofs.YtlhkndjloeoodaaGreat
namespace Go.Proofs.YtlhkndjloeoodaaGreat
open Go.Ev Go.Ev.Wk
variable {O : Old}
def numOf (ts : List (List UInt8)) (s : List UInt8) : Option Value := if s ∈ ts then some (.int .i64 ((ts.idxOf s : Nat) : Int)) else none
theorem numOf_in {ts : List (List UInt8)} {s : List UInt8} (h : s ∈ ts) : numOf ts s = some (.int .i64 ((ts.idxOf s : Nat) : Int)) := if_pos h
theorem numOf_out {ts : List (List UInt8)} {s : List UInt8} (h : s ∉ ts) : numOf ts s = none := if_neg h
def PoolF (pb : Nat) (ts : List (List UInt8)) (F : Atoms) : Prop :=
  ∃ (a : Option Addr) (n c m : Nat) (es : List (Value × Value)) (p : Option Nat × Cont), F = [(some pb, .cells 0 [.slice a n c, .map (some m)] 0 153), (some m, .map es), p] ∧ OwnA 1 9 a n c (ts.map str) p ∧ Says es (numOf ts)
theorem numOf_append {ts : List (List UInt8)} {s : List UInt8} (h : s ∉ ts) (s' : List UInt8) : (if s' = s then some (Value.int .i64 ((ts.length : Nat) : Int)) else numOf ts s') = numOf (ts ++ [s]) s' := by
  unfold numOf
  by_cases e : s' = s
  · subst e
    rw [if_pos rfl, if_pos (by simp), List.idxOf_append, if_neg h]
    simp
  · rw [if_neg e]
    by_cases h' : s' ∈ ts
    · rw [if_pos h', if_pos (by simp [h']), List.idxOf_append, if_pos h']
    · rw [if_neg h', if_neg (by simp [h', e])]
theorem numOf_append_in {ts : List (List UInt8)} {s : List UInt8} (h : s ∈ ts) (s' : List UInt8) : numOf ts s' = numOf (ts ++ [s]) s' := by
  unfold numOf
  by_cases h' : s' ∈ ts
  · rw [if_pos h', if_pos (by simp [h']), List.idxOf_append, if_pos h']
  · rw [if_neg h', if_neg (by simp [h']; rintro rfl; exact h' h)]
set_option maxHeartbeats 8000000 in
set_option maxRecDepth 100000 in
theorem poolNew_ok {H : Heap} (hst : St (blksOf []) H H []) : FpC TT O 74 [] H [] fun v F' => ∃ pb, v = .pointer (some ⟨pb, 0, some 0⟩) ∧ PoolF pb [] F' := by
  refine call_fp rfl rfl rfl rfl rfl hst ?_
  refine ExecS.ghost ?_
  repeat (first | refine zrm ?_ | (refine zn ?_; intro _))
  refine ⟨trivial, _, rfl, _, [], List.Perm.of_eq (List.append_nil _).symm, _, rfl, _, _, _, _, _, _, rfl, .nil _, Says.nil⟩
set_option maxHeartbeats 8000000 in
set_option maxRecDepth 100000 in
theorem poolAdd_ok {H : Heap} {pb : Nat} {ts : List (List UInt8)} {F : Atoms} {s : List UInt8} (hst : St (blksOf F) H H F) (hF : PoolF pb ts F) (hn : ts.length ≤ 100000000) :
    FpC TT O 98 [.pointer (some ⟨pb, 0, some 0⟩), str s] H F fun v F' => PoolF pb (ts ++ [s]) F' := by
  obtain ⟨a, n, c, m, es, p, rfl, own, says⟩ := hF
  have hlen : ts.length = n := by have := own.len; simpa using this
  refine call_fp rfl rfl rfl rfl rfl hst ?_
  repeat (first | refine zrm ?_ | (refine zn ?_; intro _))
  by_cases h : s ∈ ts
  · (first | apply ops_pl rfl rfl rfl ?_ rfl ?_ | apply draw_pl rfl rfl rfl rfl ?_ rfl rfl ?_); rotate_left; focus exact (.l rfl (look_map 1 rfl rfl rfl says rfl (by rw [numOf_in h])))
    repeat (first | refine zrm ?_ | (refine zn ?_; intro _))
    refine ops_step rfl rfl rfl (step_append 3 1 rfl rfl rfl rfl rfl rfl rfl rfl own (fun H hs => src_own (j := 0) hs rfl rfl 1) rfl (by first | rfl | exact allCell_map (fun _ => rfl) _) (by first | rfl | (simp; done) | (simp; omega)) (by omega) (fun a2 c2 p2 own2 => ?_))
    repeat (first | refine zrm ?_ | (refine zn ?_; intro _))
    refine ⟨trivial, _, rfl, _, [_], List.perm_append_comm (l₁ := [_]) (l₂ := [_, _, _]), _, _, _, _, _, _, rfl, ?_, ?_⟩
    · rw [List.map_append]; exact own2
    · exact says.cast (numOf_append_in h)
  · (first | apply ops_pl rfl rfl rfl ?_ rfl ?_ | apply draw_pl rfl rfl rfl rfl ?_ rfl rfl ?_); rotate_left; focus exact (.l rfl (look_map 1 rfl rfl rfl says rfl (by rw [numOf_out h])))
    repeat (first | refine zrm ?_ | (refine zn ?_; intro _))
    refine exec_draw (lst := [(0, 0), (1, 1), (2, 3), (3, 7), (4, 0), (5, 0), (6, 32), (7, 96), (8, 224), (9, 480), (10, 1023)]) (full := 2047) (by kernel_rfl) (by kernel_rfl) (by kernel_rfl) (by kernel_rfl) ?_
    repeat (first | refine zdm ?_)
    try refine draw_nil ?_
    refine draw_w rfl rfl rfl rfl rfl rfl (step_mapUpdate 1 rfl rfl rfl rfl rfl says rfl rfl (fun es2 says2 => ⟨by repeat (first | exact True.intro | refine And.intro (.inl rfl) ?_), ?_⟩))
    repeat (first | refine zdm ?_)
    try refine draw_nil ?_
    repeat (first | refine zrm ?_ | (refine zn ?_; intro _))
    refine ops_step rfl rfl rfl (step_append 3 1 rfl rfl rfl rfl rfl rfl rfl rfl own (fun H hs => src_own (j := 0) hs rfl rfl 1) rfl (by first | rfl | exact allCell_map (fun _ => rfl) _) (by first | rfl | (simp; done) | (simp; omega)) (by omega) (fun a2 c2 p2 own2 => ?_))
    repeat (first | refine zrm ?_ | (refine zn ?_; intro _))
    refine ⟨trivial, _, rfl, _, [_], List.perm_append_comm (l₁ := [_]) (l₂ := [_, _, _]), _, _, _, _, _, _, rfl, ?_, ?_⟩
    · rw [List.map_append]; exact own2
    · subst hlen; exact says2.cast (numOf_append h)
set_option maxHeartbeats 8000000 in
set_option maxRecDepth 100000 in
theorem poolPut_ok {H : Heap} {pb : Nat} {ts : List (List UInt8)} {F : Atoms} {s : List UInt8} (hst : St (blksOf F) H H F) (hF : PoolF pb ts F) (hn : ts.length ≤ 100000000) :
    FpC TT O 165 [.pointer (some ⟨pb, 0, some 0⟩), str s] H F fun v F' => PoolF pb (if s ∈ ts then ts else ts ++ [s]) F' ∧ v = .int .i64 (((if s ∈ ts then ts else ts ++ [s]).idxOf s : Nat) : Int) := by
  obtain ⟨a, n, c, m, es, p, rfl, own, says⟩ := hF
  refine call_fp rfl rfl rfl rfl rfl hst ?_
  repeat (first | refine zrm ?_ | (refine zn ?_; intro _))
  by_cases h : s ∈ ts
  · rw [if_pos h]
    (first | apply ops_pl rfl rfl rfl ?_ rfl ?_ | apply draw_pl rfl rfl rfl rfl ?_ rfl rfl ?_); rotate_left; focus exact (.l rfl (look_map 1 rfl rfl rfl says rfl (by rw [numOf_in h])))
    repeat (first | refine zrm ?_ | (refine zn ?_; intro _))
    (first | apply ops_pl rfl rfl rfl ?_ rfl ?_ | apply draw_pl rfl rfl rfl rfl ?_ rfl rfl ?_); rotate_left; focus exact (.l rfl (look_map 1 rfl rfl rfl says rfl (by rw [numOf_in h])))
    repeat (first | refine zrm ?_ | (refine zn ?_; intro _))
    exact ⟨trivial, _, rfl, _, [], List.Perm.of_eq (List.append_nil _).symm, ⟨_, _, _, _, _, _, rfl, own, says⟩, rfl⟩
  · rw [if_neg h]
    (first | apply ops_pl rfl rfl rfl ?_ rfl ?_ | apply draw_pl rfl rfl rfl rfl ?_ rfl rfl ?_); rotate_left; focus exact (.l rfl (look_map 1 rfl rfl rfl says rfl (by rw [numOf_out h])))
    repeat (first | refine zrm ?_ | (refine zn ?_; intro _))
    refine ops_step rfl rfl rfl (step_call_fp [_, _, _] [] rfl rfl rfl (List.Perm.refl _) (fun H hs hst => poolAdd_ok (s := s) hst ⟨_, _, _, _, _, _, rfl, own, says⟩ hn) (fun v F' h => ?_))
    obtain ⟨a2, n2, c2, m2, es2, p2, rfl, own2, says2⟩ := h
    repeat (first | refine zrm ?_ | (refine zn ?_; intro _))
    (first | apply ops_pl rfl rfl rfl ?_ rfl ?_ | apply draw_pl rfl rfl rfl rfl ?_ rfl rfl ?_); rotate_left; focus exact (.l rfl (look_map 1 rfl rfl rfl says2 rfl (by rw [numOf_in (by simp)])))
    repeat (first | refine zrm ?_ | (refine zn ?_; intro _))
    exact ⟨trivial, _, rfl, _, [], List.Perm.of_eq (List.append_nil _).symm, ⟨_, _, _, _, _, _, rfl, own2, says2⟩, rfl⟩
set_option maxHeartbeats 8000000 in
set_option maxRecDepth 100000 in
theorem poolLen_ok {H : Heap} {pb : Nat} {ts : List (List UInt8)} {F : Atoms} (hst : St (blksOf F) H H F) (hF : PoolF pb ts F) :
    FpC TT O 79 [.pointer (some ⟨pb, 0, some 0⟩)] H F fun v F' => PoolF pb ts F' ∧ v = .int .i64 ((ts.length : Nat) : Int) := by
  obtain ⟨a, n, c, m, es, p, rfl, own, says⟩ := hF
  have hlen : ts.length = n := by have := own.len; simpa using this
  refine call_fp rfl rfl rfl rfl rfl hst ?_
  repeat (first | refine zrm ?_ | (refine zn ?_; intro _))
  exact ⟨trivial, _, rfl, _, [], List.Perm.of_eq (List.append_nil _).symm, ⟨_, _, _, _, _, _, rfl, own, says⟩, by rw [hlen]; rfl⟩
set_option maxHeartbeats 8000000 in
set_option maxRecDepth 100000 in
theorem poolAt_ok {H : Heap} {pb : Nat} {ts : List (List UInt8)} {F : Atoms} {i : Int} (hst : St (blksOf F) H H F) (hF : PoolF pb ts F) :
    FpC TT O 137 [.pointer (some ⟨pb, 0, some 0⟩), .int .i64 i] H F fun v F' => PoolF pb ts F' ∧ ((i < 0 ∨ (ts.length : Int) ≤ i) ∧ v = .tuple #[str [], .bool false] ∨ ∃ s, 0 ≤ i ∧ ts[i.toNat]? = some s ∧ v = .tuple #[str s, .bool true]) := by
  obtain ⟨a, n, c, m, es, p, rfl, own, says⟩ := hF
  have hlen : ts.length = n := by have := own.len; simpa using this
  refine call_fp rfl rfl rfl rfl rfl hst ?_
  repeat (first | refine zrm ?_ | (refine zn ?_; intro _))
  cases h0 : decide (i < 0)
  · have h0' : ¬ i < 0 := by simpa using h0
    repeat (first | refine zrm ?_ | (refine zn ?_; intro _))
    refine exec_cond rfl (fun hge => ?_) (fun hlt => ?_)
    · have h1 : (n : Int) ≤ i := by simpa using hge
      repeat (first | refine zrm ?_ | (refine zn ?_; intro _))
      exact ⟨trivial, _, rfl, _, [], List.Perm.of_eq (List.append_nil _).symm, ⟨_, _, _, _, _, _, rfl, own, says⟩, .inl ⟨.inr (by omega), rfl⟩⟩
    · have h1 : ¬ (n : Int) ≤ i := by simpa using hlt
      have hil : i.toNat < ts.length := by omega
      repeat (first | refine zrm ?_ | (refine zn ?_; intro _))
      (first | apply ops_pl rfl rfl rfl ?_ rfl ?_ | apply draw_pl rfl rfl rfl rfl ?_ rfl rfl ?_); rotate_left; focus exact (.p rfl (opP_idxA own rfl rfl rfl rfl (by omega) (by omega)))
      (first | apply ops_pl rfl rfl rfl ?_ rfl ?_ | apply draw_pl rfl rfl rfl rfl ?_ rfl rfl ?_); rotate_left; focus exact (.l rfl (fun H hs => opL_load rfl ((OwnA.slM own hs (by first | exact List.mem_of_getElem? (i := 0) rfl | exact List.mem_of_getElem? (i := 1) rfl | exact List.mem_of_getElem? (i := 2) rfl | exact List.mem_of_getElem? (i := 3) rfl | exact List.mem_of_getElem? (i := 4) rfl | exact List.mem_of_getElem? (i := 5) rfl | exact List.mem_of_getElem? (i := 6) rfl | exact List.mem_of_getElem? (i := 7) rfl)).ld rfl (by rw [List.getElem?_map, List.getElem?_eq_getElem hil]; rfl))))
      repeat (first | refine zrm ?_ | (refine zn ?_; intro _))
      exact ⟨trivial, _, rfl, _, [], List.Perm.of_eq (List.append_nil _).symm, ⟨_, _, _, _, _, _, rfl, own, says⟩, .inr ⟨ts[i.toNat], by omega, List.getElem?_eq_getElem hil, rfl⟩⟩
  · have h0' : i < 0 := by simpa using h0
    repeat (first | refine zrm ?_ | (refine zn ?_; intro _))
    exact ⟨trivial, _, rfl, _, [], List.Perm.of_eq (List.append_nil _).symm, ⟨_, _, _, _, _, _, rfl, own, says⟩, .inl ⟨.inl h0', rfl⟩⟩
def textsB : List (List UInt8) → List UInt8
  | [] => []
  | s :: ts => enc s.length ++ s ++ textsB ts
theorem textsB_append : ∀ (a b : List (List UInt8)), textsB (a ++ b) = textsB a ++ textsB b
  | [], b => rfl
  | x :: a, b => by rw [List.cons_append, textsB, textsB, textsB_append a b]; simp only [List.append_assoc]
def poolB (ts : List (List UInt8)) : List UInt8 := enc ts.length ++ textsB ts
theorem textsB_take (ts : List (List UInt8)) (i : Nat) : (textsB (ts.take i)).length ≤ (textsB ts).length := by
  conv => rhs; rw [← List.take_append_drop i ts, textsB_append, List.length_append]
  omega
theorem textsB_mem : ∀ {ts : List (List UInt8)} {s : List UInt8}, s ∈ ts → s.length ≤ (textsB ts).length
  | x :: ts, s, h => by
    rcases List.mem_cons.1 h with rfl | h
    · simp only [textsB, List.length_append]; omega
    · have := textsB_mem h
      simp only [textsB, List.length_append]; omega
set_option maxHeartbeats 8000000 in
set_option maxRecDepth 100000 in
theorem poolBytes_ok {H : Heap} {pb : Nat} {ts : List (List UInt8)} {F : Atoms} (hst : St (blksOf F) H H F) (hF : PoolF pb ts F) (hn : ts.length ≤ 100000) (hb : (textsB ts).length ≤ 90000000) :
    FpC TT O 40 [.pointer (some ⟨pb, 0, some 0⟩)] H F fun v F' => ∃ a n c p F1, F' = p :: F1 ∧ PoolF pb ts F1 ∧ v = .slice a n c ∧ OwnA 1 5 a n c ((poolB ts).map by8) p := by
  obtain ⟨a, n, c, m, es, p, rfl, own, says⟩ := hF
  have hlen : ts.length = n := by have := own.len; simpa using this
  refine call_fp rfl rfl rfl rfl rfl hst ?_
  refine ExecS.ghost ?_
  repeat (first | refine zrm ?_ | (refine zn ?_; intro _))
  refine ops_step rfl rfl rfl (step_call_app (z := 1) (ty := 5) (cs := ([] ++ encL [((n : Nat) : Int)]).map by8) 1 rfl rfl rfl rfl (fun H hs hst => ?_) (fun a1 n1 c1 p1 own1 => ?_))
  · exact numW_ok (l0 := []) (ns := [((n : Nat) : Int)]) hst (.nil _) (SlX.buf hs (i := 0) (j := 1) rfl rfl (by decide) rfl 1) (fun x hx => by rw [List.mem_singleton.1 hx]; omega) (by omega) (by omega)
  rw [show [] ++ encL [((n : Nat) : Int)] = enc n ++ textsB (ts.take 0) from by simp [encL, textsB]] at own1
  repeat (first | refine zrm ?_ | (refine zn ?_; intro _))
  refine ExecS.weak (E' := [(3, .slice a1 n1 c1), (16, .slice a n c), (17, .int .i64 (n : Int)), (18, .int .i64 ((0 : Nat) : Int))]) (L' := [p1, (some pb, .cells 0 [.slice a n c, .map (some m)] 0 153), (some m, .map es), p]) ⟨rfl, rfl, rfl, rfl, trivial⟩ (.cons _ (.refl _)) ?_
  refine exec_loop (fun q E L => ∃ (i n2 c2 : Nat) (a2 : Option Addr) (p2 : Option Nat × Cont), i + q = n ∧ OwnA 1 5 a2 n2 c2 ((enc n ++ textsB (ts.take i)).map by8) p2 ∧ E = [(3, .slice a2 n2 c2), (16, .slice a n c), (17, .int .i64 (n : Int)), (18, .int .i64 (i : Int))] ∧ L = [p2, (some pb, .cells 0 [.slice a n c, .map (some m)] 0 153), (some m, .map es), p]) ?_ n _ _ ⟨0, _, _, _, _, by omega, own1, rfl, rfl⟩
  clear own1 a1 n1 c1 p1
  rintro q E L ⟨i, n1, c1, a1, p1, hiq, own1, rfl, rfl⟩
  have h9 := enc_len9 (n := n) (by omega)
  have hlen1 : (enc n ++ textsB (ts.take i)).length = n1 := by have := own1.len; simpa using this
  have hb1 : n1 ≤ 90000100 := by
    have := textsB_take ts i
    rw [List.length_append] at hlen1
    omega
  repeat (first | refine zrm ?_ | (refine zn ?_; intro _))
  refine exec_cond rfl (fun hlt => ?_) (fun hge => ?_)
  · have hi : i < n := by simp at hlt; omega
    have hil : i < ts.length := by omega
    obtain ⟨z, hz, hget⟩ : ∃ z, ts[i] = z ∧ (ts.map str)[i]? = some (str z) := ⟨ts[i], rfl, by rw [List.getElem?_map, List.getElem?_eq_getElem hil]; rfl⟩
    have hzl : z.length ≤ (textsB ts).length := textsB_mem (hz ▸ List.getElem_mem hil)
    have htake : textsB (ts.take (i + 1)) = textsB (ts.take i) ++ (enc z.length ++ z) := by rw [List.take_succ_eq_append_getElem hil, textsB_append, hz]; simp [textsB]
    repeat (first | refine zrm ?_ | (refine zn ?_; intro _))
    (first | apply ops_pl rfl rfl rfl ?_ rfl ?_ | apply draw_pl rfl rfl rfl rfl ?_ rfl rfl ?_); rotate_left; focus exact (.p rfl (opP_idxA own rfl rfl rfl rfl (by omega) (by omega)))
    (first | apply ops_pl rfl rfl rfl ?_ rfl ?_ | apply draw_pl rfl rfl rfl rfl ?_ rfl rfl ?_); rotate_left; focus exact (.l rfl (fun H hs => opL_load rfl ((OwnA.slM own hs (by first | exact List.mem_of_getElem? (i := 0) rfl | exact List.mem_of_getElem? (i := 1) rfl | exact List.mem_of_getElem? (i := 2) rfl | exact List.mem_of_getElem? (i := 3) rfl | exact List.mem_of_getElem? (i := 4) rfl | exact List.mem_of_getElem? (i := 5) rfl | exact List.mem_of_getElem? (i := 6) rfl | exact List.mem_of_getElem? (i := 7) rfl)).ld rfl hget)))
    repeat (first | refine zrm ?_ | (refine zn ?_; intro _))
    refine ops_step rfl rfl rfl (step_call_app (z := 1) (ty := 5) (cs := (enc n ++ textsB (ts.take i) ++ (enc z.length ++ z)).map by8) 0 rfl rfl rfl rfl (fun H hs hst => textW_ok hst own1 (by omega) (by omega)) (fun a2 n2 c2 p2 own2 => ?_))
    rw [List.append_assoc, ← htake] at own2
    repeat (first | refine zrm ?_ | (refine zn ?_; intro _))
    refine ⟨q - 1, by omega, _, _, ?_, ?_, i + 1, n2, c2, a2, p2, by omega, own2, rfl, rfl⟩
    · exact ⟨rfl, rfl, rfl, rfl, trivial⟩
    · exact .refl _
  · have hi : i = n := by simp at hge; omega
    rw [List.take_of_length_le (by omega)] at own1
    repeat (first | refine zrm ?_ | (refine zn ?_; intro _))
    exact ⟨trivial, _, rfl, _, [], List.Perm.of_eq (List.append_nil _).symm, _, _, _, _, _, rfl, ⟨_, _, _, _, _, _, rfl, own, says⟩, rfl, by rw [poolB, hlen]; exact own1⟩
end Go.Proofs.YtlhkndjloeoodaaGreat
namespace Go.Proofs.YtlhkndjloeoodaaGreat
open Go.Ev Go.Ev.Wk
variable {O : Old}
theorem numGo_cases (most : Int) : ∀ (l : List UInt8) (i v : Nat), (∃ x k : Nat, numGo most l i v = ((x : Int), (k : Int), 0) ∧ i < k ∧ k ≤ i + l.length ∧ (x : Int) ≤ max most 0) ∨ ∃ e : Int, 0 < e ∧ e < 23 ∧ numGo most l i v = (0, 0, e)
  | [], i, v => .inr ⟨20, by decide, by decide, rfl⟩
  | c :: r, i, v => by
    rw [numGo]
    split
    · exact .inr ⟨21, by decide, by decide, rfl⟩
    · split
      · rcases numGo_cases most r (i + 1) (v + c.toNat % 128 * 2 ^ (7 * i)) with ⟨x, k, h1, h2, h3, h4⟩ | h
        · exact .inl ⟨x, k, h1, by omega, by rw [List.length_cons]; omega, h4⟩
        · exact .inr h
      · split
        · exact .inr ⟨22, by decide, by decide, rfl⟩
        · rename_i h
          refine .inl ⟨_, i + 1, rfl, by omega, by rw [List.length_cons]; omega, ?_⟩
          omega
theorem numR_cases (l : List UInt8) (most : Int) : (∃ x k : Nat, numR l most = ((x : Int), (k : Int), 0) ∧ 0 < k ∧ k ≤ l.length ∧ (x : Int) ≤ max most 0) ∨ ∃ e : Int, 0 < e ∧ e < 23 ∧ numR l most = (0, 0, e) := by
  rcases numGo_cases most l 0 0 with ⟨x, k, h1, h2, h3, h4⟩ | h
  · exact .inl ⟨x, k, h1, h2, by omega, h4⟩
  · exact .inr h
def textR (l : List UInt8) (most : Int) : List UInt8 × Nat × Int :=
  if (numR l most).2.2 ≠ 0 then ([], 0, (numR l most).2.2)
  else if l.length < (numR l most).2.1.toNat + (numR l most).1.toNat then ([], 0, 20)
  else ((l.drop (numR l most).2.1.toNat).take (numR l most).1.toNat, (numR l most).2.1.toNat + (numR l most).1.toNat, 0)
theorem textR_cases (l : List UInt8) (most : Int) : (∃ x k : Nat, numR l most = ((x : Int), (k : Int), 0) ∧ k + x ≤ l.length ∧ 0 < k ∧ (x : Int) ≤ max most 0 ∧ textR l most = ((l.drop k).take x, k + x, 0))
    ∨ (∃ x k : Nat, numR l most = ((x : Int), (k : Int), 0) ∧ l.length < k + x ∧ k ≤ l.length ∧ (x : Int) ≤ max most 0 ∧ textR l most = ([], 0, 20)) ∨ ∃ e : Int, 0 < e ∧ e < 23 ∧ numR l most = (0, 0, e) ∧ textR l most = ([], 0, e) := by
  rcases numR_cases l most with ⟨x, k, h1, h2, h3, h4⟩ | ⟨e, h1, h2, h3⟩
  · by_cases h : l.length < k + x
    · refine .inr (.inl ⟨x, k, h1, h, h3, h4, ?_⟩)
      rw [textR, h1]
      simp [h]
    · refine .inl ⟨x, k, h1, by omega, h2, h4, ?_⟩
      rw [textR, h1]
      simp [h]
  · refine .inr (.inr ⟨e, h1, h2, h3, ?_⟩)
    rw [textR, h3]
    have : e ≠ 0 := by omega
    simp [this]
set_option maxHeartbeats 8000000 in
set_option maxRecDepth 100000 in
theorem textShort_ok {H : Heap} {rb : Nat} {a : Option Addr} {n c k x : Nat} {l : List UInt8} {most : Int} (hh : Has H rb (rdr a n c 0)) (hlt : rb < H.next) (hs0 : SlX [rb] O H (.slice a n c) 1 n (l.map by8)) (hn : n ≤ 1073741824) (hr : numR l most = ((x : Int), (k : Int), 0)) (hk : k ≤ n) (hx : n < k + x) :
    CallC TT O 99 [.pointer (some ⟨rb, 0, some 0⟩), .int .i64 most] H fun v H' => ∃ ct', ExtBut [rb] H H' ∧ Has H' rb ct' ∧ (ct' = rdr a n c 20 ∧ v = str []) := by
  refine call_mut rfl rfl rfl rfl rfl hh hlt ?_
  repeat (first | refine zrm ?_ | (refine zn ?_; intro _))
  refine ops_step rfl rfl rfl (step_call_mut 0 rfl rfl rfl rfl (fun H' hs hh' hlt' => num_ok' hh' hlt' (hs0.mono hs.ext (fun _ h => h)) hn hr) (fun v ct' h => ?_))
  obtain ⟨rfl, rfl⟩ := h
  repeat (first | refine zrm ?_ | (refine zn ?_; intro _))
  rw [show decide ((x : Int) > (n : Int) - (k : Int)) = true from by simp; omega]
  repeat (first | refine zrm ?_ | (refine zn ?_; intro _))
  exact ⟨trivial, _, rfl, _, .head _, rfl, rfl⟩
def readTs : Nat → List UInt8 → Int × List (List UInt8) × List UInt8
  | 0, l => (0, [], l)
  | n + 1, l => if (textR l 1000).2.2 ≠ 0 then ((textR l 1000).2.2, [], []) else ((readTs n (l.drop (textR l 1000).2.1)).1, (textR l 1000).1 :: (readTs n (l.drop (textR l 1000).2.1)).2.1, (readTs n (l.drop (textR l 1000).2.1)).2.2)
def poolR (l : List UInt8) : Int × List (List UInt8) × List UInt8 :=
  if (numR l 10000).2.2 ≠ 0 then ((numR l 10000).2.2, [], []) else readTs (numR l 10000).1.toNat (l.drop (numR l 10000).2.1.toNat)
end Go.Proofs.YtlhkndjloeoodaaGreat
namespace Go.Proofs.YtlhkndjloeoodaaGreat
open Go.Ev Go.Ev.Wk
variable {O : Old}
def letN (n : Nat) : Bool := decide (97 ≤ n) && decide (n ≤ 122) || decide (65 ≤ n) && decide (n ≤ 90)
def restN (n : Nat) : Bool := letN n || decide (n = 95) || decide (48 ≤ n) && decide (n ≤ 57)
theorem letN_or : ∀ n < 256, (decide (97 ≤ (n ||| 32)) && decide ((n ||| 32) ≤ 122)) = letN n := by decide +kernel
theorem or32 {n : Nat} (h : n < 256) : IntKind.u8.wrap ((BitVec.ofInt IntKind.u8.bits (n : Int) ||| BitVec.ofInt IntKind.u8.bits 32).toNat : Int) = ((n ||| 32 : Nat) : Int) := by
  have h1 : n < 2 ^ IntKind.u8.bits := h
  have h2 : 32 < 2 ^ IntKind.u8.bits := by decide
  have h3 : n ||| 32 < 2 ^ 8 := Nat.or_lt_two_pow h (by decide)
  have := or_raw h1 h2
  rw [show ((32 : Nat) : Int) = 32 from rfl] at this
  rw [this]
  exact w8 rfl (by omega) (by omega)
def nameL (s : List UInt8) : Bool := match s with
  | [] => false
  | c :: r => decide (r.length < 64) && letN c.toNat && r.all fun c => restN c.toNat
set_option maxHeartbeats 8000000 in
set_option maxRecDepth 100000 in
theorem letter_ok {H : Heap} {n : Nat} (hc : n < 256) : CallC TT O 149 [.int .u8 (n : Int)] H fun v H' => v = .bool (letN n) ∧ Ext H H' := by
  refine call_pure rfl rfl rfl rfl rfl ?_
  rw [← letN_or _ hc]
  repeat (first | refine zr ?_ | (refine zn ?_; intro _))
  rw [or32 hc]
  cases h1 : decide (((n ||| 32 : Nat) : Int) ≥ 97)
  · repeat (first | refine zr ?_ | (refine zn ?_; intro _))
    refine ⟨trivial, _, rfl, ?_⟩
    rw [show decide (97 ≤ n ||| 32) = false from by simp at h1 ⊢; omega]
    rfl
  · repeat (first | refine zr ?_ | (refine zn ?_; intro _))
    refine ⟨trivial, _, rfl, ?_⟩
    rw [show decide (97 ≤ n ||| 32) = true from by simp at h1 ⊢; omega, show decide (n ||| 32 ≤ 122) = decide (((n ||| 32 : Nat) : Int) ≤ 122) from by rw [decide_eq_decide]; omega, ← or32 hc]
    rfl
theorem nameL_cons {c : UInt8} {r : List UInt8} : nameL (c :: r) = (decide (r.length < 64) && letN c.toNat && r.all fun c => restN c.toNat) := rfl
theorem restN_let {n : Nat} (h : letN n = true) : restN n = true := by rw [restN, h]; rfl
set_option maxHeartbeats 8000000 in
set_option maxRecDepth 100000 in
theorem name_ok {H : Heap} {s : List UInt8} : CallC TT O 115 [str s] H fun v H' => v = .bool (nameL s) ∧ Ext H H' := by
  refine call_pure rfl rfl rfl rfl rfl ?_
  cases s with
  | nil =>
    repeat (first | refine zr ?_ | (refine zn ?_; intro _))
    exact ⟨trivial, _, rfl, rfl⟩
  | cons c r =>
    repeat (first | refine zr ?_ | (refine zn ?_; intro _))
    cases hl : decide (((c :: r).length : Int) > 64)
    rotate_left
    · repeat (first | refine zr ?_ | (refine zn ?_; intro _))
      refine ⟨trivial, _, rfl, ?_⟩
      have hl2 : ¬ r.length < 64 := by simp at hl; omega
      rw [nameL_cons, decide_eq_false hl2]
      rfl
    have hl2 : r.length < 64 := by simp at hl; omega
    repeat (first | refine zr ?_ | (refine zn ?_; intro _))
    refine ops_step rfl rfl rfl (step_call_pure rfl rfl rfl (fun H hs => letter_ok c.toNat_lt) ?_)
    cases hc : letN c.toNat
    · repeat (first | refine zr ?_ | (refine zn ?_; intro _))
      refine ⟨trivial, _, rfl, ?_⟩
      rw [nameL_cons, hc, Bool.and_false]
      rfl
    have hall : nameL (c :: r) = (c :: r).all fun c => restN c.toNat := by
      rw [nameL_cons, hc, decide_eq_true hl2, List.all_cons, restN_let hc]
      rfl
    rw [hall]
    have hsl : (c :: r).length ≤ 64 := by simp; omega
    clear hall hl2 hl hc
    generalize c :: r = s at hsl
    repeat (first | refine zr ?_ | (refine zn ?_; intro _))
    refine ExecS.weak (E' := [(0, str s), (19, .int .i64 (s.length : Int)), (20, .int .i64 ((0 : Nat) : Int))]) (L' := []) ⟨rfl, rfl, rfl, trivial⟩ (.refl _) ?_
    refine exec_loop (fun q E L => ∃ i : Nat, i + q = s.length ∧ (∀ c ∈ s.take i, restN c.toNat = true) ∧ E = [(0, str s), (19, .int .i64 (s.length : Int)), (20, .int .i64 (i : Int))] ∧ L = []) ?_ s.length _ _ ⟨0, by omega, by simp, rfl, rfl⟩
    rintro q E L ⟨i, hiq, hrest, rfl, rfl⟩
    repeat (first | refine zr ?_ | (refine zn ?_; intro _))
    refine exec_cond rfl (fun hlt => ?_) (fun hge => ?_)
    rotate_left
    · repeat (first | refine zr ?_ | (refine zn ?_; intro _))
      refine ⟨trivial, _, rfl, ?_⟩
      have hi : s.length ≤ i := by simp at hge; omega
      rw [List.take_of_length_le hi] at hrest
      rw [show (s.all fun c => restN c.toNat) = true from List.all_eq_true.2 hrest]
      rfl
    have hi : i < s.length := by simp at hlt; omega
    obtain ⟨z, hz, hzm⟩ : ∃ z, s[i]? = some z ∧ z ∈ s := ⟨s[i], List.getElem?_eq_getElem hi, List.getElem_mem hi⟩
    have hz8 := z.toNat_lt
    have hno : restN z.toNat = false → (s.all fun c => restN c.toNat) = false := fun h => List.all_eq_false.2 ⟨z, hzm, by rw [h]; decide⟩
    have hyes : restN z.toNat = true → ∀ c ∈ s.take (i + 1), restN c.toNat = true := fun h c hc => by
      rw [List.take_add_one, hz] at hc
      simp only [Option.toList_some, List.mem_append, List.mem_singleton] at hc
      rcases hc with hc | rfl
      · exact hrest c hc
      · exact h
    repeat (first | refine zr ?_ | (refine zn ?_; intro _))
    first | refine ops_pl rfl rfl rfl (.sidx rfl rfl rfl rfl (by omega) hz) rfl ?_ | refine draw_pl rfl rfl rfl rfl (.sidx rfl rfl rfl rfl (by omega) hz) rfl rfl ?_
    repeat (first | refine zr ?_ | (refine zn ?_; intro _))
    refine ops_step rfl rfl rfl (step_call_pure rfl rfl rfl (fun H hs => letter_ok hz8) ?_)
    refine OpsS.mono (Q := fun E L => SubE [(0, str s), (19, .int .i64 (s.length : Int)), (20, .int .i64 (i : Int)), (40, .bool (!(restN z.toNat)))] E ∧ L = []) ?_ ?_
    · cases hc : letN z.toNat
      · repeat (first | refine zo ?_ | (refine zn ?_; intro _))
        cases h95 : ((z.toNat : Int) != 95)
        · repeat (first | refine zo ?_ | (refine zn ?_; intro _))
          refine ops_nil ⟨⟨rfl, rfl, rfl, ?_, trivial⟩, rfl⟩
          rw [restN, hc, show decide (z.toNat = 95) = true from by simp at h95 ⊢; omega]
          rfl
        · repeat (first | refine zo ?_ | (refine zn ?_; intro _))
          cases h48 : decide ((z.toNat : Int) < 48)
          · repeat (first | refine zo ?_ | (refine zn ?_; intro _))
            refine ops_nil ⟨⟨rfl, rfl, rfl, ?_, trivial⟩, rfl⟩
            rw [restN, hc, show decide (z.toNat = 95) = false from by simp at h95 ⊢; omega, show decide (48 ≤ z.toNat) = true from by simp at h48 ⊢; omega, show decide (z.toNat ≤ 57) = !decide ((z.toNat : Int) > 57) from by rw [← decide_not, decide_eq_decide]; omega]
            simp only [Bool.false_or, Bool.true_and, Bool.not_not]
            rfl
          · repeat (first | refine zo ?_ | (refine zn ?_; intro _))
            refine ops_nil ⟨⟨rfl, rfl, rfl, ?_, trivial⟩, rfl⟩
            rw [restN, hc, show decide (z.toNat = 95) = false from by simp at h95 ⊢; omega, show decide (48 ≤ z.toNat) = false from by simp at h48 ⊢; omega]
            rfl
      · repeat (first | refine zo ?_ | (refine zn ?_; intro _))
        refine ops_nil ⟨⟨rfl, rfl, rfl, ?_, trivial⟩, rfl⟩
        rw [restN, hc]
        rfl
    rintro E L ⟨hE, rfl⟩
    refine ExecS.weak hE (.refl _) ?_
    cases hr : restN z.toNat
    · repeat (first | refine zr ?_ | (refine zn ?_; intro _))
      exact ⟨trivial, _, rfl, by rw [hno hr]; rfl⟩
    · repeat (first | refine zr ?_ | (refine zn ?_; intro _))
      refine ⟨q - 1, by omega, _, _, ?_, .refl _, i + 1, by omega, hyes hr, rfl, rfl⟩
      exact ⟨rfl, rfl, rfl, trivial⟩
end Go.Proofs.YtlhkndjloeoodaaGreat
namespace Go.Proofs.YtlhkndjloeoodaaGreat
open Go.Ev Go.Ev.Wk
variable {O : Old}
def usesZ (o : Int) : Int :=
  if o = 1 then 1 else if o = 2 then 2 else if o = 4 then 3 else if o = 5 then 3 else if o = 19 then 3 else if o = 20 then 3 else if o = 26 then 4 else if o = 27 then 4 else if o = 28 then 4 else if o = 29 then 4 else if o = 34 then 5 else if o = 35 then 5 else if o = 36 then 5 else if o = 37 then 5 else if o = 25 then 6 else if o = 30 then 6 else if o = 31 then 6 else 0
set_option maxHeartbeats 8000000 in
set_option maxRecDepth 100000 in
theorem uses_ok {H : Heap} {o : Int} : CallC TT O 175 [.int .i64 o] H fun v H' => v = .int .i64 (usesZ o) ∧ Ext H H' := by
  refine call_pure rfl rfl rfl rfl rfl ?_
  repeat (first | refine zr ?_ | (refine zn ?_; intro _))
  cases h1 : (o == 1)
  rotate_left
  · repeat (first | refine zr ?_ | (refine zn ?_; intro _))
    obtain rfl : o = 1 := by simpa using h1
    exact ⟨trivial, _, rfl, rfl⟩
  repeat (first | refine zr ?_ | (refine zn ?_; intro _))
  cases h2 : (o == 2)
  rotate_left
  · repeat (first | refine zr ?_ | (refine zn ?_; intro _))
    obtain rfl : o = 2 := by simpa using h2
    exact ⟨trivial, _, rfl, rfl⟩
  repeat (first | refine zr ?_ | (refine zn ?_; intro _))
  cases h4 : (o == 4)
  rotate_left
  · repeat (first | refine zr ?_ | (refine zn ?_; intro _))
    obtain rfl : o = 4 := by simpa using h4
    exact ⟨trivial, _, rfl, rfl⟩
  repeat (first | refine zr ?_ | (refine zn ?_; intro _))
  cases h5 : (o == 5)
  rotate_left
  · repeat (first | refine zr ?_ | (refine zn ?_; intro _))
    obtain rfl : o = 5 := by simpa using h5
    exact ⟨trivial, _, rfl, rfl⟩
  repeat (first | refine zr ?_ | (refine zn ?_; intro _))
  cases h19 : (o == 19)
  rotate_left
  · repeat (first | refine zr ?_ | (refine zn ?_; intro _))
    obtain rfl : o = 19 := by simpa using h19
    exact ⟨trivial, _, rfl, rfl⟩
  repeat (first | refine zr ?_ | (refine zn ?_; intro _))
  cases h20 : (o == 20)
  rotate_left
  · repeat (first | refine zr ?_ | (refine zn ?_; intro _))
    obtain rfl : o = 20 := by simpa using h20
    exact ⟨trivial, _, rfl, rfl⟩
  repeat (first | refine zr ?_ | (refine zn ?_; intro _))
  cases h26 : (o == 26)
  rotate_left
  · repeat (first | refine zr ?_ | (refine zn ?_; intro _))
    obtain rfl : o = 26 := by simpa using h26
    exact ⟨trivial, _, rfl, rfl⟩
  repeat (first | refine zr ?_ | (refine zn ?_; intro _))
  cases h27 : (o == 27)
  rotate_left
  · repeat (first | refine zr ?_ | (refine zn ?_; intro _))
    obtain rfl : o = 27 := by simpa using h27
    exact ⟨trivial, _, rfl, rfl⟩
  repeat (first | refine zr ?_ | (refine zn ?_; intro _))
  cases h28 : (o == 28)
  rotate_left
  · repeat (first | refine zr ?_ | (refine zn ?_; intro _))
    obtain rfl : o = 28 := by simpa using h28
    exact ⟨trivial, _, rfl, rfl⟩
  repeat (first | refine zr ?_ | (refine zn ?_; intro _))
  cases h29 : (o == 29)
  rotate_left
  · repeat (first | refine zr ?_ | (refine zn ?_; intro _))
    obtain rfl : o = 29 := by simpa using h29
    exact ⟨trivial, _, rfl, rfl⟩
  repeat (first | refine zr ?_ | (refine zn ?_; intro _))
  cases h34 : (o == 34)
  rotate_left
  · repeat (first | refine zr ?_ | (refine zn ?_; intro _))
    obtain rfl : o = 34 := by simpa using h34
    exact ⟨trivial, _, rfl, rfl⟩
  repeat (first | refine zr ?_ | (refine zn ?_; intro _))
  cases h35 : (o == 35)
  rotate_left
  · repeat (first | refine zr ?_ | (refine zn ?_; intro _))
    obtain rfl : o = 35 := by simpa using h35
    exact ⟨trivial, _, rfl, rfl⟩
  repeat (first | refine zr ?_ | (refine zn ?_; intro _))
  cases h36 : (o == 36)
  rotate_left
  · repeat (first | refine zr ?_ | (refine zn ?_; intro _))
    obtain rfl : o = 36 := by simpa using h36
    exact ⟨trivial, _, rfl, rfl⟩
  repeat (first | refine zr ?_ | (refine zn ?_; intro _))
  cases h37 : (o == 37)
  rotate_left
  · repeat (first | refine zr ?_ | (refine zn ?_; intro _))
    obtain rfl : o = 37 := by simpa using h37
    exact ⟨trivial, _, rfl, rfl⟩
  repeat (first | refine zr ?_ | (refine zn ?_; intro _))
  cases h25 : (o == 25)
  rotate_left
  · repeat (first | refine zr ?_ | (refine zn ?_; intro _))
    obtain rfl : o = 25 := by simpa using h25
    exact ⟨trivial, _, rfl, rfl⟩
  repeat (first | refine zr ?_ | (refine zn ?_; intro _))
  cases h30 : (o == 30)
  rotate_left
  · repeat (first | refine zr ?_ | (refine zn ?_; intro _))
    obtain rfl : o = 30 := by simpa using h30
    exact ⟨trivial, _, rfl, rfl⟩
  repeat (first | refine zr ?_ | (refine zn ?_; intro _))
  cases h31 : (o == 31)
  rotate_left
  · repeat (first | refine zr ?_ | (refine zn ?_; intro _))
    obtain rfl : o = 31 := by simpa using h31
    exact ⟨trivial, _, rfl, rfl⟩
  repeat (first | refine zr ?_ | (refine zn ?_; intro _))
  refine ⟨trivial, _, rfl, ?_⟩
  have n : ∀ {c : Int}, (o == c) = false → ¬ o = c := fun h e => by simp [e] at h
  rw [usesZ, if_neg (n h1), if_neg (n h2), if_neg (n h4), if_neg (n h5), if_neg (n h19), if_neg (n h20), if_neg (n h26), if_neg (n h27), if_neg (n h28), if_neg (n h29), if_neg (n h34), if_neg (n h35), if_neg (n h36), if_neg (n h37), if_neg (n h25), if_neg (n h30), if_neg (n h31)]
  rfl
end Go.Proofs.YtlhkndjloeoodaaGreat
