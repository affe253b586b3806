/-
  The table of this seat's program: its functions, its types, what is passed over.
-/
import Derived.Test.YtihkhhekjkadpaaGreatEvRow
import Derived.Test.YtihkhhekjkadpaaGreatRows
namespace Go.Proofs.YtihkhhekjkadpaaGreat
open Go.Ev
noncomputable def fs : Tr Func :=
  .nd (.some Tryz.f0) (.nd (.some Tryz.f1) (.nd (.some Tryz.f3) (.nd (.some Tryz.f7) (.nd (.some Tryz.f15) (.nd (.some Tryz.f31) (.nd (.some Tryz.f63) (.nd (.some Tryz.f127) (.nd (.some Tryz.f255) (.lf) (.lf)) (.lf)) (.nd (.some
  Tryz.f191) (.lf) (.lf))) (.nd (.some Tryz.f95) (.nd (.some Tryz.f159) (.lf) (.lf)) (.nd (.some Tryz.f223) (.lf) (.lf)))) (.nd (.some Tryz.f47) (.nd (.some Tryz.f79) (.nd (.some Tryz.f143) (.nd (.some Tryz.f271) (.lf) (.lf))
  (.lf)) (.nd (.some Tryz.f207) (.lf) (.lf))) (.nd (.some Tryz.f111) (.nd (.some Tryz.f175) (.lf) (.lf)) (.nd (.some Tryz.f239) (.lf) (.lf))))) (.nd (.some Tryz.f23) (.nd (.some Tryz.f39) (.nd (.some Tryz.f71) (.nd (.some
  Tryz.f135) (.nd (.some Tryz.f263) (.lf) (.lf)) (.lf)) (.nd (.some Tryz.f199) (.lf) (.lf))) (.nd (.some Tryz.f103) (.nd (.some Tryz.f167) (.lf) (.lf)) (.nd (.some Tryz.f231) (.lf) (.lf)))) (.nd (.some Tryz.f55) (.nd (.some
  Tryz.f87) (.nd (.some Tryz.f151) (.nd (.some Tryz.f279) (.lf) (.lf)) (.lf)) (.nd (.some Tryz.f215) (.lf) (.lf))) (.nd (.some Tryz.f119) (.nd (.some Tryz.f183) (.lf) (.lf)) (.nd (.some Tryz.f247) (.lf) (.lf)))))) (.nd (.some
  Tryz.f11) (.nd (.some Tryz.f19) (.nd (.some Tryz.f35) (.nd (.some Tryz.f67) (.nd (.some Tryz.f131) (.nd (.some Tryz.f259) (.lf) (.lf)) (.lf)) (.nd (.some Tryz.f195) (.lf) (.lf))) (.nd (.some Tryz.f99) (.nd (.some Tryz.f163) (.lf)
  (.lf)) (.nd (.some Tryz.f227) (.lf) (.lf)))) (.nd (.some Tryz.f51) (.nd (.some Tryz.f83) (.nd (.some Tryz.f147) (.nd (.some Tryz.f275) (.lf) (.lf)) (.lf)) (.nd (.some Tryz.f211) (.lf) (.lf))) (.nd (.some Tryz.f115) (.nd (.some
  Tryz.f179) (.lf) (.lf)) (.nd (.some Tryz.f243) (.lf) (.lf))))) (.nd (.some Tryz.f27) (.nd (.some Tryz.f43) (.nd (.some Tryz.f75) (.nd (.some Tryz.f139) (.nd (.some Tryz.f267) (.lf) (.lf)) (.lf)) (.nd (.some Tryz.f203) (.lf)
  (.lf))) (.nd (.some Tryz.f107) (.nd (.some Tryz.f171) (.lf) (.lf)) (.nd (.some Tryz.f235) (.lf) (.lf)))) (.nd (.some Tryz.f59) (.nd (.some Tryz.f91) (.nd (.some Tryz.f155) (.nd (.some Tryz.f283) (.lf) (.lf)) (.lf)) (.nd (.some
  Tryz.f219) (.lf) (.lf))) (.nd (.some Tryz.f123) (.nd (.some Tryz.f187) (.lf) (.lf)) (.nd (.some Tryz.f251) (.lf) (.lf))))))) (.nd (.some Tryz.f5) (.nd (.some Tryz.f9) (.nd (.some Tryz.f17) (.nd (.some Tryz.f33) (.nd (.some
  Tryz.f65) (.nd (.some Tryz.f129) (.nd (.some Tryz.f257) (.lf) (.lf)) (.lf)) (.nd (.some Tryz.f193) (.lf) (.lf))) (.nd (.some Tryz.f97) (.nd (.some Tryz.f161) (.lf) (.lf)) (.nd (.some Tryz.f225) (.lf) (.lf)))) (.nd (.some
  Tryz.f49) (.nd (.some Tryz.f81) (.nd (.some Tryz.f145) (.nd (.some Tryz.f273) (.lf) (.lf)) (.lf)) (.nd (.some Tryz.f209) (.lf) (.lf))) (.nd (.some Tryz.f113) (.nd (.some Tryz.f177) (.lf) (.lf)) (.nd (.some Tryz.f241) (.lf)
  (.lf))))) (.nd (.some Tryz.f25) (.nd (.some Tryz.f41) (.nd (.some Tryz.f73) (.nd (.some Tryz.f137) (.nd (.some Tryz.f265) (.lf) (.lf)) (.lf)) (.nd (.some Tryz.f201) (.lf) (.lf))) (.nd (.some Tryz.f105) (.nd (.some Tryz.f169)
  (.lf) (.lf)) (.nd (.some Tryz.f233) (.lf) (.lf)))) (.nd (.some Tryz.f57) (.nd (.some Tryz.f89) (.nd (.some Tryz.f153) (.nd (.some Tryz.f281) (.lf) (.lf)) (.lf)) (.nd (.some Tryz.f217) (.lf) (.lf))) (.nd (.some Tryz.f121) (.nd
  (.some Tryz.f185) (.lf) (.lf)) (.nd (.some Tryz.f249) (.lf) (.lf)))))) (.nd (.some Tryz.f13) (.nd (.some Tryz.f21) (.nd (.some Tryz.f37) (.nd (.some Tryz.f69) (.nd (.some Tryz.f133) (.nd (.some Tryz.f261) (.lf) (.lf)) (.lf)) (.nd
  (.some Tryz.f197) (.lf) (.lf))) (.nd (.some Tryz.f101) (.nd (.some Tryz.f165) (.lf) (.lf)) (.nd (.some Tryz.f229) (.lf) (.lf)))) (.nd (.some Tryz.f53) (.nd (.some Tryz.f85) (.nd (.some Tryz.f149) (.nd (.some Tryz.f277) (.lf)
  (.lf)) (.lf)) (.nd (.some Tryz.f213) (.lf) (.lf))) (.nd (.some Tryz.f117) (.nd (.some Tryz.f181) (.lf) (.lf)) (.nd (.some Tryz.f245) (.lf) (.lf))))) (.nd (.some Tryz.f29) (.nd (.some Tryz.f45) (.nd (.some Tryz.f77) (.nd (.some
  Tryz.f141) (.nd (.some Tryz.f269) (.lf) (.lf)) (.lf)) (.nd (.some Tryz.f205) (.lf) (.lf))) (.nd (.some Tryz.f109) (.nd (.some Tryz.f173) (.lf) (.lf)) (.nd (.some Tryz.f237) (.lf) (.lf)))) (.nd (.some Tryz.f61) (.nd (.some
  Tryz.f93) (.nd (.some Tryz.f157) (.nd (.some Tryz.f285) (.lf) (.lf)) (.lf)) (.nd (.some Tryz.f221) (.lf) (.lf))) (.nd (.some Tryz.f125) (.nd (.some Tryz.f189) (.lf) (.lf)) (.nd (.some Tryz.f253) (.lf) (.lf)))))))) (.nd (.some
  Tryz.f2) (.nd (.some Tryz.f4) (.nd (.some Tryz.f8) (.nd (.some Tryz.f16) (.nd (.some Tryz.f32) (.nd (.some Tryz.f64) (.nd (.some Tryz.f128) (.nd (.some Tryz.f256) (.lf) (.lf)) (.lf)) (.nd (.some Tryz.f192) (.lf) (.lf))) (.nd
  (.some Tryz.f96) (.nd (.some Tryz.f160) (.lf) (.lf)) (.nd (.some Tryz.f224) (.lf) (.lf)))) (.nd (.some Tryz.f48) (.nd (.some Tryz.f80) (.nd (.some Tryz.f144) (.nd (.some Tryz.f272) (.lf) (.lf)) (.lf)) (.nd (.some Tryz.f208) (.lf)
  (.lf))) (.nd (.some Tryz.f112) (.nd (.some Tryz.f176) (.lf) (.lf)) (.nd (.some Tryz.f240) (.lf) (.lf))))) (.nd (.some Tryz.f24) (.nd (.some Tryz.f40) (.nd (.some Tryz.f72) (.nd (.some Tryz.f136) (.nd (.some Tryz.f264) (.lf)
  (.lf)) (.lf)) (.nd (.some Tryz.f200) (.lf) (.lf))) (.nd (.some Tryz.f104) (.nd (.some Tryz.f168) (.lf) (.lf)) (.nd (.some Tryz.f232) (.lf) (.lf)))) (.nd (.some Tryz.f56) (.nd (.some Tryz.f88) (.nd (.some Tryz.f152) (.nd (.some
  Tryz.f280) (.lf) (.lf)) (.lf)) (.nd (.some Tryz.f216) (.lf) (.lf))) (.nd (.some Tryz.f120) (.nd (.some Tryz.f184) (.lf) (.lf)) (.nd (.some Tryz.f248) (.lf) (.lf)))))) (.nd (.some Tryz.f12) (.nd (.some Tryz.f20) (.nd (.some
  Tryz.f36) (.nd (.some Tryz.f68) (.nd (.some Tryz.f132) (.nd (.some Tryz.f260) (.lf) (.lf)) (.lf)) (.nd (.some Tryz.f196) (.lf) (.lf))) (.nd (.some Tryz.f100) (.nd (.some Tryz.f164) (.lf) (.lf)) (.nd (.some Tryz.f228) (.lf)
  (.lf)))) (.nd (.some Tryz.f52) (.nd (.some Tryz.f84) (.nd (.some Tryz.f148) (.nd (.some Tryz.f276) (.lf) (.lf)) (.lf)) (.nd (.some Tryz.f212) (.lf) (.lf))) (.nd (.some Tryz.f116) (.nd (.some Tryz.f180) (.lf) (.lf)) (.nd (.some
  Tryz.f244) (.lf) (.lf))))) (.nd (.some Tryz.f28) (.nd (.some Tryz.f44) (.nd (.some Tryz.f76) (.nd (.some Tryz.f140) (.nd (.some Tryz.f268) (.lf) (.lf)) (.lf)) (.nd (.some Tryz.f204) (.lf) (.lf))) (.nd (.some Tryz.f108) (.nd
  (.some Tryz.f172) (.lf) (.lf)) (.nd (.some Tryz.f236) (.lf) (.lf)))) (.nd (.some Tryz.f60) (.nd (.some Tryz.f92) (.nd (.some Tryz.f156) (.nd (.some Tryz.f284) (.lf) (.lf)) (.lf)) (.nd (.some Tryz.f220) (.lf) (.lf))) (.nd (.some
  Tryz.f124) (.nd (.some Tryz.f188) (.lf) (.lf)) (.nd (.some Tryz.f252) (.lf) (.lf))))))) (.nd (.some Tryz.f6) (.nd (.some Tryz.f10) (.nd (.some Tryz.f18) (.nd (.some Tryz.f34) (.nd (.some Tryz.f66) (.nd (.some Tryz.f130) (.nd
  (.some Tryz.f258) (.lf) (.lf)) (.lf)) (.nd (.some Tryz.f194) (.lf) (.lf))) (.nd (.some Tryz.f98) (.nd (.some Tryz.f162) (.lf) (.lf)) (.nd (.some Tryz.f226) (.lf) (.lf)))) (.nd (.some Tryz.f50) (.nd (.some Tryz.f82) (.nd (.some
  Tryz.f146) (.nd (.some Tryz.f274) (.lf) (.lf)) (.lf)) (.nd (.some Tryz.f210) (.lf) (.lf))) (.nd (.some Tryz.f114) (.nd (.some Tryz.f178) (.lf) (.lf)) (.nd (.some Tryz.f242) (.lf) (.lf))))) (.nd (.some Tryz.f26) (.nd (.some
  Tryz.f42) (.nd (.some Tryz.f74) (.nd (.some Tryz.f138) (.nd (.some Tryz.f266) (.lf) (.lf)) (.lf)) (.nd (.some Tryz.f202) (.lf) (.lf))) (.nd (.some Tryz.f106) (.nd (.some Tryz.f170) (.lf) (.lf)) (.nd (.some Tryz.f234) (.lf)
  (.lf)))) (.nd (.some Tryz.f58) (.nd (.some Tryz.f90) (.nd (.some Tryz.f154) (.nd (.some Tryz.f282) (.lf) (.lf)) (.lf)) (.nd (.some Tryz.f218) (.lf) (.lf))) (.nd (.some Tryz.f122) (.nd (.some Tryz.f186) (.lf) (.lf)) (.nd (.some
  Tryz.f250) (.lf) (.lf)))))) (.nd (.some Tryz.f14) (.nd (.some Tryz.f22) (.nd (.some Tryz.f38) (.nd (.some Tryz.f70) (.nd (.some Tryz.f134) (.nd (.some Tryz.f262) (.lf) (.lf)) (.lf)) (.nd (.some Tryz.f198) (.lf) (.lf))) (.nd
  (.some Tryz.f102) (.nd (.some Tryz.f166) (.lf) (.lf)) (.nd (.some Tryz.f230) (.lf) (.lf)))) (.nd (.some Tryz.f54) (.nd (.some Tryz.f86) (.nd (.some Tryz.f150) (.nd (.some Tryz.f278) (.lf) (.lf)) (.lf)) (.nd (.some Tryz.f214)
  (.lf) (.lf))) (.nd (.some Tryz.f118) (.nd (.some Tryz.f182) (.lf) (.lf)) (.nd (.some Tryz.f246) (.lf) (.lf))))) (.nd (.some Tryz.f30) (.nd (.some Tryz.f46) (.nd (.some Tryz.f78) (.nd (.some Tryz.f142) (.nd (.some Tryz.f270) (.lf)
  (.lf)) (.lf)) (.nd (.some Tryz.f206) (.lf) (.lf))) (.nd (.some Tryz.f110) (.nd (.some Tryz.f174) (.lf) (.lf)) (.nd (.some Tryz.f238) (.lf) (.lf)))) (.nd (.some Tryz.f62) (.nd (.some Tryz.f94) (.nd (.some Tryz.f158) (.nd (.some
  Tryz.f286) (.lf) (.lf)) (.lf)) (.nd (.some Tryz.f222) (.lf) (.lf))) (.nd (.some Tryz.f126) (.nd (.some Tryz.f190) (.lf) (.lf)) (.nd (.some Tryz.f254) (.lf) (.lf))))))))
noncomputable def ts : Tr TypeInfo :=
  .nd (.some Tryz.t0) (.nd (.some Tryz.t1) (.nd (.some Tryz.t3) (.nd (.some Tryz.t7) (.nd (.some Tryz.t15) (.nd (.some Tryz.t31) (.nd (.some Tryz.t63) (.nd (.some Tryz.t127) (.nd (.some Tryz.t255) (.lf) (.lf)) (.lf)) (.nd (.some
  Tryz.t191) (.nd (.some Tryz.t319) (.lf) (.lf)) (.lf))) (.nd (.some Tryz.t95) (.nd (.some Tryz.t159) (.nd (.some Tryz.t287) (.lf) (.lf)) (.lf)) (.nd (.some Tryz.t223) (.nd (.some Tryz.t351) (.lf) (.lf)) (.lf)))) (.nd (.some
  Tryz.t47) (.nd (.some Tryz.t79) (.nd (.some Tryz.t143) (.nd (.some Tryz.t271) (.lf) (.lf)) (.lf)) (.nd (.some Tryz.t207) (.nd (.some Tryz.t335) (.lf) (.lf)) (.lf))) (.nd (.some Tryz.t111) (.nd (.some Tryz.t175) (.nd (.some
  Tryz.t303) (.lf) (.lf)) (.lf)) (.nd (.some Tryz.t239) (.lf) (.lf))))) (.nd (.some Tryz.t23) (.nd (.some Tryz.t39) (.nd (.some Tryz.t71) (.nd (.some Tryz.t135) (.nd (.some Tryz.t263) (.lf) (.lf)) (.lf)) (.nd (.some Tryz.t199) (.nd
  (.some Tryz.t327) (.lf) (.lf)) (.lf))) (.nd (.some Tryz.t103) (.nd (.some Tryz.t167) (.nd (.some Tryz.t295) (.lf) (.lf)) (.lf)) (.nd (.some Tryz.t231) (.lf) (.lf)))) (.nd (.some Tryz.t55) (.nd (.some Tryz.t87) (.nd (.some
  Tryz.t151) (.nd (.some Tryz.t279) (.lf) (.lf)) (.lf)) (.nd (.some Tryz.t215) (.nd (.some Tryz.t343) (.lf) (.lf)) (.lf))) (.nd (.some Tryz.t119) (.nd (.some Tryz.t183) (.nd (.some Tryz.t311) (.lf) (.lf)) (.lf)) (.nd (.some
  Tryz.t247) (.lf) (.lf)))))) (.nd (.some Tryz.t11) (.nd (.some Tryz.t19) (.nd (.some Tryz.t35) (.nd (.some Tryz.t67) (.nd (.some Tryz.t131) (.nd (.some Tryz.t259) (.lf) (.lf)) (.lf)) (.nd (.some Tryz.t195) (.nd (.some Tryz.t323)
  (.lf) (.lf)) (.lf))) (.nd (.some Tryz.t99) (.nd (.some Tryz.t163) (.nd (.some Tryz.t291) (.lf) (.lf)) (.lf)) (.nd (.some Tryz.t227) (.lf) (.lf)))) (.nd (.some Tryz.t51) (.nd (.some Tryz.t83) (.nd (.some Tryz.t147) (.nd (.some
  Tryz.t275) (.lf) (.lf)) (.lf)) (.nd (.some Tryz.t211) (.nd (.some Tryz.t339) (.lf) (.lf)) (.lf))) (.nd (.some Tryz.t115) (.nd (.some Tryz.t179) (.nd (.some Tryz.t307) (.lf) (.lf)) (.lf)) (.nd (.some Tryz.t243) (.lf) (.lf)))))
  (.nd (.some Tryz.t27) (.nd (.some Tryz.t43) (.nd (.some Tryz.t75) (.nd (.some Tryz.t139) (.nd (.some Tryz.t267) (.lf) (.lf)) (.lf)) (.nd (.some Tryz.t203) (.nd (.some Tryz.t331) (.lf) (.lf)) (.lf))) (.nd (.some Tryz.t107) (.nd
  (.some Tryz.t171) (.nd (.some Tryz.t299) (.lf) (.lf)) (.lf)) (.nd (.some Tryz.t235) (.lf) (.lf)))) (.nd (.some Tryz.t59) (.nd (.some Tryz.t91) (.nd (.some Tryz.t155) (.nd (.some Tryz.t283) (.lf) (.lf)) (.lf)) (.nd (.some
  Tryz.t219) (.nd (.some Tryz.t347) (.lf) (.lf)) (.lf))) (.nd (.some Tryz.t123) (.nd (.some Tryz.t187) (.nd (.some Tryz.t315) (.lf) (.lf)) (.lf)) (.nd (.some Tryz.t251) (.lf) (.lf))))))) (.nd (.some Tryz.t5) (.nd (.some Tryz.t9)
  (.nd (.some Tryz.t17) (.nd (.some Tryz.t33) (.nd (.some Tryz.t65) (.nd (.some Tryz.t129) (.nd (.some Tryz.t257) (.lf) (.lf)) (.lf)) (.nd (.some Tryz.t193) (.nd (.some Tryz.t321) (.lf) (.lf)) (.lf))) (.nd (.some Tryz.t97) (.nd
  (.some Tryz.t161) (.nd (.some Tryz.t289) (.lf) (.lf)) (.lf)) (.nd (.some Tryz.t225) (.lf) (.lf)))) (.nd (.some Tryz.t49) (.nd (.some Tryz.t81) (.nd (.some Tryz.t145) (.nd (.some Tryz.t273) (.lf) (.lf)) (.lf)) (.nd (.some
  Tryz.t209) (.nd (.some Tryz.t337) (.lf) (.lf)) (.lf))) (.nd (.some Tryz.t113) (.nd (.some Tryz.t177) (.nd (.some Tryz.t305) (.lf) (.lf)) (.lf)) (.nd (.some Tryz.t241) (.lf) (.lf))))) (.nd (.some Tryz.t25) (.nd (.some Tryz.t41)
  (.nd (.some Tryz.t73) (.nd (.some Tryz.t137) (.nd (.some Tryz.t265) (.lf) (.lf)) (.lf)) (.nd (.some Tryz.t201) (.nd (.some Tryz.t329) (.lf) (.lf)) (.lf))) (.nd (.some Tryz.t105) (.nd (.some Tryz.t169) (.nd (.some Tryz.t297) (.lf)
  (.lf)) (.lf)) (.nd (.some Tryz.t233) (.lf) (.lf)))) (.nd (.some Tryz.t57) (.nd (.some Tryz.t89) (.nd (.some Tryz.t153) (.nd (.some Tryz.t281) (.lf) (.lf)) (.lf)) (.nd (.some Tryz.t217) (.nd (.some Tryz.t345) (.lf) (.lf)) (.lf)))
  (.nd (.some Tryz.t121) (.nd (.some Tryz.t185) (.nd (.some Tryz.t313) (.lf) (.lf)) (.lf)) (.nd (.some Tryz.t249) (.lf) (.lf)))))) (.nd (.some Tryz.t13) (.nd (.some Tryz.t21) (.nd (.some Tryz.t37) (.nd (.some Tryz.t69) (.nd (.some
  Tryz.t133) (.nd (.some Tryz.t261) (.lf) (.lf)) (.lf)) (.nd (.some Tryz.t197) (.nd (.some Tryz.t325) (.lf) (.lf)) (.lf))) (.nd (.some Tryz.t101) (.nd (.some Tryz.t165) (.nd (.some Tryz.t293) (.lf) (.lf)) (.lf)) (.nd (.some
  Tryz.t229) (.lf) (.lf)))) (.nd (.some Tryz.t53) (.nd (.some Tryz.t85) (.nd (.some Tryz.t149) (.nd (.some Tryz.t277) (.lf) (.lf)) (.lf)) (.nd (.some Tryz.t213) (.nd (.some Tryz.t341) (.lf) (.lf)) (.lf))) (.nd (.some Tryz.t117)
  (.nd (.some Tryz.t181) (.nd (.some Tryz.t309) (.lf) (.lf)) (.lf)) (.nd (.some Tryz.t245) (.lf) (.lf))))) (.nd (.some Tryz.t29) (.nd (.some Tryz.t45) (.nd (.some Tryz.t77) (.nd (.some Tryz.t141) (.nd (.some Tryz.t269) (.lf) (.lf))
  (.lf)) (.nd (.some Tryz.t205) (.nd (.some Tryz.t333) (.lf) (.lf)) (.lf))) (.nd (.some Tryz.t109) (.nd (.some Tryz.t173) (.nd (.some Tryz.t301) (.lf) (.lf)) (.lf)) (.nd (.some Tryz.t237) (.lf) (.lf)))) (.nd (.some Tryz.t61) (.nd
  (.some Tryz.t93) (.nd (.some Tryz.t157) (.nd (.some Tryz.t285) (.lf) (.lf)) (.lf)) (.nd (.some Tryz.t221) (.nd (.some Tryz.t349) (.lf) (.lf)) (.lf))) (.nd (.some Tryz.t125) (.nd (.some Tryz.t189) (.nd (.some Tryz.t317) (.lf)
  (.lf)) (.lf)) (.nd (.some Tryz.t253) (.lf) (.lf)))))))) (.nd (.some Tryz.t2) (.nd (.some Tryz.t4) (.nd (.some Tryz.t8) (.nd (.some Tryz.t16) (.nd (.some Tryz.t32) (.nd (.some Tryz.t64) (.nd (.some Tryz.t128) (.nd (.some Tryz.t256)
  (.lf) (.lf)) (.lf)) (.nd (.some Tryz.t192) (.nd (.some Tryz.t320) (.lf) (.lf)) (.lf))) (.nd (.some Tryz.t96) (.nd (.some Tryz.t160) (.nd (.some Tryz.t288) (.lf) (.lf)) (.lf)) (.nd (.some Tryz.t224) (.lf) (.lf)))) (.nd (.some
  Tryz.t48) (.nd (.some Tryz.t80) (.nd (.some Tryz.t144) (.nd (.some Tryz.t272) (.lf) (.lf)) (.lf)) (.nd (.some Tryz.t208) (.nd (.some Tryz.t336) (.lf) (.lf)) (.lf))) (.nd (.some Tryz.t112) (.nd (.some Tryz.t176) (.nd (.some
  Tryz.t304) (.lf) (.lf)) (.lf)) (.nd (.some Tryz.t240) (.lf) (.lf))))) (.nd (.some Tryz.t24) (.nd (.some Tryz.t40) (.nd (.some Tryz.t72) (.nd (.some Tryz.t136) (.nd (.some Tryz.t264) (.lf) (.lf)) (.lf)) (.nd (.some Tryz.t200) (.nd
  (.some Tryz.t328) (.lf) (.lf)) (.lf))) (.nd (.some Tryz.t104) (.nd (.some Tryz.t168) (.nd (.some Tryz.t296) (.lf) (.lf)) (.lf)) (.nd (.some Tryz.t232) (.lf) (.lf)))) (.nd (.some Tryz.t56) (.nd (.some Tryz.t88) (.nd (.some
  Tryz.t152) (.nd (.some Tryz.t280) (.lf) (.lf)) (.lf)) (.nd (.some Tryz.t216) (.nd (.some Tryz.t344) (.lf) (.lf)) (.lf))) (.nd (.some Tryz.t120) (.nd (.some Tryz.t184) (.nd (.some Tryz.t312) (.lf) (.lf)) (.lf)) (.nd (.some
  Tryz.t248) (.lf) (.lf)))))) (.nd (.some Tryz.t12) (.nd (.some Tryz.t20) (.nd (.some Tryz.t36) (.nd (.some Tryz.t68) (.nd (.some Tryz.t132) (.nd (.some Tryz.t260) (.lf) (.lf)) (.lf)) (.nd (.some Tryz.t196) (.nd (.some Tryz.t324)
  (.lf) (.lf)) (.lf))) (.nd (.some Tryz.t100) (.nd (.some Tryz.t164) (.nd (.some Tryz.t292) (.lf) (.lf)) (.lf)) (.nd (.some Tryz.t228) (.lf) (.lf)))) (.nd (.some Tryz.t52) (.nd (.some Tryz.t84) (.nd (.some Tryz.t148) (.nd (.some
  Tryz.t276) (.lf) (.lf)) (.lf)) (.nd (.some Tryz.t212) (.nd (.some Tryz.t340) (.lf) (.lf)) (.lf))) (.nd (.some Tryz.t116) (.nd (.some Tryz.t180) (.nd (.some Tryz.t308) (.lf) (.lf)) (.lf)) (.nd (.some Tryz.t244) (.lf) (.lf)))))
  (.nd (.some Tryz.t28) (.nd (.some Tryz.t44) (.nd (.some Tryz.t76) (.nd (.some Tryz.t140) (.nd (.some Tryz.t268) (.lf) (.lf)) (.lf)) (.nd (.some Tryz.t204) (.nd (.some Tryz.t332) (.lf) (.lf)) (.lf))) (.nd (.some Tryz.t108) (.nd
  (.some Tryz.t172) (.nd (.some Tryz.t300) (.lf) (.lf)) (.lf)) (.nd (.some Tryz.t236) (.lf) (.lf)))) (.nd (.some Tryz.t60) (.nd (.some Tryz.t92) (.nd (.some Tryz.t156) (.nd (.some Tryz.t284) (.lf) (.lf)) (.lf)) (.nd (.some
  Tryz.t220) (.nd (.some Tryz.t348) (.lf) (.lf)) (.lf))) (.nd (.some Tryz.t124) (.nd (.some Tryz.t188) (.nd (.some Tryz.t316) (.lf) (.lf)) (.lf)) (.nd (.some Tryz.t252) (.lf) (.lf))))))) (.nd (.some Tryz.t6) (.nd (.some Tryz.t10)
  (.nd (.some Tryz.t18) (.nd (.some Tryz.t34) (.nd (.some Tryz.t66) (.nd (.some Tryz.t130) (.nd (.some Tryz.t258) (.lf) (.lf)) (.lf)) (.nd (.some Tryz.t194) (.nd (.some Tryz.t322) (.lf) (.lf)) (.lf))) (.nd (.some Tryz.t98) (.nd
  (.some Tryz.t162) (.nd (.some Tryz.t290) (.lf) (.lf)) (.lf)) (.nd (.some Tryz.t226) (.lf) (.lf)))) (.nd (.some Tryz.t50) (.nd (.some Tryz.t82) (.nd (.some Tryz.t146) (.nd (.some Tryz.t274) (.lf) (.lf)) (.lf)) (.nd (.some
  Tryz.t210) (.nd (.some Tryz.t338) (.lf) (.lf)) (.lf))) (.nd (.some Tryz.t114) (.nd (.some Tryz.t178) (.nd (.some Tryz.t306) (.lf) (.lf)) (.lf)) (.nd (.some Tryz.t242) (.lf) (.lf))))) (.nd (.some Tryz.t26) (.nd (.some Tryz.t42)
  (.nd (.some Tryz.t74) (.nd (.some Tryz.t138) (.nd (.some Tryz.t266) (.lf) (.lf)) (.lf)) (.nd (.some Tryz.t202) (.nd (.some Tryz.t330) (.lf) (.lf)) (.lf))) (.nd (.some Tryz.t106) (.nd (.some Tryz.t170) (.nd (.some Tryz.t298) (.lf)
  (.lf)) (.lf)) (.nd (.some Tryz.t234) (.lf) (.lf)))) (.nd (.some Tryz.t58) (.nd (.some Tryz.t90) (.nd (.some Tryz.t154) (.nd (.some Tryz.t282) (.lf) (.lf)) (.lf)) (.nd (.some Tryz.t218) (.nd (.some Tryz.t346) (.lf) (.lf)) (.lf)))
  (.nd (.some Tryz.t122) (.nd (.some Tryz.t186) (.nd (.some Tryz.t314) (.lf) (.lf)) (.lf)) (.nd (.some Tryz.t250) (.lf) (.lf)))))) (.nd (.some Tryz.t14) (.nd (.some Tryz.t22) (.nd (.some Tryz.t38) (.nd (.some Tryz.t70) (.nd (.some
  Tryz.t134) (.nd (.some Tryz.t262) (.lf) (.lf)) (.lf)) (.nd (.some Tryz.t198) (.nd (.some Tryz.t326) (.lf) (.lf)) (.lf))) (.nd (.some Tryz.t102) (.nd (.some Tryz.t166) (.nd (.some Tryz.t294) (.lf) (.lf)) (.lf)) (.nd (.some
  Tryz.t230) (.lf) (.lf)))) (.nd (.some Tryz.t54) (.nd (.some Tryz.t86) (.nd (.some Tryz.t150) (.nd (.some Tryz.t278) (.lf) (.lf)) (.lf)) (.nd (.some Tryz.t214) (.nd (.some Tryz.t342) (.lf) (.lf)) (.lf))) (.nd (.some Tryz.t118)
  (.nd (.some Tryz.t182) (.nd (.some Tryz.t310) (.lf) (.lf)) (.lf)) (.nd (.some Tryz.t246) (.lf) (.lf))))) (.nd (.some Tryz.t30) (.nd (.some Tryz.t46) (.nd (.some Tryz.t78) (.nd (.some Tryz.t142) (.nd (.some Tryz.t270) (.lf) (.lf))
  (.lf)) (.nd (.some Tryz.t206) (.nd (.some Tryz.t334) (.lf) (.lf)) (.lf))) (.nd (.some Tryz.t110) (.nd (.some Tryz.t174) (.nd (.some Tryz.t302) (.lf) (.lf)) (.lf)) (.nd (.some Tryz.t238) (.lf) (.lf)))) (.nd (.some Tryz.t62) (.nd
  (.some Tryz.t94) (.nd (.some Tryz.t158) (.nd (.some Tryz.t286) (.lf) (.lf)) (.lf)) (.nd (.some Tryz.t222) (.nd (.some Tryz.t350) (.lf) (.lf)) (.lf))) (.nd (.some Tryz.t126) (.nd (.some Tryz.t190) (.nd (.some Tryz.t318) (.lf)
  (.lf)) (.lf)) (.nd (.some Tryz.t254) (.lf) (.lf))))))))
def es : List Nat := [7, 8, 27, 28, 36, 37, 40, 41, 53, 54, 57, 58, 59, 60, 72, 73, 75, 76, 78, 79, 81, 82, 83, 84, 103, 104, 111, 112, 123, 124, 140, 141, 147, 148, 157, 158, 176, 177, 178, 179, 184, 185, 216, 217, 218, 219, 232, 233, 251, 252, 256, 257, 261, 262, 272, 273, 277, 278, 287, 288, 331, 332]
theorem fs_eq : fs = Tr.fill Tryz.prog.funcs.toList 0 .lf := by kernel_rfl
theorem ts_eq : ts = Tr.fill Tryz.prog.types.toList 0 .lf := by kernel_rfl
theorem es_ok : (es.all fun t => !Tryz.prog.stoodInHeld t && !Tryz.prog.eqGuardType Tryz.prog.depth t) = true := by kernel_rfl
theorem mixed : Tryz.prog.follows .mixedOrders = true := by kernel_rfl
theorem own : ownKnob Tryz.prog.godebug = none := by kernel_rfl
theorem names_ok : (Tryz.prog.funcs.toList.all fun x => !(x.name == "runtime.NumGoroutine")) = true := by kernel_rfl
theorem name_of {ps : List (Nat × PrimT)} (f : Nat) (x : Func) (h : (tabOf fs ts es ps).fn f = some x) : (x.name == "runtime.NumGoroutine") = false := by
  have h := (tabOf_ok fs_eq ts_eq es_ok).fn f x h
  have hx : x ∈ Tryz.prog.funcs.toList := by
    rw [Array.mem_toList_iff]
    exact Array.mem_of_getElem? h
  have := List.all_eq_true.1 names_ok x hx
  simpa using this
theorem tab_ok (ps : List (Nat × PrimT)) : (tabOf fs ts es ps).Ok Tryz.prog := tabOf_ok fs_eq ts_eq es_ok
def base : List (Nat × PrimT) := [(223, passId), (266, passIbs)]
theorem base_ok (w0 : World) : ∀ x ∈ base, PrimSim Tryz.prog w0 x.1 x.2 := by
  intro x hx
  simp only [base, List.mem_cons, List.not_mem_nil, or_false] at hx
  rcases hx with rfl | rfl
  · exact passId_sim (fn := Tryz.f223) (by kernel_rfl) (by kernel_rfl) (by kernel_rfl) (by kernel_rfl) (by kernel_rfl)
  · exact passIbs_sim (fn := Tryz.f266) (by kernel_rfl) (by kernel_rfl) (by kernel_rfl) (by kernel_rfl) (by kernel_rfl)
/-- 'bonsai/bonsailaw24.known' is true. -/
theorem known8_true (O : Addr → Option Value) : isTrue (evalCallF (tabOf fs ts es base) O 100000 60 8 [] .empty) = true := by kernel_rfl
theorem known8 (w : World) : Holds Tryz.prog 8 [] w :=
  holds_of (tab_ok _) mixed name_of (primOk_of (base_ok w)) (fn := Tryz.f8) (by kernel_rfl) (by kernel_rfl) (by kernel_rfl) rfl (by rw [← evalCallF_eq]; exact known8_true _)
def ps : List (Nat × PrimT) := (8, pass0 (.bool true)) :: base
theorem ps_ok (w0 : World) : ∀ x ∈ ps, PrimSim Tryz.prog w0 x.1 x.2 := by
  intro x hx
  simp only [ps, List.mem_cons] at hx
  rcases hx with rfl | hx
  · exact pass0_sim (fn := Tryz.f8) (by kernel_rfl) (by kernel_rfl) (by kernel_rfl) known8
  · exact base_ok w0 x hx
theorem law_of {f lf k : Nat} {fn : Func} {l : List Value} {w : World} (hf : fs.get f = some fn) (hb : fn.body.isNone = false) (hp : primAt ps f = none) (hl : l.all closedC = true) (h : isTrue (evalCallF (tabOf fs ts es ps) w.cell? lf k f l .empty) = true) : Holds Tryz.prog f l w :=
  holds_of (tab_ok _) mixed name_of (primOk_of (ps_ok w)) hf hb hp hl (by rw [← evalCallF_eq]; exact h)
theorem law_rel {f lf k : Nat} {fn : Func} {l l' : List Value} {w : World} (hf : fs.get f = some fn) (hb : fn.body.isNone = false) (hl : All2 (V Ren.none) l l') (h : isTrue (evalCallF (tabOf fs ts es ps) w.cell? lf k f l .empty) = true) : Holds Tryz.prog f l' w :=
  holds_rel (tab_ok _) mixed name_of (primOk_of (ps_ok w)) hf hb hl (by rw [← evalCallF_eq]; exact h)
end Go.Proofs.YtihkhhekjkadpaaGreat
