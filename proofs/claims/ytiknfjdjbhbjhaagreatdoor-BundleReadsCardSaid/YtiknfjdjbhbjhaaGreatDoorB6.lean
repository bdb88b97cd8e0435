/-
  Part 6 of the proof: library, walks and plain laws.
-/
import Derived.Test.YtiknfjdjbhbjhaaGreatDoorProg
import Derived.KernelRfl
import Derived.Test.YtiknfjdjbhbjhaaGreatDoorB5
set_option linter.unusedVariables false
namespace Go.Sep
open Go.Proofs
noncomputable def tiOf (i d : TypeInfo) : TI:=⟨d.desc,i.size,i.bytes,match i.zero with | some z=>z | none=>undef⟩
def GoodTI (P : Program) (t : TypeId) (i : TI) : Prop := ∃ info,P.info? t=some info∧P.underlying t=some i.u∧info.size=i.size∧info.bytes=i.bytes∧info.zero=some i.zero
theorem goodTI {P : Program} {t : TypeId} {i d : TypeInfo} (h1 : P.info? t=some i) (h2 : P.underlying t=some d.desc) (h3 : i.zero.isSome=true) : GoodTI P t (tiOf i d):=by
 refine ⟨i,h1,h2,rfl,rfl, ?_⟩
 cases hz : i.zero with
 | none=>rw [hz] at h3;cases h3
 | some z=>simp [tiOf,hz]
inductive TT where
 | nil
 | node (l : TT) (k : Nat) (i : TI) (r : TT)
def getT : TT→Nat→Option TI
 | .nil,_=>none
 | .node l k i r,t=>bif Nat.beq t k then some i else bif Nat.blt t k then getT l t else getT r t
def AllT (P : Program) : TT→Prop
 | .nil=>True
 | .node l k i r=>AllT P l∧GoodTI P k i∧AllT P r
theorem getT_ok {P : Program} : ∀ {l : TT},AllT P l → ∀ t i,getT l t=some i→GoodTI P t i
 | .nil,_,t,i,h=>by cases h
 | .node l k x r,hl,t,i,h=>by
  simp only [getT] at h
  cases hb : Nat.beq t k with
  | true =>
   have : t=k:=Nat.eq_of_beq_eq_true hb
   subst this
   simp only [hb,cond_true,Option.some.injEq] at h
   subst h
   exact hl.2.1
  | false =>
   simp only [hb,cond_false] at h
   cases hc : Nat.blt t k with
   | true=>simp only [hc,cond_true] at h;exact getT_ok hl.1 t i h
   | false=>simp only [hc,cond_false] at h;exact getT_ok hl.2.2 t i h
noncomputable abbrev nl0 (a : TypeInfo) (k : Nat) : TT := .node .nil k (tiOf a a) .nil
noncomputable abbrev nn0 (l : TT) (a : TypeInfo) (k : Nat) (r : TT) : TT := .node l k (tiOf a a) r
noncomputable abbrev nd0 (l : TT) (a b : TypeInfo) (k : Nat) (r : TT) : TT := .node l k (tiOf a b) r
theorem gq0 {P : Program} {t : TypeId} {i d : TypeInfo} (h1 : P.info? t=some i:=by kernel_rfl) (h2 : P.underlying t=some d.desc:=by kernel_rfl) (h3 : i.zero.isSome=true:=by kernel_rfl) : GoodTI P t (tiOf i d):=goodTI h1 h2 h3
theorem gl0 {P : Program} {t : TypeId} {i : TypeInfo} (h : GoodTI P t (tiOf i i):=by exact gq0) : AllT P (nl0 i t):=⟨trivial,h,trivial⟩
section
open Tryz
noncomputable def tbl : TT:=(nn0 (nn0 (nn0 (nn0 (nn0 (nn0 (nn0 (nn0 (nn0 (nl0 t1 1) t2 2 TT.nil) t3 3 (nl0 t4 4)) t5 5 (nn0 (nl0 t7 7) t9 9 (nl0 t12 12))) t13 13 (nn0 (nn0 (nl0 t15 15) t16 16 (nl0 t17 17)) t18 18 (nn0 (nl0 t20 20) t21 21 (nl0 t22 22)))) t23 23 (nn0 (nn0 (nn0 (nn0 (nd0 TT.nil t24 t3 24 TT.nil) t25 25 TT.nil) t26 26 (nl0 t27 27)) t28 28 (nn0 (nl0 t29 29) t30 30 (nl0 t31 31))) t32 32 (nn0 (nn0 (nl0 t33 33) t34 34 (nd0 TT.nil t35 t34 35 TT.nil)) t36 36 (nn0 (nl0 t37 37) t38 38 (nl0 t39 39))))) t40 40 (nn0 (nn0 (nn0 (nn0 (nn0 (nl0 t41 41) t42 42 TT.nil) t43 43 (nl0 t44 44)) t45 45 (nn0 (nl0 t46 46) t47 47 (nl0 t48 48))) t49 49 (nn0 (nn0 (nd0 TT.nil t50 t49 50 TT.nil) t51 51 (nl0 t52 52)) t53 53 (nn0 (nl0 t54 54) t55 55 (nl0 t56 56)))) t57 57 (nn0 (nn0 (nd0 (nl0 t58 58) t59 t58 59 (nl0 t60 60)) t61 61 (nn0 (nd0 TT.nil t62 t61 62 TT.nil) t63 63 (nl0 t64 64))) t65 65 (nn0 (nd0 (nl0 t66 66) t67 t66 67 (nl0 t68 68)) t69 69 (nn0 (nl0 t70 70) t71 71 (nl0 t72 72)))))) t73 73 (nn0 (nn0 (nn0 (nn0 (nn0 (nd0 (nl0 t74 74) t75 t74 75 TT.nil) t76 76 (nl0 t77 77)) t78 78 (nn0 (nl0 t79 79) t80 80 (nd0 TT.nil t81 t80 81 TT.nil))) t82 82 (nn0 (nn0 (nl0 t83 83) t84 84 (nl0 t85 85)) t86 86 (nn0 (nl0 t87 87) t88 88 (nl0 t89 89)))) t90 90 (nn0 (nn0 (nn0 (nd0 (nl0 t91 91) t92 t91 92 TT.nil) t93 93 (nl0 t94 94)) t95 95 (nn0 (nl0 t96 96) t97 97 (nl0 t98 98))) t99 99 (nn0 (nn0 (nl0 t100 100) t101 101 (nl0 t102 102)) t103 103 (nn0 (nl0 t104 104) t105 105 (nl0 t106 106))))) t107 107 (nd0 (nn0 (nn0 (nn0 (nd0 (nl0 t108 108) t109 t108 109 TT.nil) t110 110 (nd0 TT.nil t111 t110 111 TT.nil)) t112 112 (nn0 (nl0 t113 113) t114 114 (nl0 t115 115))) t116 116 (nn0 (nn0 (nl0 t117 117) t118 118 (nd0 TT.nil t119 t118 119 TT.nil)) t120 120 (nn0 (nl0 t121 121) t122 122 (nl0 t123 123)))) t124 t123 124 (nn0 (nn0 (nn0 (nl0 t125 125) t126 126 (nd0 TT.nil t127 t126 127 TT.nil)) t128 128 (nn0 (nl0 t129 129) t130 130 (nl0 t131 131))) t132 132 (nn0 (nd0 (nl0 t133 133) t134 t95 134 (nl0 t135 135)) t136 136 (nn0 (nl0 t137 137) t138 138 (nl0 t139 139))))))) t140 140 (nn0 (nn0 (nn0 (nn0 (nn0 (nn0 (nn0 (nl0 t141 141) t142 142 TT.nil) t143 143 (nl0 t144 144)) t145 145 (nd0 (nl0 t146 146) t147 t146 147 (nl0 t148 148))) t149 149 (nn0 (nn0 (nl0 t150 150) t151 151 (nl0 t152 152)) t153 153 (nn0 (nl0 t154 154) t155 155 (nl0 t156 156)))) t157 157 (nn0 (nn0 (nn0 (nd0 (nl0 t158 158) t159 t3 159 TT.nil) t160 160 (nl0 t161 161)) t162 162 (nn0 (nl0 t163 163) t164 164 (nl0 t165 165))) t166 166 (nn0 (nn0 (nl0 t167 167) t168 168 (nl0 t169 169)) t170 170 (nn0 (nl0 t171 171) t172 172 (nl0 t173 173))))) t174 174 (nn0 (nn0 (nn0 (nn0 (nn0 (nl0 t175 175) t176 176 TT.nil) t177 177 (nl0 t178 178)) t179 179 (nn0 (nl0 t180 180) t181 181 (nd0 TT.nil t182 t3 182 TT.nil))) t183 183 (nn0 (nn0 (nl0 t184 184) t185 185 (nl0 t186 186)) t187 187 (nn0 (nl0 t188 188) t189 189 (nl0 t190 190)))) t191 191 (nn0 (nn0 (nn0 (nl0 t192 192) t193 193 (nl0 t194 194)) t195 195 (nn0 (nl0 t196 196) t197 197 (nl0 t198 198))) t199 199 (nn0 (nn0 (nl0 t200 200) t201 201 (nl0 t202 202)) t203 203 (nn0 (nl0 t204 204) t205 205 (nd0 TT.nil t206 t205 206 TT.nil)))))) t207 207 (nn0 (nn0 (nd0 (nn0 (nn0 (nn0 (nl0 t208 208) t209 209 TT.nil) t210 210 (nd0 TT.nil t211 t210 211 TT.nil)) t212 212 (nn0 (nl0 t213 213) t214 214 (nl0 t215 215))) t216 t215 216 (nn0 (nn0 (nl0 t217 217) t218 218 (nl0 t219 219)) t220 220 (nn0 (nl0 t221 221) t222 222 (nl0 t223 223)))) t224 224 (nd0 (nn0 (nn0 (nn0 (nl0 t225 225) t226 226 TT.nil) t227 227 (nd0 TT.nil t228 t227 228 TT.nil)) t229 229 (nn0 (nl0 t230 230) t231 231 (nl0 t232 232))) t233 t116 233 (nn0 (nn0 (nl0 t234 234) t235 235 (nl0 t236 236)) t237 237 (nn0 (nl0 t238 238) t239 239 (nl0 t240 240))))) t241 241 (nn0 (nn0 (nd0 (nn0 (nn0 (nl0 t242 242) t243 243 TT.nil) t244 244 (nl0 t245 245)) t246 t97 246 (nn0 (nl0 t247 247) t248 248 (nl0 t249 249))) t250 250 (nn0 (nn0 (nl0 t251 251) t252 252 (nl0 t253 253)) t254 254 (nn0 (nl0 t255 255) t256 256 (nl0 t257 257)))) t258 258 (nn0 (nd0 (nn0 (nl0 t259 259) t260 260 (nl0 t261 261)) t262 t261 262 (nn0 (nl0 t263 263) t264 264 (nl0 t265 265))) t266 266 (nn0 (nd0 (nl0 t267 267) t268 t267 268 (nl0 t269 269)) t270 270 (nd0 (nl0 t271 271) t272 t271 272 (nl0 t273 273)))))))) t274 274 (nn0 (nn0 (nn0 (nn0 (nn0 (nn0 (nd0 (nn0 (nl0 t275 275) t276 276 TT.nil) t277 t276 277 (nl0 t278 278)) t279 279 (nn0 (nl0 t280 280) t281 281 (nl0 t282 282))) t283 283 (nn0 (nn0 (nd0 TT.nil t284 t283 284 TT.nil) t285 285 (nl0 t286 286)) t287 287 (nn0 (nl0 t288 288) t289 289 (nl0 t290 290)))) t291 291 (nn0 (nn0 (nn0 (nn0 (nd0 TT.nil t292 t291 292 TT.nil) t293 293 TT.nil) t294 294 (nl0 t295 295)) t296 296 (nn0 (nl0 t297 297) t298 298 (nl0 t299 299))) t300 300 (nn0 (nn0 (nl0 t301 301) t302 302 (nl0 t303 303)) t304 304 (nn0 (nd0 TT.nil t305 t304 305 TT.nil) t306 306 (nl0 t307 307))))) t308 308 (nd0 (nd0 (nn0 (nn0 (nd0 (nl0 t309 309) t310 t309 310 TT.nil) t311 311 (nl0 t312 312)) t313 313 (nd0 (nl0 t314 314) t315 t314 315 (nl0 t316 316))) t317 t316 317 (nd0 (nn0 (nl0 t318 318) t319 319 (nl0 t320 320)) t321 t320 321 (nn0 (nl0 t322 322) t323 323 (nl0 t324 324)))) t325 t324 325 (nn0 (nd0 (nn0 (nl0 t326 326) t327 327 (nl0 t328 328)) t329 t328 329 (nn0 (nl0 t330 330) t331 331 (nl0 t332 332))) t333 333 (nn0 (nn0 (nl0 t334 334) t335 335 (nl0 t336 336)) t337 337 (nd0 (nd0 TT.nil t338 t337 338 TT.nil) t339 t316 339 (nl0 t340 340)))))) t341 341 (nn0 (nn0 (nn0 (nn0 (nn0 (nn0 (nl0 t342 342) t343 343 TT.nil) t344 344 (nd0 TT.nil t345 t344 345 TT.nil)) t346 346 (nn0 (nd0 TT.nil t347 t346 347 TT.nil) t348 348 (nl0 t349 349))) t350 350 (nd0 (nn0 (nl0 t351 351) t352 352 (nl0 t353 353)) t354 t353 354 (nn0 (nl0 t355 355) t356 356 (nl0 t357 357)))) t358 358 (nn0 (nd0 (nn0 (nn0 (nl0 t359 359) t360 360 TT.nil) t361 361 (nl0 t362 362)) t363 t316 363 (nn0 (nl0 t364 364) t365 365 (nl0 t366 366))) t367 367 (nn0 (nn0 (nd0 TT.nil t368 t367 368 TT.nil) t369 369 (nl0 t370 370)) t371 371 (nn0 (nl0 t372 372) t373 373 (nd0 TT.nil t374 t373 374 TT.nil))))) t375 375 (nn0 (nn0 (nd0 (nn0 (nn0 (nl0 t376 376) t377 377 TT.nil) t378 378 (nl0 t379 379)) t380 t379 380 (nn0 (nl0 t381 381) t382 382 (nl0 t383 383))) t384 384 (nn0 (nn0 (nl0 t385 385) t386 386 (nd0 TT.nil t387 t386 387 TT.nil)) t388 388 (nn0 (nl0 t389 389) t390 390 (nl0 t391 391)))) t392 392 (nn0 (nn0 (nd0 (nl0 t393 393) t394 t393 394 (nl0 t395 395)) t396 396 (nn0 (nd0 TT.nil t397 t396 397 TT.nil) t398 398 (nl0 t399 399))) t400 400 (nn0 (nn0 (nl0 t401 401) t402 402 (nl0 t403 403)) t404 404 (nn0 (nl0 t405 405) t406 406 (nl0 t407 407))))))) t408 408 (nn0 (nn0 (nn0 (nn0 (nn0 (nn0 (nn0 (nl0 t409 409) t410 410 TT.nil) t411 411 (nl0 t412 412)) t413 413 (nn0 (nl0 t414 414) t415 415 (nd0 TT.nil t416 t415 416 TT.nil))) t417 417 (nn0 (nn0 (nl0 t418 418) t419 419 (nl0 t420 420)) t421 421 (nn0 (nd0 TT.nil t422 t421 422 TT.nil) t423 423 (nl0 t424 424)))) t425 425 (nn0 (nn0 (nn0 (nn0 (nl0 t426 426) t427 427 TT.nil) t428 428 (nd0 TT.nil t429 t428 429 TT.nil)) t430 430 (nn0 (nl0 t431 431) t432 432 (nl0 t433 433))) t434 434 (nn0 (nd0 (nl0 t435 435) t436 t435 436 (nl0 t437 437)) t438 438 (nn0 (nl0 t439 439) t440 440 (nl0 t441 441))))) t442 442 (nn0 (nn0 (nn0 (nn0 (nn0 (nl0 t443 443) t444 444 TT.nil) t445 445 (nl0 t446 446)) t447 447 (nn0 (nl0 t448 448) t449 449 (nl0 t450 450))) t451 451 (nn0 (nn0 (nl0 t452 452) t453 453 (nl0 t454 454)) t455 455 (nn0 (nl0 t456 456) t457 457 (nd0 TT.nil t458 t457 458 TT.nil)))) t459 459 (nn0 (nn0 (nn0 (nl0 t460 460) t461 461 (nl0 t462 462)) t463 463 (nn0 (nl0 t464 464) t465 465 (nl0 t466 466))) t467 467 (nn0 (nd0 (nl0 t468 468) t469 t468 469 (nl0 t470 470)) t471 471 (nn0 (nl0 t472 472) t473 473 (nl0 t474 474)))))) t475 475 (nn0 (nn0 (nn0 (nn0 (nn0 (nn0 (nl0 t476 476) t477 477 TT.nil) t478 478 (nl0 t479 479)) t480 480 (nn0 (nl0 t481 481) t482 482 (nl0 t483 483))) t484 484 (nn0 (nn0 (nl0 t485 485) t486 486 (nl0 t487 487)) t488 488 (nn0 (nd0 TT.nil t489 t488 489 TT.nil) t490 490 (nl0 t491 491)))) t492 492 (nn0 (nn0 (nn0 (nn0 (nl0 t493 493) t494 494 TT.nil) t495 495 (nl0 t496 496)) t497 497 (nn0 (nl0 t498 498) t499 499 (nl0 t500 500))) t501 501 (nn0 (nn0 (nl0 t502 502) t503 503 (nl0 t504 504)) t505 505 (nn0 (nl0 t506 506) t507 507 (nl0 t508 508))))) t509 509 (nn0 (nn0 (nn0 (nn0 (nn0 (nl0 t510 510) t511 511 TT.nil) t512 512 (nl0 t513 513)) t514 514 (nn0 (nl0 t515 515) t516 516 (nl0 t517 517))) t518 518 (nn0 (nn0 (nl0 t519 519) t520 520 (nl0 t521 521)) t522 522 (nn0 (nl0 t523 523) t524 524 (nl0 t525 525)))) t526 526 (nn0 (nn0 (nn0 (nl0 t527 527) t528 528 (nl0 t529 529)) t530 530 (nn0 (nl0 t531 531) t532 532 (nl0 t533 533))) t534 534 (nn0 (nn0 (nl0 t535 535) t536 536 (nl0 t537 537)) t539 539 (nn0 (nl0 t540 540) t544 544 (nl0 t547 547)))))))))
end
theorem tbl_ok : AllT Tryz.prog tbl:=⟨⟨⟨⟨⟨⟨⟨⟨⟨gl0,gq0,trivial⟩,gq0,gl0⟩,gq0,⟨gl0,gq0,gl0⟩⟩,gq0,⟨⟨gl0,gq0,gl0⟩,gq0,⟨gl0,gq0,gl0⟩⟩⟩,gq0,⟨⟨⟨⟨⟨trivial,gq0,trivial⟩,gq0,trivial⟩,gq0,gl0⟩,gq0,⟨gl0,gq0,gl0⟩⟩,gq0,⟨⟨gl0,gq0,⟨trivial,gq0,trivial⟩⟩,gq0,⟨gl0,gq0,gl0⟩⟩⟩⟩,gq0,⟨⟨⟨⟨⟨gl0,gq0,trivial⟩,gq0,gl0⟩,gq0,⟨gl0,gq0,gl0⟩⟩,gq0,⟨⟨⟨trivial,gq0,trivial⟩,gq0,gl0⟩,gq0,⟨gl0,gq0,gl0⟩⟩⟩,gq0,⟨⟨⟨gl0,gq0,gl0⟩,gq0,⟨⟨trivial,gq0,trivial⟩,gq0,gl0⟩⟩,gq0,⟨⟨gl0,gq0,gl0⟩,gq0,⟨gl0,gq0,gl0⟩⟩⟩⟩⟩,gq0,⟨⟨⟨⟨⟨⟨gl0,gq0,trivial⟩,gq0,gl0⟩,gq0,⟨gl0,gq0,⟨trivial,gq0,trivial⟩⟩⟩,gq0,⟨⟨gl0,gq0,gl0⟩,gq0,⟨gl0,gq0,gl0⟩⟩⟩,gq0,⟨⟨⟨⟨gl0,gq0,trivial⟩,gq0,gl0⟩,gq0,⟨gl0,gq0,gl0⟩⟩,gq0,⟨⟨gl0,gq0,gl0⟩,gq0,⟨gl0,gq0,gl0⟩⟩⟩⟩,gq0,⟨⟨⟨⟨⟨gl0,gq0,trivial⟩,gq0,⟨trivial,gq0,trivial⟩⟩,gq0,⟨gl0,gq0,gl0⟩⟩,gq0,⟨⟨gl0,gq0,⟨trivial,gq0,trivial⟩⟩,gq0,⟨gl0,gq0,gl0⟩⟩⟩,gq0,⟨⟨⟨gl0,gq0,⟨trivial,gq0,trivial⟩⟩,gq0,⟨gl0,gq0,gl0⟩⟩,gq0,⟨⟨gl0,gq0,gl0⟩,gq0,⟨gl0,gq0,gl0⟩⟩⟩⟩⟩⟩,gq0,⟨⟨⟨⟨⟨⟨⟨gl0,gq0,trivial⟩,gq0,gl0⟩,gq0,⟨gl0,gq0,gl0⟩⟩,gq0,⟨⟨gl0,gq0,gl0⟩,gq0,⟨gl0,gq0,gl0⟩⟩⟩,gq0,⟨⟨⟨⟨gl0,gq0,trivial⟩,gq0,gl0⟩,gq0,⟨gl0,gq0,gl0⟩⟩,gq0,⟨⟨gl0,gq0,gl0⟩,gq0,⟨gl0,gq0,gl0⟩⟩⟩⟩,gq0,⟨⟨⟨⟨⟨gl0,gq0,trivial⟩,gq0,gl0⟩,gq0,⟨gl0,gq0,⟨trivial,gq0,trivial⟩⟩⟩,gq0,⟨⟨gl0,gq0,gl0⟩,gq0,⟨gl0,gq0,gl0⟩⟩⟩,gq0,⟨⟨⟨gl0,gq0,gl0⟩,gq0,⟨gl0,gq0,gl0⟩⟩,gq0,⟨⟨gl0,gq0,gl0⟩,gq0,⟨gl0,gq0,⟨trivial,gq0,trivial⟩⟩⟩⟩⟩⟩,gq0,⟨⟨⟨⟨⟨⟨gl0,gq0,trivial⟩,gq0,⟨trivial,gq0,trivial⟩⟩,gq0,⟨gl0,gq0,gl0⟩⟩,gq0,⟨⟨gl0,gq0,gl0⟩,gq0,⟨gl0,gq0,gl0⟩⟩⟩,gq0,⟨⟨⟨⟨gl0,gq0,trivial⟩,gq0,⟨trivial,gq0,trivial⟩⟩,gq0,⟨gl0,gq0,gl0⟩⟩,gq0,⟨⟨gl0,gq0,gl0⟩,gq0,⟨gl0,gq0,gl0⟩⟩⟩⟩,gq0,⟨⟨⟨⟨⟨gl0,gq0,trivial⟩,gq0,gl0⟩,gq0,⟨gl0,gq0,gl0⟩⟩,gq0,⟨⟨gl0,gq0,gl0⟩,gq0,⟨gl0,gq0,gl0⟩⟩⟩,gq0,⟨⟨⟨gl0,gq0,gl0⟩,gq0,⟨gl0,gq0,gl0⟩⟩,gq0,⟨⟨gl0,gq0,gl0⟩,gq0,⟨gl0,gq0,gl0⟩⟩⟩⟩⟩⟩⟩,gq0,⟨⟨⟨⟨⟨⟨⟨⟨gl0,gq0,trivial⟩,gq0,gl0⟩,gq0,⟨gl0,gq0,gl0⟩⟩,gq0,⟨⟨⟨trivial,gq0,trivial⟩,gq0,gl0⟩,gq0,⟨gl0,gq0,gl0⟩⟩⟩,gq0,⟨⟨⟨⟨⟨trivial,gq0,trivial⟩,gq0,trivial⟩,gq0,gl0⟩,gq0,⟨gl0,gq0,gl0⟩⟩,gq0,⟨⟨gl0,gq0,gl0⟩,gq0,⟨⟨trivial,gq0,trivial⟩,gq0,gl0⟩⟩⟩⟩,gq0,⟨⟨⟨⟨⟨gl0,gq0,trivial⟩,gq0,gl0⟩,gq0,⟨gl0,gq0,gl0⟩⟩,gq0,⟨⟨gl0,gq0,gl0⟩,gq0,⟨gl0,gq0,gl0⟩⟩⟩,gq0,⟨⟨⟨gl0,gq0,gl0⟩,gq0,⟨gl0,gq0,gl0⟩⟩,gq0,⟨⟨gl0,gq0,gl0⟩,gq0,⟨⟨trivial,gq0,trivial⟩,gq0,gl0⟩⟩⟩⟩⟩,gq0,⟨⟨⟨⟨⟨⟨gl0,gq0,trivial⟩,gq0,⟨trivial,gq0,trivial⟩⟩,gq0,⟨⟨trivial,gq0,trivial⟩,gq0,gl0⟩⟩,gq0,⟨⟨gl0,gq0,gl0⟩,gq0,⟨gl0,gq0,gl0⟩⟩⟩,gq0,⟨⟨⟨⟨gl0,gq0,trivial⟩,gq0,gl0⟩,gq0,⟨gl0,gq0,gl0⟩⟩,gq0,⟨⟨⟨trivial,gq0,trivial⟩,gq0,gl0⟩,gq0,⟨gl0,gq0,⟨trivial,gq0,trivial⟩⟩⟩⟩⟩,gq0,⟨⟨⟨⟨⟨gl0,gq0,trivial⟩,gq0,gl0⟩,gq0,⟨gl0,gq0,gl0⟩⟩,gq0,⟨⟨gl0,gq0,⟨trivial,gq0,trivial⟩⟩,gq0,⟨gl0,gq0,gl0⟩⟩⟩,gq0,⟨⟨⟨gl0,gq0,gl0⟩,gq0,⟨⟨trivial,gq0,trivial⟩,gq0,gl0⟩⟩,gq0,⟨⟨gl0,gq0,gl0⟩,gq0,⟨gl0,gq0,gl0⟩⟩⟩⟩⟩⟩,gq0,⟨⟨⟨⟨⟨⟨⟨gl0,gq0,trivial⟩,gq0,gl0⟩,gq0,⟨gl0,gq0,⟨trivial,gq0,trivial⟩⟩⟩,gq0,⟨⟨gl0,gq0,gl0⟩,gq0,⟨⟨trivial,gq0,trivial⟩,gq0,gl0⟩⟩⟩,gq0,⟨⟨⟨⟨gl0,gq0,trivial⟩,gq0,⟨trivial,gq0,trivial⟩⟩,gq0,⟨gl0,gq0,gl0⟩⟩,gq0,⟨⟨gl0,gq0,gl0⟩,gq0,⟨gl0,gq0,gl0⟩⟩⟩⟩,gq0,⟨⟨⟨⟨⟨gl0,gq0,trivial⟩,gq0,gl0⟩,gq0,⟨gl0,gq0,gl0⟩⟩,gq0,⟨⟨gl0,gq0,gl0⟩,gq0,⟨gl0,gq0,⟨trivial,gq0,trivial⟩⟩⟩⟩,gq0,⟨⟨⟨gl0,gq0,gl0⟩,gq0,⟨gl0,gq0,gl0⟩⟩,gq0,⟨⟨gl0,gq0,gl0⟩,gq0,⟨gl0,gq0,gl0⟩⟩⟩⟩⟩,gq0,⟨⟨⟨⟨⟨⟨gl0,gq0,trivial⟩,gq0,gl0⟩,gq0,⟨gl0,gq0,gl0⟩⟩,gq0,⟨⟨gl0,gq0,gl0⟩,gq0,⟨⟨trivial,gq0,trivial⟩,gq0,gl0⟩⟩⟩,gq0,⟨⟨⟨⟨gl0,gq0,trivial⟩,gq0,gl0⟩,gq0,⟨gl0,gq0,gl0⟩⟩,gq0,⟨⟨gl0,gq0,gl0⟩,gq0,⟨gl0,gq0,gl0⟩⟩⟩⟩,gq0,⟨⟨⟨⟨⟨gl0,gq0,trivial⟩,gq0,gl0⟩,gq0,⟨gl0,gq0,gl0⟩⟩,gq0,⟨⟨gl0,gq0,gl0⟩,gq0,⟨gl0,gq0,gl0⟩⟩⟩,gq0,⟨⟨⟨gl0,gq0,gl0⟩,gq0,⟨gl0,gq0,gl0⟩⟩,gq0,⟨⟨gl0,gq0,gl0⟩,gq0,⟨gl0,gq0,gl0⟩⟩⟩⟩⟩⟩⟩⟩
def fieldsIn (P : Program) (d : TypeDesc) : Bool:=match d with | .struct fs=>fs.toList.all fun f=>(P.info? f.type).isSome | _=>true
def AllF (P : Program) : TT→Bool
 | .nil=>true
 | .node l _ i r=>AllF P l && (fieldsIn P i.u && AllF P r)
theorem getT_mem : ∀ {l : TT} {P : Program},AllF P l=true → ∀ t i,getT l t=some i→fieldsIn P i.u=true
 | .nil,_,_,t,i,h=>by cases h
 | .node l k x r,P,hl,t,i,h=>by
  simp only [AllF,Bool.and_eq_true] at hl
  simp only [getT] at h
  cases hb : Nat.beq t k with
  | true=>simp only [hb,cond_true,Option.some.injEq] at h;subst h;exact hl.2.1
  | false =>
   simp only [hb,cond_false] at h
   cases hc : Nat.blt t k with
   | true=>simp only [hc,cond_true] at h;exact getT_mem hl.1 t i h
   | false=>simp only [hc,cond_false] at h;exact getT_mem hl.2.2 t i h
theorem fields_ok {P : Program} {d : TypeDesc} (h : fieldsIn P d=true) : ∀ fs,d = .struct fs → ∀ f ∈ fs.toList, ∃ j,P.info? f.type=some j:=by
 intro fs hd f hf
 subst hd
 have:=List.all_eq_true.1 h f hf
 exact Option.isSome_iff_exists.1 this
noncomputable def tab : Tab Tryz.prog:=⟨getT tbl,getT_ok tbl_ok,fun t i h=>fields_ok (getT_mem (by kernel_rfl) t i h)⟩
theorem mixed : Tryz.prog.follows .mixedOrders=true:=by kernel_rfl
theorem goes9 : Goes Tryz.prog 9:=Goes.mk' Tryz.func9 (by kernel_rfl) (by kernel_rfl)
theorem goes10 : Goes Tryz.prog 10:=Goes.mk' Tryz.func10 (by kernel_rfl) (by kernel_rfl)
theorem goes11 : Goes Tryz.prog 11:=Goes.mk' Tryz.func11 (by kernel_rfl) (by kernel_rfl)
theorem goes12 : Goes Tryz.prog 12:=Goes.mk' Tryz.func12 (by kernel_rfl) (by kernel_rfl)
theorem goes13 : Goes Tryz.prog 13:=Goes.mk' Tryz.func13 (by kernel_rfl) (by kernel_rfl)
theorem goes14 : Goes Tryz.prog 14:=Goes.mk' Tryz.func14 (by kernel_rfl) (by kernel_rfl)
theorem goes15 : Goes Tryz.prog 15:=Goes.mk' Tryz.func15 (by kernel_rfl) (by kernel_rfl)
theorem goes16 : Goes Tryz.prog 16:=Goes.mk' Tryz.func16 (by kernel_rfl) (by kernel_rfl)
theorem goes17 : Goes Tryz.prog 17:=Goes.mk' Tryz.func17 (by kernel_rfl) (by kernel_rfl)
theorem goes18 : Goes Tryz.prog 18:=Goes.mk' Tryz.func18 (by kernel_rfl) (by kernel_rfl)
theorem goes19 : Goes Tryz.prog 19:=Goes.mk' Tryz.func19 (by kernel_rfl) (by kernel_rfl)
theorem goes20 : Goes Tryz.prog 20:=Goes.mk' Tryz.func20 (by kernel_rfl) (by kernel_rfl)
theorem goes23 : Goes Tryz.prog 23:=Goes.mk' Tryz.func23 (by kernel_rfl) (by kernel_rfl)
theorem goes24 : Goes Tryz.prog 24:=Goes.mk' Tryz.func24 (by kernel_rfl) (by kernel_rfl)
theorem goes25 : Goes Tryz.prog 25:=Goes.mk' Tryz.func25 (by kernel_rfl) (by kernel_rfl)
theorem goes26 : Goes Tryz.prog 26:=Goes.mk' Tryz.func26 (by kernel_rfl) (by kernel_rfl)
theorem goes27 : Goes Tryz.prog 27:=Goes.mk' Tryz.func27 (by kernel_rfl) (by kernel_rfl)
theorem goes28 : Goes Tryz.prog 28:=Goes.mk' Tryz.func28 (by kernel_rfl) (by kernel_rfl)
theorem goes29 : Goes Tryz.prog 29:=Goes.mk' Tryz.func29 (by kernel_rfl) (by kernel_rfl)
theorem goes30 : Goes Tryz.prog 30:=Goes.mk' Tryz.func30 (by kernel_rfl) (by kernel_rfl)
theorem goes31 : Goes Tryz.prog 31:=Goes.mk' Tryz.func31 (by kernel_rfl) (by kernel_rfl)
theorem goes32 : Goes Tryz.prog 32:=Goes.mk' Tryz.func32 (by kernel_rfl) (by kernel_rfl)
theorem goes33 : Goes Tryz.prog 33:=Goes.mk' Tryz.func33 (by kernel_rfl) (by kernel_rfl)
theorem goes34 : Goes Tryz.prog 34:=Goes.mk' Tryz.func34 (by kernel_rfl) (by kernel_rfl)
theorem goes38 : Goes Tryz.prog 38:=Goes.mk' Tryz.func38 (by kernel_rfl) (by kernel_rfl)
theorem goes39 : Goes Tryz.prog 39:=Goes.mk' Tryz.func39 (by kernel_rfl) (by kernel_rfl)
theorem goes40 : Goes Tryz.prog 40:=Goes.mk' Tryz.func40 (by kernel_rfl) (by kernel_rfl)
theorem goes41 : Goes Tryz.prog 41:=Goes.mk' Tryz.func41 (by kernel_rfl) (by kernel_rfl)
theorem goes42 : Goes Tryz.prog 42:=Goes.mk' Tryz.func42 (by kernel_rfl) (by kernel_rfl)
theorem goes43 : Goes Tryz.prog 43:=Goes.mk' Tryz.func43 (by kernel_rfl) (by kernel_rfl)
theorem goes44 : Goes Tryz.prog 44:=Goes.mk' Tryz.func44 (by kernel_rfl) (by kernel_rfl)
theorem goes45 : Goes Tryz.prog 45:=Goes.mk' Tryz.func45 (by kernel_rfl) (by kernel_rfl)
theorem goes46 : Goes Tryz.prog 46:=Goes.mk' Tryz.func46 (by kernel_rfl) (by kernel_rfl)
theorem goes47 : Goes Tryz.prog 47:=Goes.mk' Tryz.func47 (by kernel_rfl) (by kernel_rfl)
theorem goes48 : Goes Tryz.prog 48:=Goes.mk' Tryz.func48 (by kernel_rfl) (by kernel_rfl)
theorem goes49 : Goes Tryz.prog 49:=Goes.mk' Tryz.func49 (by kernel_rfl) (by kernel_rfl)
theorem goes50 : Goes Tryz.prog 50:=Goes.mk' Tryz.func50 (by kernel_rfl) (by kernel_rfl)
theorem goes51 : Goes Tryz.prog 51:=Goes.mk' Tryz.func51 (by kernel_rfl) (by kernel_rfl)
theorem goes52 : Goes Tryz.prog 52:=Goes.mk' Tryz.func52 (by kernel_rfl) (by kernel_rfl)
theorem goes53 : Goes Tryz.prog 53:=Goes.mk' Tryz.func53 (by kernel_rfl) (by kernel_rfl)
theorem goes54 : Goes Tryz.prog 54:=Goes.mk' Tryz.func54 (by kernel_rfl) (by kernel_rfl)
theorem goes55 : Goes Tryz.prog 55:=Goes.mk' Tryz.func55 (by kernel_rfl) (by kernel_rfl)
theorem goes56 : Goes Tryz.prog 56:=Goes.mk' Tryz.func56 (by kernel_rfl) (by kernel_rfl)
theorem goes57 : Goes Tryz.prog 57:=Goes.mk' Tryz.func57 (by kernel_rfl) (by kernel_rfl)
theorem goes60 : Goes Tryz.prog 60:=Goes.mk' Tryz.func60 (by kernel_rfl) (by kernel_rfl)
theorem goes61 : Goes Tryz.prog 61:=Goes.mk' Tryz.func61 (by kernel_rfl) (by kernel_rfl)
theorem goes62 : Goes Tryz.prog 62:=Goes.mk' Tryz.func62 (by kernel_rfl) (by kernel_rfl)
theorem goes63 : Goes Tryz.prog 63:=Goes.mk' Tryz.func63 (by kernel_rfl) (by kernel_rfl)
theorem goes64 : Goes Tryz.prog 64:=Goes.mk' Tryz.func64 (by kernel_rfl) (by kernel_rfl)
theorem goes74 : Goes Tryz.prog 74:=Goes.mk' Tryz.func74 (by kernel_rfl) (by kernel_rfl)
theorem goes75 : Goes Tryz.prog 75:=Goes.mk' Tryz.func75 (by kernel_rfl) (by kernel_rfl)
theorem goes76 : Goes Tryz.prog 76:=Goes.mk' Tryz.func76 (by kernel_rfl) (by kernel_rfl)
theorem goes77 : Goes Tryz.prog 77:=Goes.mk' Tryz.func77 (by kernel_rfl) (by kernel_rfl)
theorem goes78 : Goes Tryz.prog 78:=Goes.mk' Tryz.func78 (by kernel_rfl) (by kernel_rfl)
theorem goes79 : Goes Tryz.prog 79:=Goes.mk' Tryz.func79 (by kernel_rfl) (by kernel_rfl)
theorem goes80 : Goes Tryz.prog 80:=Goes.mk' Tryz.func80 (by kernel_rfl) (by kernel_rfl)
theorem goes81 : Goes Tryz.prog 81:=Goes.mk' Tryz.func81 (by kernel_rfl) (by kernel_rfl)
theorem goes82 : Goes Tryz.prog 82:=Goes.mk' Tryz.func82 (by kernel_rfl) (by kernel_rfl)
theorem goes83 : Goes Tryz.prog 83:=Goes.mk' Tryz.func83 (by kernel_rfl) (by kernel_rfl)
theorem goes84 : Goes Tryz.prog 84:=Goes.mk' Tryz.func84 (by kernel_rfl) (by kernel_rfl)
theorem goes85 : Goes Tryz.prog 85:=Goes.mk' Tryz.func85 (by kernel_rfl) (by kernel_rfl)
theorem goes86 : Goes Tryz.prog 86:=Goes.mk' Tryz.func86 (by kernel_rfl) (by kernel_rfl)
theorem goes87 : Goes Tryz.prog 87:=Goes.mk' Tryz.func87 (by kernel_rfl) (by kernel_rfl)
theorem goes88 : Goes Tryz.prog 88:=Goes.mk' Tryz.func88 (by kernel_rfl) (by kernel_rfl)
theorem goes89 : Goes Tryz.prog 89:=Goes.mk' Tryz.func89 (by kernel_rfl) (by kernel_rfl)
theorem goes90 : Goes Tryz.prog 90:=Goes.mk' Tryz.func90 (by kernel_rfl) (by kernel_rfl)
theorem goes93 : Goes Tryz.prog 93:=Goes.mk' Tryz.func93 (by kernel_rfl) (by kernel_rfl)
theorem goes94 : Goes Tryz.prog 94:=Goes.mk' Tryz.func94 (by kernel_rfl) (by kernel_rfl)
theorem goes96 : Goes Tryz.prog 96:=Goes.mk' Tryz.func96 (by kernel_rfl) (by kernel_rfl)
theorem goes100 : Goes Tryz.prog 100:=Goes.mk' Tryz.func100 (by kernel_rfl) (by kernel_rfl)
theorem goes101 : Goes Tryz.prog 101:=Goes.mk' Tryz.func101 (by kernel_rfl) (by kernel_rfl)
theorem goes105 : Goes Tryz.prog 105:=Goes.mk' Tryz.func105 (by kernel_rfl) (by kernel_rfl)
theorem goes106 : Goes Tryz.prog 106:=Goes.mk' Tryz.func106 (by kernel_rfl) (by kernel_rfl)
theorem goes107 : Goes Tryz.prog 107:=Goes.mk' Tryz.func107 (by kernel_rfl) (by kernel_rfl)
theorem goes108 : Goes Tryz.prog 108:=Goes.mk' Tryz.func108 (by kernel_rfl) (by kernel_rfl)
theorem goes109 : Goes Tryz.prog 109:=Goes.mk' Tryz.func109 (by kernel_rfl) (by kernel_rfl)
theorem goes110 : Goes Tryz.prog 110:=Goes.mk' Tryz.func110 (by kernel_rfl) (by kernel_rfl)
theorem goes133 : Goes Tryz.prog 133:=Goes.mk' Tryz.func133 (by kernel_rfl) (by kernel_rfl)
theorem goes134 : Goes Tryz.prog 134:=Goes.mk' Tryz.func134 (by kernel_rfl) (by kernel_rfl)
theorem goes135 : Goes Tryz.prog 135:=Goes.mk' Tryz.func135 (by kernel_rfl) (by kernel_rfl)
theorem goes136 : Goes Tryz.prog 136:=Goes.mk' Tryz.func136 (by kernel_rfl) (by kernel_rfl)
theorem goes137 : Goes Tryz.prog 137:=Goes.mk' Tryz.func137 (by kernel_rfl) (by kernel_rfl)
theorem goes138 : Goes Tryz.prog 138:=Goes.mk' Tryz.func138 (by kernel_rfl) (by kernel_rfl)
theorem goes139 : Goes Tryz.prog 139:=Goes.mk' Tryz.func139 (by kernel_rfl) (by kernel_rfl)
theorem goes140 : Goes Tryz.prog 140:=Goes.mk' Tryz.func140 (by kernel_rfl) (by kernel_rfl)
theorem goes141 : Goes Tryz.prog 141:=Goes.mk' Tryz.func141 (by kernel_rfl) (by kernel_rfl)
theorem goes142 : Goes Tryz.prog 142:=Goes.mk' Tryz.func142 (by kernel_rfl) (by kernel_rfl)
theorem goes144 : Goes Tryz.prog 144:=Goes.mk' Tryz.func144 (by kernel_rfl) (by kernel_rfl)
theorem goes146 : Goes Tryz.prog 146:=Goes.mk' Tryz.func146 (by kernel_rfl) (by kernel_rfl)
theorem goes150 : Goes Tryz.prog 150:=Goes.mk' Tryz.func150 (by kernel_rfl) (by kernel_rfl)
theorem goes151 : Goes Tryz.prog 151:=Goes.mk' Tryz.func151 (by kernel_rfl) (by kernel_rfl)
theorem goes152 : Goes Tryz.prog 152:=Goes.mk' Tryz.func152 (by kernel_rfl) (by kernel_rfl)
theorem goes153 : Goes Tryz.prog 153:=Goes.mk' Tryz.func153 (by kernel_rfl) (by kernel_rfl)
theorem goes154 : Goes Tryz.prog 154:=Goes.mk' Tryz.func154 (by kernel_rfl) (by kernel_rfl)
theorem goes155 : Goes Tryz.prog 155:=Goes.mk' Tryz.func155 (by kernel_rfl) (by kernel_rfl)
theorem goes156 : Goes Tryz.prog 156:=Goes.mk' Tryz.func156 (by kernel_rfl) (by kernel_rfl)
theorem goes157 : Goes Tryz.prog 157:=Goes.mk' Tryz.func157 (by kernel_rfl) (by kernel_rfl)
theorem goes158 : Goes Tryz.prog 158:=Goes.mk' Tryz.func158 (by kernel_rfl) (by kernel_rfl)
theorem goes159 : Goes Tryz.prog 159:=Goes.mk' Tryz.func159 (by kernel_rfl) (by kernel_rfl)
theorem goes160 : Goes Tryz.prog 160:=Goes.mk' Tryz.func160 (by kernel_rfl) (by kernel_rfl)
theorem goes161 : Goes Tryz.prog 161:=Goes.mk' Tryz.func161 (by kernel_rfl) (by kernel_rfl)
theorem goes162 : Goes Tryz.prog 162:=Goes.mk' Tryz.func162 (by kernel_rfl) (by kernel_rfl)
theorem goes163 : Goes Tryz.prog 163:=Goes.mk' Tryz.func163 (by kernel_rfl) (by kernel_rfl)
theorem goes167 : Goes Tryz.prog 167:=Goes.mk' Tryz.func167 (by kernel_rfl) (by kernel_rfl)
theorem goes168 : Goes Tryz.prog 168:=Goes.mk' Tryz.func168 (by kernel_rfl) (by kernel_rfl)
theorem goes170 : Goes Tryz.prog 170:=Goes.mk' Tryz.func170 (by kernel_rfl) (by kernel_rfl)
theorem goes171 : Goes Tryz.prog 171:=Goes.mk' Tryz.func171 (by kernel_rfl) (by kernel_rfl)
theorem goes172 : Goes Tryz.prog 172:=Goes.mk' Tryz.func172 (by kernel_rfl) (by kernel_rfl)
theorem goes174 : Goes Tryz.prog 174:=Goes.mk' Tryz.func174 (by kernel_rfl) (by kernel_rfl)
theorem goes175 : Goes Tryz.prog 175:=Goes.mk' Tryz.func175 (by kernel_rfl) (by kernel_rfl)
theorem goes177 : Goes Tryz.prog 177:=Goes.mk' Tryz.func177 (by kernel_rfl) (by kernel_rfl)
theorem goes178 : Goes Tryz.prog 178:=Goes.mk' Tryz.func178 (by kernel_rfl) (by kernel_rfl)
theorem goes179 : Goes Tryz.prog 179:=Goes.mk' Tryz.func179 (by kernel_rfl) (by kernel_rfl)
theorem goes180 : Goes Tryz.prog 180:=Goes.mk' Tryz.func180 (by kernel_rfl) (by kernel_rfl)
theorem goes181 : Goes Tryz.prog 181:=Goes.mk' Tryz.func181 (by kernel_rfl) (by kernel_rfl)
theorem goes182 : Goes Tryz.prog 182:=Goes.mk' Tryz.func182 (by kernel_rfl) (by kernel_rfl)
theorem goes183 : Goes Tryz.prog 183:=Goes.mk' Tryz.func183 (by kernel_rfl) (by kernel_rfl)
theorem goes185 : Goes Tryz.prog 185:=Goes.mk' Tryz.func185 (by kernel_rfl) (by kernel_rfl)
theorem goes186 : Goes Tryz.prog 186:=Goes.mk' Tryz.func186 (by kernel_rfl) (by kernel_rfl)
theorem goes188 : Goes Tryz.prog 188:=Goes.mk' Tryz.func188 (by kernel_rfl) (by kernel_rfl)
theorem goes189 : Goes Tryz.prog 189:=Goes.mk' Tryz.func189 (by kernel_rfl) (by kernel_rfl)
theorem goes208 : Goes Tryz.prog 208:=Goes.mk' Tryz.func208 (by kernel_rfl) (by kernel_rfl)
theorem goes209 : Goes Tryz.prog 209:=Goes.mk' Tryz.func209 (by kernel_rfl) (by kernel_rfl)
theorem goes210 : Goes Tryz.prog 210:=Goes.mk' Tryz.func210 (by kernel_rfl) (by kernel_rfl)
theorem goes211 : Goes Tryz.prog 211:=Goes.mk' Tryz.func211 (by kernel_rfl) (by kernel_rfl)
theorem goes212 : Goes Tryz.prog 212:=Goes.mk' Tryz.func212 (by kernel_rfl) (by kernel_rfl)
theorem goes217 : Goes Tryz.prog 217:=Goes.mk' Tryz.func217 (by kernel_rfl) (by kernel_rfl)
theorem goes218 : Goes Tryz.prog 218:=Goes.mk' Tryz.func218 (by kernel_rfl) (by kernel_rfl)
theorem goes219 : Goes Tryz.prog 219:=Goes.mk' Tryz.func219 (by kernel_rfl) (by kernel_rfl)
theorem goes220 : Goes Tryz.prog 220:=Goes.mk' Tryz.func220 (by kernel_rfl) (by kernel_rfl)
theorem goes221 : Goes Tryz.prog 221:=Goes.mk' Tryz.func221 (by kernel_rfl) (by kernel_rfl)
theorem goes222 : Goes Tryz.prog 222:=Goes.mk' Tryz.func222 (by kernel_rfl) (by kernel_rfl)
theorem goes223 : Goes Tryz.prog 223:=Goes.mk' Tryz.func223 (by kernel_rfl) (by kernel_rfl)
theorem goes224 : Goes Tryz.prog 224:=Goes.mk' Tryz.func224 (by kernel_rfl) (by kernel_rfl)
theorem goes225 : Goes Tryz.prog 225:=Goes.mk' Tryz.func225 (by kernel_rfl) (by kernel_rfl)
theorem goes226 : Goes Tryz.prog 226:=Goes.mk' Tryz.func226 (by kernel_rfl) (by kernel_rfl)
theorem goes227 : Goes Tryz.prog 227:=Goes.mk' Tryz.func227 (by kernel_rfl) (by kernel_rfl)
theorem goes228 : Goes Tryz.prog 228:=Goes.mk' Tryz.func228 (by kernel_rfl) (by kernel_rfl)
theorem goes249 : Goes Tryz.prog 249:=Goes.mk' Tryz.func249 (by kernel_rfl) (by kernel_rfl)
theorem goes251 : Goes Tryz.prog 251:=Goes.mk' Tryz.func251 (by kernel_rfl) (by kernel_rfl)
theorem goes252 : Goes Tryz.prog 252:=Goes.mk' Tryz.func252 (by kernel_rfl) (by kernel_rfl)
theorem goes253 : Goes Tryz.prog 253:=Goes.mk' Tryz.func253 (by kernel_rfl) (by kernel_rfl)
theorem goes255 : Goes Tryz.prog 255:=Goes.mk' Tryz.func255 (by kernel_rfl) (by kernel_rfl)
theorem goes257 : Goes Tryz.prog 257:=Goes.mk' Tryz.func257 (by kernel_rfl) (by kernel_rfl)
theorem goes258 : Goes Tryz.prog 258:=Goes.mk' Tryz.func258 (by kernel_rfl) (by kernel_rfl)
theorem goes259 : Goes Tryz.prog 259:=Goes.mk' Tryz.func259 (by kernel_rfl) (by kernel_rfl)
theorem goes260 : Goes Tryz.prog 260:=Goes.mk' Tryz.func260 (by kernel_rfl) (by kernel_rfl)
theorem goes261 : Goes Tryz.prog 261:=Goes.mk' Tryz.func261 (by kernel_rfl) (by kernel_rfl)
theorem goes267 : Goes Tryz.prog 267:=Goes.mk' Tryz.func267 (by kernel_rfl) (by kernel_rfl)
theorem goes269 : Goes Tryz.prog 269:=Goes.mk' Tryz.func269 (by kernel_rfl) (by kernel_rfl)
theorem goes272 : Goes Tryz.prog 272:=Goes.mk' Tryz.func272 (by kernel_rfl) (by kernel_rfl)
theorem goes273 : Goes Tryz.prog 273:=Goes.mk' Tryz.func273 (by kernel_rfl) (by kernel_rfl)
theorem goes275 : Goes Tryz.prog 275:=Goes.mk' Tryz.func275 (by kernel_rfl) (by kernel_rfl)
theorem goes276 : Goes Tryz.prog 276:=Goes.mk' Tryz.func276 (by kernel_rfl) (by kernel_rfl)
theorem goes277 : Goes Tryz.prog 277:=Goes.mk' Tryz.func277 (by kernel_rfl) (by kernel_rfl)
theorem goes278 : Goes Tryz.prog 278:=Goes.mk' Tryz.func278 (by kernel_rfl) (by kernel_rfl)
theorem goes280 : Goes Tryz.prog 280:=Goes.mk' Tryz.func280 (by kernel_rfl) (by kernel_rfl)
theorem goes290 : Goes Tryz.prog 290:=Goes.mk' Tryz.func290 (by kernel_rfl) (by kernel_rfl)
theorem goes293 : Goes Tryz.prog 293:=Goes.mk' Tryz.func293 (by kernel_rfl) (by kernel_rfl)
theorem goes294 : Goes Tryz.prog 294:=Goes.mk' Tryz.func294 (by kernel_rfl) (by kernel_rfl)
theorem goes295 : Goes Tryz.prog 295:=Goes.mk' Tryz.func295 (by kernel_rfl) (by kernel_rfl)
theorem goes297 : Goes Tryz.prog 297:=Goes.mk' Tryz.func297 (by kernel_rfl) (by kernel_rfl)
theorem goes298 : Goes Tryz.prog 298:=Goes.mk' Tryz.func298 (by kernel_rfl) (by kernel_rfl)
theorem goes299 : Goes Tryz.prog 299:=Goes.mk' Tryz.func299 (by kernel_rfl) (by kernel_rfl)
theorem goes300 : Goes Tryz.prog 300:=Goes.mk' Tryz.func300 (by kernel_rfl) (by kernel_rfl)
theorem goes301 : Goes Tryz.prog 301:=Goes.mk' Tryz.func301 (by kernel_rfl) (by kernel_rfl)
theorem goes302 : Goes Tryz.prog 302:=Goes.mk' Tryz.func302 (by kernel_rfl) (by kernel_rfl)
theorem goes303 : Goes Tryz.prog 303:=Goes.mk' Tryz.func303 (by kernel_rfl) (by kernel_rfl)
theorem goes304 : Goes Tryz.prog 304:=Goes.mk' Tryz.func304 (by kernel_rfl) (by kernel_rfl)
theorem goes305 : Goes Tryz.prog 305:=Goes.mk' Tryz.func305 (by kernel_rfl) (by kernel_rfl)
theorem goes306 : Goes Tryz.prog 306:=Goes.mk' Tryz.func306 (by kernel_rfl) (by kernel_rfl)
theorem goes307 : Goes Tryz.prog 307:=Goes.mk' Tryz.func307 (by kernel_rfl) (by kernel_rfl)
theorem goes308 : Goes Tryz.prog 308:=Goes.mk' Tryz.func308 (by kernel_rfl) (by kernel_rfl)
theorem goes309 : Goes Tryz.prog 309:=Goes.mk' Tryz.func309 (by kernel_rfl) (by kernel_rfl)
theorem goes310 : Goes Tryz.prog 310:=Goes.mk' Tryz.func310 (by kernel_rfl) (by kernel_rfl)
theorem goes311 : Goes Tryz.prog 311:=Goes.mk' Tryz.func311 (by kernel_rfl) (by kernel_rfl)
theorem goes312 : Goes Tryz.prog 312:=Goes.mk' Tryz.func312 (by kernel_rfl) (by kernel_rfl)
theorem goes313 : Goes Tryz.prog 313:=Goes.mk' Tryz.func313 (by kernel_rfl) (by kernel_rfl)
theorem goes314 : Goes Tryz.prog 314:=Goes.mk' Tryz.func314 (by kernel_rfl) (by kernel_rfl)
theorem goes315 : Goes Tryz.prog 315:=Goes.mk' Tryz.func315 (by kernel_rfl) (by kernel_rfl)
theorem goes324 : Goes Tryz.prog 324:=Goes.mk' Tryz.func324 (by kernel_rfl) (by kernel_rfl)
theorem goes325 : Goes Tryz.prog 325:=Goes.mk' Tryz.func325 (by kernel_rfl) (by kernel_rfl)
theorem goes326 : Goes Tryz.prog 326:=Goes.mk' Tryz.func326 (by kernel_rfl) (by kernel_rfl)
theorem goes327 : Goes Tryz.prog 327:=Goes.mk' Tryz.func327 (by kernel_rfl) (by kernel_rfl)
theorem goes328 : Goes Tryz.prog 328:=Goes.mk' Tryz.func328 (by kernel_rfl) (by kernel_rfl)
theorem goes332 : Goes Tryz.prog 332:=Goes.mk' Tryz.func332 (by kernel_rfl) (by kernel_rfl)
theorem goes335 : Goes Tryz.prog 335:=Goes.mk' Tryz.func335 (by kernel_rfl) (by kernel_rfl)
theorem goes336 : Goes Tryz.prog 336:=Goes.mk' Tryz.func336 (by kernel_rfl) (by kernel_rfl)
theorem goes339 : Goes Tryz.prog 339:=Goes.mk' Tryz.func339 (by kernel_rfl) (by kernel_rfl)
theorem goes346 : Goes Tryz.prog 346:=Goes.mk' Tryz.func346 (by kernel_rfl) (by kernel_rfl)
theorem goes348 : Goes Tryz.prog 348:=Goes.mk' Tryz.func348 (by kernel_rfl) (by kernel_rfl)
theorem goes351 : Goes Tryz.prog 351:=Goes.mk' Tryz.func351 (by kernel_rfl) (by kernel_rfl)
theorem goes352 : Goes Tryz.prog 352:=Goes.mk' Tryz.func352 (by kernel_rfl) (by kernel_rfl)
theorem goes354 : Goes Tryz.prog 354:=Goes.mk' Tryz.func354 (by kernel_rfl) (by kernel_rfl)
theorem goes355 : Goes Tryz.prog 355:=Goes.mk' Tryz.func355 (by kernel_rfl) (by kernel_rfl)
theorem goes359 : Goes Tryz.prog 359:=Goes.mk' Tryz.func359 (by kernel_rfl) (by kernel_rfl)
theorem goes363 : Goes Tryz.prog 363:=Goes.mk' Tryz.func363 (by kernel_rfl) (by kernel_rfl)
theorem goes367 : Goes Tryz.prog 367:=Goes.mk' Tryz.func367 (by kernel_rfl) (by kernel_rfl)
theorem goes369 : Goes Tryz.prog 369:=Goes.mk' Tryz.func369 (by kernel_rfl) (by kernel_rfl)
theorem goes370 : Goes Tryz.prog 370:=Goes.mk' Tryz.func370 (by kernel_rfl) (by kernel_rfl)
theorem goes371 : Goes Tryz.prog 371:=Goes.mk' Tryz.func371 (by kernel_rfl) (by kernel_rfl)
theorem goes372 : Goes Tryz.prog 372:=Goes.mk' Tryz.func372 (by kernel_rfl) (by kernel_rfl)
theorem goes374 : Goes Tryz.prog 374:=Goes.mk' Tryz.func374 (by kernel_rfl) (by kernel_rfl)
theorem goes383 : Goes Tryz.prog 383:=Goes.mk' Tryz.func383 (by kernel_rfl) (by kernel_rfl)
theorem goes385 : Goes Tryz.prog 385:=Goes.mk' Tryz.func385 (by kernel_rfl) (by kernel_rfl)
theorem goes386 : Goes Tryz.prog 386:=Goes.mk' Tryz.func386 (by kernel_rfl) (by kernel_rfl)
theorem goes387 : Goes Tryz.prog 387:=Goes.mk' Tryz.func387 (by kernel_rfl) (by kernel_rfl)
theorem goes389 : Goes Tryz.prog 389:=Goes.mk' Tryz.func389 (by kernel_rfl) (by kernel_rfl)
theorem goes393 : Goes Tryz.prog 393:=Goes.mk' Tryz.func393 (by kernel_rfl) (by kernel_rfl)
theorem goes394 : Goes Tryz.prog 394:=Goes.mk' Tryz.func394 (by kernel_rfl) (by kernel_rfl)
theorem goes396 : Goes Tryz.prog 396:=Goes.mk' Tryz.func396 (by kernel_rfl) (by kernel_rfl)
theorem goes405 : Goes Tryz.prog 405:=Goes.mk' Tryz.func405 (by kernel_rfl) (by kernel_rfl)
theorem goes410 : Goes Tryz.prog 410:=Goes.mk' Tryz.func410 (by kernel_rfl) (by kernel_rfl)
theorem goes412 : Goes Tryz.prog 412:=Goes.mk' Tryz.func412 (by kernel_rfl) (by kernel_rfl)
theorem goes415 : Goes Tryz.prog 415:=Goes.mk' Tryz.func415 (by kernel_rfl) (by kernel_rfl)
theorem goes416 : Goes Tryz.prog 416:=Goes.mk' Tryz.func416 (by kernel_rfl) (by kernel_rfl)
theorem goes418 : Goes Tryz.prog 418:=Goes.mk' Tryz.func418 (by kernel_rfl) (by kernel_rfl)
theorem goes422 : Goes Tryz.prog 422:=Goes.mk' Tryz.func422 (by kernel_rfl) (by kernel_rfl)
theorem goes424 : Goes Tryz.prog 424:=Goes.mk' Tryz.func424 (by kernel_rfl) (by kernel_rfl)
theorem goes427 : Goes Tryz.prog 427:=Goes.mk' Tryz.func427 (by kernel_rfl) (by kernel_rfl)
theorem goes428 : Goes Tryz.prog 428:=Goes.mk' Tryz.func428 (by kernel_rfl) (by kernel_rfl)
theorem goes452 : Goes Tryz.prog 452:=Goes.mk' Tryz.func452 (by kernel_rfl) (by kernel_rfl)
theorem goes453 : Goes Tryz.prog 453:=Goes.mk' Tryz.func453 (by kernel_rfl) (by kernel_rfl)
theorem goes455 : Goes Tryz.prog 455:=Goes.mk' Tryz.func455 (by kernel_rfl) (by kernel_rfl)
theorem goes458 : Goes Tryz.prog 458:=Goes.mk' Tryz.func458 (by kernel_rfl) (by kernel_rfl)
theorem goes459 : Goes Tryz.prog 459:=Goes.mk' Tryz.func459 (by kernel_rfl) (by kernel_rfl)
theorem goes460 : Goes Tryz.prog 460:=Goes.mk' Tryz.func460 (by kernel_rfl) (by kernel_rfl)
theorem goes461 : Goes Tryz.prog 461:=Goes.mk' Tryz.func461 (by kernel_rfl) (by kernel_rfl)
theorem goes464 : Goes Tryz.prog 464:=Goes.mk' Tryz.func464 (by kernel_rfl) (by kernel_rfl)
theorem goes483 : Goes Tryz.prog 483:=Goes.mk' Tryz.func483 (by kernel_rfl) (by kernel_rfl)
theorem goes486 : Goes Tryz.prog 486:=Goes.mk' Tryz.func486 (by kernel_rfl) (by kernel_rfl)
theorem goes487 : Goes Tryz.prog 487:=Goes.mk' Tryz.func487 (by kernel_rfl) (by kernel_rfl)
theorem goes492 : Goes Tryz.prog 492:=Goes.mk' Tryz.func492 (by kernel_rfl) (by kernel_rfl)
theorem goes493 : Goes Tryz.prog 493:=Goes.mk' Tryz.func493 (by kernel_rfl) (by kernel_rfl)
theorem goes494 : Goes Tryz.prog 494:=Goes.mk' Tryz.func494 (by kernel_rfl) (by kernel_rfl)
theorem goes497 : Goes Tryz.prog 497:=Goes.mk' Tryz.func497 (by kernel_rfl) (by kernel_rfl)
theorem goes508 : Goes Tryz.prog 508:=Goes.mk' Tryz.func508 (by kernel_rfl) (by kernel_rfl)
theorem goes534 : Goes Tryz.prog 534:=Goes.mk' Tryz.func534 (by kernel_rfl) (by kernel_rfl)
theorem goes544 : Goes Tryz.prog 544:=Goes.mk' Tryz.func544 (by kernel_rfl) (by kernel_rfl)
theorem goes556 : Goes Tryz.prog 556:=Goes.mk' Tryz.func556 (by kernel_rfl) (by kernel_rfl)
theorem goes627 : Goes Tryz.prog 627:=Goes.mk' Tryz.func627 (by kernel_rfl) (by kernel_rfl)
theorem goes679 : Goes Tryz.prog 679:=Goes.mk' Tryz.func679 (by kernel_rfl) (by kernel_rfl)
theorem goes680 : Goes Tryz.prog 680:=Goes.mk' Tryz.func680 (by kernel_rfl) (by kernel_rfl)
theorem goes683 : Goes Tryz.prog 683:=Goes.mk' Tryz.func683 (by kernel_rfl) (by kernel_rfl)
theorem goes684 : Goes Tryz.prog 684:=Goes.mk' Tryz.func684 (by kernel_rfl) (by kernel_rfl)
end Go.Sep
set_option linter.unusedVariables false
set_option linter.unusedSimpArgs false
namespace Go.Sep
open Go.Proofs
attribute [local irreducible] TC TO OT TCallX TCall DO DOt thenQ blockQ retQ At
def ltr (b : UInt8) : Bool:=decide (97 ≤ b.toNat∧b.toNat ≤ 122) || decide (65 ≤ b.toNat∧b.toNat ≤ 90) || decide (b.toNat=95)
def dgt (b : UInt8) : Bool:=decide (48 ≤ b.toNat∧b.toNat ≤ 57)
def lod (b : UInt8) : Bool:=ltr b || dgt b
theorem low_all : ∀ n : Fin 256,(97 ≤ n.val ||| 32∧n.val ||| 32 ≤ 122) ↔ ((97 ≤ n.val∧n.val ≤ 122) ∨ (65 ≤ n.val∧n.val ≤ 90)):=by decide +kernel
theorem low (b : UInt8) : (97 ≤ b.toNat ||| 32∧b.toNat ||| 32 ≤ 122) ↔ ((97 ≤ b.toNat∧b.toNat ≤ 122) ∨ (65 ≤ b.toNat∧b.toNat ≤ 90)):=low_all ⟨b.toNat,b.toNat_lt⟩
section
variable (m : Mem) (L : List Item) (b : UInt8)
set_option maxHeartbeats 400000 in
theorem letter_law : TCall Tryz.prog 75 ⟨[byteV b]⟩ m L (Ret (.bool (ltr b)) m L):=by
 unfold TCall
 refine TCallX.enter Tryz.func75 rfl 15 rfl ?_
 have hb : b.toNat < 256:=b.toNat_lt
 have hlow:=low b
 refine uA ?_
 refine TO.step rfl (OT.orU8 (b:=32) rfl rfl rfl rfl rfl hb (by decide) ?_)
 refine uA ?_
 (refine TO.splitP rfl rfl (fun h1 => ?_) (fun h1 => ?_))
 ·refine uA ?_
  refine TO.step rfl (OT.orU8 (b:=32) rfl rfl rfl rfl rfl hb (by decide) ?_)
  refine uA ?_
  (refine TO.splitP rfl rfl (fun h2 => ?_) (fun h2 => ?_))
  ·refine uA ?_
   refine retQ_ret rfl uS ⟨rfl,rfl, ?_⟩
   refine congrArg Value.bool ?_
   have : ltr b=true:=by
    have:=hlow.1 ⟨by omega,by omega⟩
    unfold ltr
    rcases this with h | h <;> simp [h]
   simp [this,h2]
  ·refine uA ?_
   refine retQ_ret rfl uS ⟨rfl,rfl, ?_⟩
   refine congrArg Value.bool ?_
   have h3 : ¬ (97 ≤ b.toNat∧b.toNat ≤ 122):=fun h=>by have:=hlow.2 (.inl h);omega
   have h4 : ¬ (65 ≤ b.toNat∧b.toNat ≤ 90):=fun h=>by have:=hlow.2 (.inr h);omega
   unfold ltr
   rw [decide_eq_false h3,decide_eq_false h4]
   simp only [Bool.false_or]
   congr 1
   apply propext
   omega
 ·refine uA ?_
  refine retQ_ret rfl uS ⟨rfl,rfl, ?_⟩
  refine congrArg Value.bool ?_
  have h3 : ¬ (97 ≤ b.toNat∧b.toNat ≤ 122):=fun h=>by have:=hlow.2 (.inl h);omega
  have h4 : ¬ (65 ≤ b.toNat∧b.toNat ≤ 90):=fun h=>by have:=hlow.2 (.inr h);omega
  unfold ltr
  rw [decide_eq_false h3,decide_eq_false h4]
  simp only [Bool.false_or]
  congr 1
  apply propext
  omega
set_option maxHeartbeats 400000 in
theorem digit_law : TCall Tryz.prog 78 ⟨[byteV b]⟩ m L (Ret (.bool (dgt b)) m L):=by
 unfold TCall
 refine TCallX.enter Tryz.func78 rfl 9 rfl ?_
 refine uA ?_
 (refine TO.splitP rfl rfl (fun h1 => ?_) (fun h1 => ?_))
 ·refine uA ?_
  refine retQ_ret rfl uS ⟨rfl,rfl, ?_⟩
  refine congrArg Value.bool ?_
  unfold dgt
  congr 1
  apply propext
  omega
 ·refine uA ?_
  refine retQ_ret rfl uS ⟨rfl,rfl, ?_⟩
  refine congrArg Value.bool ?_
  unfold dgt
  symm
  apply decide_eq_false
  omega
set_option maxHeartbeats 400000 in
theorem digit_ref : TCall Tryz.prog 49 ⟨[byteV b]⟩ m L (Ret (.bool (dgt b)) m L):=by
 unfold TCall
 refine TCallX.enter Tryz.func49 rfl 9 rfl ?_
 refine uA ?_
 (refine TO.splitP rfl rfl (fun h1 => ?_) (fun h1 => ?_))
 ·refine uA ?_
  refine retQ_ret rfl uS ⟨rfl,rfl, ?_⟩
  refine congrArg Value.bool ?_
  unfold dgt
  congr 1
  apply propext
  omega
 ·refine uA ?_
  refine retQ_ret rfl uS ⟨rfl,rfl, ?_⟩
  refine congrArg Value.bool ?_
  unfold dgt
  symm
  apply decide_eq_false
  omega
set_option maxHeartbeats 800000 in
theorem letter_ref : TCall Tryz.prog 51 ⟨[byteV b]⟩ m L (Ret (.bool (ltr b)) m L):=by
 unfold TCall
 refine TCallX.enter Tryz.func51 rfl 21 rfl ?_
 repeat' (first|(first|refine q1 ?_|refine q3 ?_|refine q4 tab rfl rfl ?_|refine q5 ?_|refine q6 ?_|refine q15 ?_)|(refine TO.splitP rfl rfl (fun hb => ?_) (fun hb => ?_)))
 all_goals
  refine retQ_ret rfl uS ⟨rfl,rfl, ?_⟩
  refine congrArg Value.bool ?_
  unfold ltr
  (rw [Bool.eq_iff_iff];simp only [Bool.or_eq_true,Bool.and_eq_true,decide_eq_true_eq,Bool.not_eq_true',decide_eq_false_iff_not,true_iff,iff_true,Bool.false_eq_true,false_iff,iff_false];omega)
end
def IsClass (m : Mem) (L : List Item) (fn : FuncId) (cap : List Value) (p : UInt8→Bool) : Prop:=Goes Tryz.prog fn ∧ ∀ b : UInt8,TCall Tryz.prog fn ⟨byteV b :: cap⟩ m L (Ret (.bool (p b)) m L)
set_option maxHeartbeats 400000 in
theorem either_cl (m : Mem) (L : List Item) (b : UInt8) (b1 b2 : Nat) (h1 : At m b1 0 [.func (.func 75) ⟨[]⟩ ⟨[]⟩]) (h2 : At m b2 0 [.func (.func 78) ⟨[]⟩ ⟨[]⟩]) :
  TCall Tryz.prog 133 ⟨[byteV b, .pointer (some ⟨b1,0,none⟩), .pointer (some ⟨b2,0,none⟩)]⟩ m L (Ret (.bool (lod b)) m L):=by
 unfold TCall
 refine TCallX.enter Tryz.func133 rfl 13 rfl ?_
 refine uA ?_
 (refine TO.step rfl (OT.loadA0 tab h1 rfl rfl rfl rfl rfl ?_))
 refine uA ?_
 refine TO.step rfl (OT.call rfl rfl rfl rfl rfl rfl goes75 ((letter_law m L b).x ?_));
 rintro _ _ _ ⟨rfl,rfl,rfl⟩
 refine uA ?_
 (refine TO.split rfl rfl (fun h3 => ?_) (fun h3 => ?_))
 ·refine uA ?_
  refine retQ_ret rfl uS ⟨rfl,rfl, ?_⟩
  unfold lod
  rw [h3];rfl
 ·refine uA ?_
  (refine TO.step rfl (OT.loadA0 tab h2 rfl rfl rfl rfl rfl ?_))
  refine uA ?_
  refine TO.step rfl (OT.call rfl rfl rfl rfl rfl rfl goes78 ((digit_law m L b).x ?_));
  rintro _ _ _ ⟨rfl,rfl,rfl⟩
  refine uA ?_
  refine retQ_ret rfl uS ⟨rfl,rfl, ?_⟩
  unfold lod
  rw [h3];rfl
set_option maxHeartbeats 400000 in
theorem either_law (m : Mem) (L : List Item) : TCall Tryz.prog 77 ⟨[.func (.func 75) ⟨[]⟩ ⟨[]⟩, .func (.func 78) ⟨[]⟩ ⟨[]⟩]⟩ m L
  (Made m L fun r m' => ∃ b1 b2,r = .func (.func 133) ⟨[]⟩ ⟨[.pointer (some ⟨b1,0,none⟩), .pointer (some ⟨b2,0,none⟩)]⟩ ∧ At m' b1 0 [.func (.func 75) ⟨[]⟩ ⟨[]⟩]∧At m' b2 0 [.func (.func 78) ⟨[]⟩ ⟨[]⟩]):=by
 unfold TCall
 refine TCallX.enter Tryz.func77 rfl 6 rfl ?_
 refine uB ?_
 refine TO.step rfl (OT.box rfl rfl rfl rfl rfl (fun b1 => ?_))
 refine uB ?_
 refine TO.step rfl (OT.box rfl rfl rfl rfl rfl (fun b2 => ?_))
 refine TO.freeze fun m1 hm1 hA1 => ?_
 refine TO.freeze fun m2 hm2 hA2 => ?_
 refine uA ?_
 refine retQ_ret rfl uS ⟨Mem.le_trans hm1 hm2,rfl,b1,b2,rfl,hA2,hA1.mono hm2⟩
def spanOf (p : UInt8→Bool) (s : Str) : Nat:=(s.takeWhile p).length
set_option maxHeartbeats 400000 in
theorem span_law (m : Mem) (L : List Item) (s : Str) (hs : s.length ≤ 140737488355328) (p : UInt8→Bool) (fn : FuncId) (cap : List Value) (hc : IsClass m L fn cap p) :
  TCall Tryz.prog 76 ⟨[strV s, .func (.func fn) ⟨[]⟩ ⟨cap⟩]⟩ m L (Ret (.int .i64 (spanOf p s)) m L):=by
 unfold TCall
 refine TCallX.enter Tryz.func76 rfl 20 rfl ?_
 refine uA ?_
 refine TC.loopK (ι:=Nat) [0,1] rfl (fun k=>[(5, .int .i64 (k : Int))]) (fun _=>m) (fun _=>L) (fun k=>k ≤ s.length∧spanOf p s=k + spanOf p (s.drop k)) (fun k=>s.length - k) 0 uH rfl uS ⟨Nat.zero_le _,by simp⟩ ?_
 rintro k ⟨hk,hI⟩
 refine uA ?_
 (refine TO.splitP rfl rfl (fun h1 => ?_) (fun h1 => ?_))
 ·refine uA ?_
  have hlt : k < s.length:=by omega
  have hx : s[k]? = some s[k]:=by simp [hlt]
  refine TO.step rfl (OT.sidx tab k rfl rfl rfl rfl rfl rfl rfl hx ?_)
  refine uA ?_
  refine TO.step rfl (OT.call (all:=byteV s[k] :: cap) rfl rfl rfl rfl rfl (by rw [fl_eq];rfl) hc.1 ((hc.2 s[k]).x ?_))
  rintro _ _ _ ⟨rfl,rfl,rfl⟩
  refine uA ?_
  refine TC.cond rfl (fun h2 => ?_) (fun h2 => ?_)
  ·refine uA ?_
   refine TO.step rfl (OT.arith (r':=((k + 1 : Nat) : Int)) rfl rfl rfl rfl rfl rfl rfl (by omega) ?_)
   refine uA ?_
   refine ⟨k + 1,uH,uH,rfl,rfl,uS,⟨by omega, ?_⟩,by omega⟩
   rw [hI,List.drop_eq_getElem_cons hlt,spanOf,spanOf,List.takeWhile_cons_of_pos h2]
   simp;omega
  ·refine uA ?_
   refine retQ_ret rfl uS ⟨rfl,rfl, ?_⟩
   rw [hI,List.drop_eq_getElem_cons hlt,spanOf,List.takeWhile_cons_of_neg (by simp [h2])]
   simp
 ·refine uA ?_
  refine retQ_ret rfl uS ⟨rfl,rfl, ?_⟩
  rw [hI,List.drop_eq_nil_of_le (by omega)]
  simp [spanOf]
end Go.Sep
set_option linter.unusedVariables false
set_option linter.unusedSimpArgs false
namespace Go.Sep
open Go.Proofs
attribute [local irreducible] TC TO OT TCallX TCall DO DOt thenQ blockQ retQ At
def idx {α : Type} [DecidableEq α] : List α → α → Nat→Int
 | [],_,_ => -1
 | x :: xs,v,k=>if v=x then (k : Int) else idx xs v (k + 1)
theorem idx_not {α : Type} [DecidableEq α] : ∀ (l : List α) (v : α) (k : Nat),v ∉ l→idx l v k = -1
 | [],_,_,_=>rfl
 | x :: xs,v,k,h=>by
  rw [idx,if_neg (fun e=>h (by simp [e])),idx_not xs v (k + 1) (fun e=>h (by simp [e]))]
theorem idx_mem {α : Type} [DecidableEq α] : ∀ (l : List α) (v : α) (k : Nat),v ∈ l → ∃ j,l[j]? = some v∧idx l v k=((k + j : Nat) : Int)
 | [],_,_,h=>by cases h
 | x :: xs,v,k,h=>by
  by_cases e : v=x
  ·exact ⟨0,by simp [e],by rw [idx,if_pos e];rfl⟩
  ·have h' : v ∈ xs:=by
    rcases List.mem_cons.1 h with h | h
    ·exact absurd h e
    ·exact h
   obtain ⟨j,h1,h2⟩:=idx_mem xs v (k + 1) h'
   exact ⟨j + 1,by simpa using h1,by rw [idx,if_neg e,h2];congr 1;omega⟩
theorem idx_ge {α : Type} [DecidableEq α] (l : List α) (v : α) : decide (0 ≤ idx l v 0)=decide (v ∈ l):=by
 by_cases h : v ∈ l
 ·obtain ⟨j,_,h2⟩:=idx_mem l v 0 h
  simp [h,h2]
 ·simp [h,idx_not l v 0 h]
set_option maxHeartbeats 400000 in
theorem index_str (m : Mem) (L : List Item) (s : Sl) (l : List Str) (v : Str) (hs : SlRep rStr m s l) :
  TCall Tryz.prog 134 ⟨[s.v,strV v]⟩ m L (Ret (.int .i64 (idx l v 0)) m L):=by
 unfold TCall
 refine TCallX.enter Tryz.func134 rfl 19 rfl ?_
 refine uA ?_
 refine TC.loopK (ι:=Nat) [0,1,7] rfl (fun k=>[(8, .int .i64 (k : Int))]) (fun _=>m) (fun _=>L) (fun k=>k ≤ l.length∧idx l v 0=idx (l.drop k) v k) (fun k=>l.length - k) 0 uH rfl uS ⟨Nat.zero_le _,rfl⟩ ?_
 rintro k ⟨hk,hI⟩
 have hl:=hs.len
 have hsm:=hs.small rfl
 refine uA ?_
 refine TC.condP rfl (fun h => ?_) (fun h => ?_)
 ·have hlt : k < l.length:=by omega
  have hx : l[k]? = some l[k]:=by simp [hlt]
  refine uA ?_
  refine TO.step rfl (OT.index tab rStr k hs rfl rfl rfl rfl rfl (by first | rfl | omega | (simp only;omega)) rfl hx ?_)
  rintro b i hd rfl hA
  (refine TO.step rfl (OT.loadA0 tab hA rfl rfl rfl rfl rfl ?_))
  refine uA ?_
  refine TC.condP rfl (fun h => ?_) (fun h => ?_)
  ·refine uA ?_
   refine retQ_ret rfl uS ⟨rfl,rfl, ?_⟩
   rw [hI,List.drop_eq_getElem_cons hlt,idx,if_pos h]
  ·refine uA ?_
   refine TO.step rfl (OT.arith (r':=((k + 1 : Nat) : Int)) rfl rfl rfl rfl rfl rfl rfl (by omega) ?_)
   refine uA ?_
   exact ⟨k + 1,uH,uH,rfl,rfl,uS,⟨by omega,by rw [hI,List.drop_eq_getElem_cons hlt,idx,if_neg h]⟩,by omega⟩
 ·refine uA ?_
  refine retQ_ret rfl uS ⟨rfl,rfl, ?_⟩
  rw [hI,List.drop_eq_nil_of_le (by omega)]
  rfl
set_option maxHeartbeats 400000 in
theorem contains_str (m : Mem) (L : List Item) (s : Sl) (l : List Str) (v : Str) (hs : SlRep rStr m s l) :
  TCall Tryz.prog 79 ⟨[s.v,strV v]⟩ m L (Ret (.bool (decide (v ∈ l))) m L):=by
 unfold TCall
 refine TCallX.enter Tryz.func79 rfl 9 rfl ?_
 refine uA ?_
 refine TO.step rfl (OT.call rfl rfl rfl rfl rfl rfl goes134 ((index_str m L s l v hs).x ?_));
 rintro _ _ _ ⟨rfl,rfl,rfl⟩
 refine uA ?_
 refine retQ_ret rfl uS ⟨rfl,rfl, ?_⟩
 exact congrArg Value.bool (by rw [idx_ge];try congr)
end Go.Sep
set_option linter.unusedVariables false
set_option linter.unusedSimpArgs false
namespace Go.Sep
open Go.Proofs
attribute [local irreducible] TC TO OT TCallX TCall DO DOt thenQ blockQ retQ At
def wordL : List Str:=[[116,121,112,101],[115,116,114,117,99,116],[105,110,116,101,114,102,97,99,101],[102,117,110,99],[118,97,114],[105,102],[101,108,115,101],[102,111,114],[114,101,116,117,114,110],[98,114,101,97,107],[99,111,110,116,105,110,117,101],[116,114,117,101],[102,97,108,115,101],[110,105,108]]
def isName (s : Str) : Bool:=decide (0 < s.length) && (decide (s.length ≤ 64) && (!(s.head?.any dgt) && (s.all lod && !decide (s ∈ wordL))))
theorem all_refl2 {m : Mem} : ∀ l : List Str,All2 (rStr.rep m) l l
 | []=>trivial
 | _ :: l=>⟨rfl,all_refl2 l⟩
theorem words_rep {m : Mem} {b : Nat} (h : At m b 0 (encs rStr wordL)) : SlRep rStr m ⟨some ⟨b,0,none⟩,14,14⟩ wordL :=
 ⟨rfl,Nat.le_refl _,(by show 14 * 16 ≤ _;decide),wordL,all_refl2 wordL, .inr ⟨b,0,rfl,h⟩⟩
set_option maxHeartbeats 400000 in
theorem words_law (m : Mem) (L : List Item) : TCall Tryz.prog 80 ⟨[]⟩ m L (Made m L fun r m' => ∃ s : Sl,r=s.v∧SlRep rStr m' s wordL):=by
 unfold TCall
 refine TCallX.enter Tryz.func80 rfl 2 rfl ?_
 refine uB ?_
 refine TO.step rfl (OT.lit tab rfl rfl rfl rfl (fun b => ?_))
 refine TO.freeze fun m1 hm1 hA1 => ?_
 refine uA ?_
 exact retQ_ret rfl uS ⟨hm1,rfl,_,rfl,words_rep hA1⟩
theorem span_full (p : UInt8→Bool) (s : Str) : spanOf p s=s.length ↔ s.all p=true:=by
 unfold spanOf
 induction s with
 | nil=>simp
 | cons x xs ih =>
  by_cases h : p x=true
  ·rw [List.takeWhile_cons_of_pos h];simp [h,ih]
  ·rw [List.takeWhile_cons_of_neg h];simp [h]
theorem dgt_ltr (b : UInt8) : ltr b=(lod b && !dgt b):=by
 have hb : b.toNat < 256:=b.toNat_lt
 unfold lod ltr dgt
 rw [Bool.eq_iff_iff]
 simp only [Bool.or_eq_true,Bool.and_eq_true,decide_eq_true_eq,Bool.not_eq_true',decide_eq_false_iff_not]
 omega
theorem isName_eq {s : Str} (h : 0 < s.length) : isName s=(decide (s.length ≤ 64) && (ltr s[0] && (s.all lod && !decide (s ∈ wordL)))):=by
 cases s with
 | nil=>cases h
 | cons x xs =>
  unfold isName
  rw [decide_eq_true h,Bool.true_and]
  congr 1
  simp only [List.head?_cons,Option.any_some,List.getElem_cons_zero,dgt_ltr,List.all_cons]
  cases dgt x <;> cases lod x <;> simp
set_option maxHeartbeats 400000 in
theorem name_law (m : Mem) (L : List Item) (s : Str) (hs : s.length ≤ 140737488355328) : TCall Tryz.prog 40 ⟨[strV s]⟩ m L (Ret (.bool (isName s)) m L):=by
 refine TCall.forget ?_
 unfold TCall
 refine TCallX.enter Tryz.func40 rfl 29 rfl ?_
 refine uA ?_
 (refine TO.splitN rfl rfl (fun h1 => ?_) (fun h1 => ?_))
 ·refine uA ?_
  (refine TO.splitP rfl rfl (fun h2 => ?_) (fun h2 => ?_))
  ·refine uA ?_
   have hlt : 0 < s.length:=List.length_pos_iff.2 h1
   have hx : s[0]? = some s[0]:=by simp [hlt]
   refine TO.step rfl (OT.sidx tab 0 rfl rfl rfl rfl rfl rfl rfl hx ?_)
   refine uA ?_
   refine TO.step rfl (OT.call rfl rfl rfl rfl rfl rfl goes75 ((letter_law m L s[0]).x ?_));
   rintro _ _ _ ⟨rfl,rfl,rfl⟩
   refine uA ?_
   (refine TO.split rfl rfl (fun h3 => ?_) (fun h3 => ?_))
   ·refine uA ?_
    refine TO.step rfl (OT.call rfl rfl rfl rfl rfl rfl goes77 ((either_law m L).x ?_));
    rintro _ m1 _ ⟨hm1,rfl,b1,b2,rfl,hA1,hA2⟩
    refine uA ?_
    refine TO.step rfl (OT.call rfl rfl rfl rfl rfl rfl goes76 ((span_law m1 L s hs lod 133 _ ⟨goes133,fun b=>either_cl m1 L b b1 b2 hA1 hA2⟩).x ?_));
    rintro _ _ _ ⟨rfl,rfl,rfl⟩
    refine uA ?_
    (refine TO.splitP rfl rfl (fun h4 => ?_) (fun h4 => ?_))
    ·refine uA ?_
     refine TO.step rfl (OT.call rfl rfl rfl rfl rfl rfl goes80 ((words_law m1 L).x ?_));
     rintro _ m2 _ ⟨hm2,rfl,w,rfl,hw⟩
     refine uA ?_
     refine TO.step rfl (OT.call rfl rfl rfl rfl rfl rfl goes79 ((contains_str m2 L w wordL s hw).x ?_));
     rintro _ _ _ ⟨rfl,rfl,rfl⟩
     refine uA ?_
     refine retQ_ret rfl uS ⟨Mem.le_trans hm1 hm2,rfl, ?_⟩
     rw [isName_eq hlt,decide_eq_true (by omega),h3,(span_full lod s).1 (by omega)];rfl
    ·refine uA ?_
     refine retQ_ret rfl uS ⟨hm1,rfl, ?_⟩
     have h5 : s.all lod=false:=Bool.eq_false_iff.2 (fun h=>h4 (by have:=(span_full lod s).2 h;omega))
     rw [isName_eq hlt,decide_eq_true (by omega),h3,h5];rfl
   ·refine uA ?_
    refine retQ_ret rfl uS ⟨Mem.le_refl _,rfl, ?_⟩
    rw [isName_eq hlt,decide_eq_true (by omega),h3];rfl
  ·refine uA ?_
   refine retQ_ret rfl uS ⟨Mem.le_refl _,rfl, ?_⟩
   have hlt : 0 < s.length:=List.length_pos_iff.2 h1
   rw [isName_eq hlt,decide_eq_false (by omega)];rfl
 ·refine uA ?_
  refine retQ_ret rfl uS ⟨Mem.le_refl _,rfl, ?_⟩
  rw [h1];rfl
set_option maxHeartbeats 400000 in
theorem reserved_ref (m : Mem) (L : List Item) (s : Str) : TCall Tryz.prog 50 ⟨[strV s]⟩ m L (Ret (.bool (decide (s ∈ wordL))) m L):=by
 refine TCall.forget ?_
 unfold TCall
 refine TCallX.enter Tryz.func50 rfl 15 rfl ?_
 refine uB ?_
 refine TO.step rfl (OT.lit tab rfl rfl rfl rfl (fun b => ?_))
 refine TO.freeze fun m1 hm1 hA1 => ?_
 have hw:=words_rep hA1
 refine uA ?_
 refine TC.loopK (ι:=Nat) [0,5,6] rfl (fun k=>[(7, .int .i64 (k : Int))]) (fun _=>m1) (fun _=>L) (fun k=>k ≤ 14∧s ∉ wordL.take k) (fun k=>14 - k) 0 uH rfl uS ⟨Nat.zero_le _,by simp⟩ ?_
 rintro k ⟨hk,hI⟩
 have hwl : wordL.length=14:=rfl
 refine uN ?_
 refine TC.condP rfl (fun h => ?_) (fun h => ?_)
 ·have hlt : k < wordL.length:=by omega
  have hx : wordL[k]? = some wordL[k]:=by simp [hlt]
  refine uA ?_
  refine TO.step rfl (OT.index tab rStr k hw rfl rfl rfl rfl rfl (by first | rfl | omega | (simp only;omega)) rfl hx ?_)
  rintro b i hd rfl hA
  (refine TO.step rfl (OT.loadA0 tab hA rfl rfl rfl rfl rfl ?_))
  refine uA ?_
  refine TC.condP rfl (fun h2 => ?_) (fun h2 => ?_)
  ·refine uA ?_
   refine retQ_ret rfl uS ⟨hm1,rfl, ?_⟩
   rw [decide_eq_true]
   rw [h2]
   exact List.getElem_mem hlt
  ·refine uA ?_
   refine TO.step rfl (OT.arith (r':=((k + 1 : Nat) : Int)) rfl rfl rfl rfl rfl rfl rfl (by omega) ?_)
   refine uA ?_
   refine ⟨k + 1,uH,uH,rfl,rfl,uS,⟨by omega, ?_⟩,by omega⟩
   rw [List.take_succ_eq_append_getElem hlt,List.mem_append]
   rintro (h3 | h3)
   ·exact hI h3
   ·exact h2 (by simpa using h3)
 ·refine uA ?_
  refine retQ_ret rfl uS ⟨hm1,rfl, ?_⟩
  rw [decide_eq_false]
  rwa [List.take_of_length_le (by omega)] at hI
set_option maxHeartbeats 800000 in
theorem name_ref (m : Mem) (L : List Item) (s : Str) (hs : s.length ≤ 140737488355328) : TCall Tryz.prog 25 ⟨[strV s]⟩ m L (Ret (.bool (isName s)) m L):=by
 unfold TCall
 refine TCallX.enter Tryz.func25 rfl 39 rfl ?_
 refine uB ?_
 refine uN ?_
 (refine TO.splitP rfl rfl (fun h1 => ?_) (fun h1 => ?_))
 ·refine uN ?_
  refine TC.cond_t rfl ?_
  refine uN ?_
  refine retQ_ret rfl uS ⟨rfl,rfl, ?_⟩
  have h0 : s=[]:=List.length_eq_zero_iff.1 (by omega)
  rw [h0];rfl
 have hlt : 0 < s.length:=by omega
 ·refine uN ?_
  (refine TO.splitP rfl rfl (fun h2 => ?_) (fun h2 => ?_))
  ·refine uN ?_
   refine TC.cond_t rfl ?_
   refine uN ?_
   refine retQ_ret rfl uS ⟨rfl,rfl, ?_⟩
   rw [isName_eq hlt,decide_eq_false (by omega)];rfl
  have hx : s[0]? = some s[0]:=by simp [hlt]
  refine uN ?_
  refine TO.step rfl (OT.sidx tab 0 rfl rfl rfl rfl rfl rfl rfl hx ?_)
  refine uN ?_
  refine TO.step rfl (OT.call rfl rfl rfl rfl rfl rfl goes49 ((digit_ref m L s[0]).x ?_));
  rintro _ _ _ ⟨rfl,rfl,rfl⟩
  refine uN ?_
  (refine TO.splitP rfl rfl (fun h3 => ?_) (fun h3 => ?_))
  ·refine uN ?_
   refine TC.cond_t rfl ?_
   refine uN ?_
   refine retQ_ret rfl uS ⟨rfl,rfl, ?_⟩
   have h5 : dgt s[0]=true:=decide_eq_true h3
   rw [isName_eq hlt,dgt_ltr,h5];simp
  refine uN ?_
  refine TO.step rfl (OT.call rfl rfl rfl rfl rfl rfl goes50 ((reserved_ref m L s).x ?_));
  rintro _ _ _ ⟨rfl,rfl,rfl⟩
  refine uN ?_
  refine TC.condP rfl (fun h4 => ?_) (fun h4 => ?_)
  ·refine uN ?_
   refine retQ_ret rfl uS ⟨rfl,rfl, ?_⟩
   rw [isName_eq hlt,decide_eq_true h4];simp
  refine uN ?_
  refine TC.loopK (ι:=Nat) [0] rfl (fun k=>[(3, .int .i64 (k : Int))]) (fun _=>m) (fun _=>L) (fun k=>k ≤ s.length∧(s.take k).all lod=true) (fun k=>s.length - k) 0 uH rfl uS ⟨Nat.zero_le _,by simp⟩ ?_
  rintro k ⟨hk,hI⟩
  refine uN ?_
  refine TC.condP rfl (fun h => ?_) (fun h => ?_)
  ·have hl2 : k < s.length:=by omega
   have hx : s[k]? = some s[k]:=by simp [hl2]
   refine uN ?_
   refine TO.step rfl (OT.sidx tab k rfl rfl rfl rfl rfl rfl rfl hx ?_)
   refine uN ?_
   refine TO.step rfl (OT.call rfl rfl rfl rfl rfl rfl goes51 ((letter_ref m L s[k]).x ?_));
   rintro _ _ _ ⟨rfl,rfl,rfl⟩
   refine uN ?_
   have step : lod s[k]=true→k + 1 ≤ s.length∧(s.take (k + 1)).all lod=true:=fun hl=>⟨by omega,by rw [List.take_succ_eq_append_getElem hl2,List.all_append,hI,List.all_cons,hl];rfl⟩
   refine TO.split (b := !ltr s[k]) rfl rfl (fun h5 => ?_) (fun h5 => ?_)
   ·refine uN ?_
    refine TO.step rfl (OT.sidx tab k rfl rfl rfl rfl rfl rfl rfl hx ?_)
    refine uN ?_
    refine TO.step rfl (OT.call rfl rfl rfl rfl rfl rfl goes49 ((digit_ref m L s[k]).x ?_));
    rintro _ _ _ ⟨rfl,rfl,rfl⟩
    refine uN ?_
    refine TC.cond (t := !dgt s[k]) rfl (fun h6 => ?_) (fun h6 => ?_)
    ·refine uN ?_
     refine retQ_ret rfl uS ⟨rfl,rfl, ?_⟩
     have h7 : s.all lod=false:=List.all_eq_false.2 ⟨s[k],List.getElem_mem hl2,by unfold lod;simp_all⟩
     rw [isName_eq hlt,h7];simp
    ·refine uN ?_
     refine TO.step rfl (OT.arith (r':=((k + 1 : Nat) : Int)) rfl rfl rfl rfl rfl rfl rfl (by omega) ?_)
     refine uN ?_
     exact ⟨k + 1,uH,uH,rfl,rfl,uS,step (by unfold lod;simp_all),by omega⟩
   ·refine uN ?_
    refine TC.cond_f rfl ?_
    refine uN ?_
    refine TO.step rfl (OT.arith (r':=((k + 1 : Nat) : Int)) rfl rfl rfl rfl rfl rfl rfl (by omega) ?_)
    refine uN ?_
    exact ⟨k + 1,uH,uH,rfl,rfl,uS,step (by unfold lod;simp_all),by omega⟩
  ·refine uN ?_
   refine retQ_ret rfl uS ⟨rfl,rfl, ?_⟩
   rw [List.take_of_length_le (by omega)] at hI
   have h5 : dgt s[0]=false:=decide_eq_false h3
   rw [isName_eq hlt,decide_eq_true (by omega),dgt_ltr,h5,hI,decide_eq_false h4]
   have:=List.all_eq_true.1 hI s[0] (List.getElem_mem hlt)
   rw [this];rfl
end Go.Sep
set_option linter.unusedVariables false
set_option linter.unusedSimpArgs false
set_option linter.unusedSectionVars false
namespace Go.Sep
section
variable {α : Type} [Inhabited α] {lt : α → α → Bool}
structure Sg (a b : Nat) (xs ys : List α) : Prop where
 len : ys.length=xs.length
 perm : ys.Perm xs
 out : ∀ i,i < a ∨ b ≤ i→gk ys i=gk xs i
 inn : ∀ i,a ≤ i→i < b → ∃ j,a ≤ j∧j < b∧gk ys i=gk xs j
theorem Sg.refl (a b : Nat) (xs : List α) : Sg a b xs xs:=⟨rfl, .refl _,fun _ _=>rfl,fun i h1 h2=>⟨i,h1,h2,rfl⟩⟩
theorem Sg.trans {a b : Nat} {xs ys zs : List α} (h : Sg a b xs ys) (k : Sg a b ys zs) : Sg a b xs zs :=
 ⟨k.len.trans h.len,k.perm.trans h.perm,fun i hi=>(k.out i hi).trans (h.out i hi),fun i h1 h2=>by
  obtain ⟨j,j1,j2,j3⟩:=k.inn i h1 h2
  obtain ⟨l,l1,l2,l3⟩:=h.inn j j1 j2
  exact ⟨l,l1,l2,j3.trans l3⟩⟩
theorem Sg.mono {a b c d : Nat} {xs ys : List α} (h : Sg a b xs ys) (h1 : c ≤ a) (h2 : b ≤ d) : Sg c d xs ys :=
 ⟨h.len,h.perm,fun i hi=>h.out i (by omega),fun i k1 k2=>by
  by_cases e : a ≤ i∧i < b
  ·obtain ⟨j,j1,j2,j3⟩:=h.inn i e.1 e.2
   exact ⟨j,by omega,by omega,j3⟩
  ·exact ⟨i,k1,k2,h.out i (by omega)⟩⟩
theorem Sg.sw {a b i j : Nat} {xs : List α} (h1 : a ≤ i∧i < b) (h2 : a ≤ j∧j < b) (hb : b ≤ xs.length) : Sg a b xs (sw xs i j) :=
 ⟨sw_length _ _ _,sw_perm (by omega) (by omega),fun k hk=>by rw [gk_sw (by omega) (by omega),if_neg (by omega),if_neg (by omega)],fun k k1 k2=>by
  rw [gk_sw (by omega) (by omega)]
  by_cases e : k=j
  ·exact ⟨i,h1.1,h1.2,by rw [if_pos e]⟩
  ·by_cases e2 : k=i
   ·exact ⟨j,h2.1,h2.2,by rw [if_neg e,if_pos e2]⟩
   ·exact ⟨k,k1,k2,by rw [if_neg e,if_neg e2]⟩⟩
def Sn (lt : α → α → Bool) (xs : List α) (a b : Nat) : Prop := ∀ i j,a ≤ i→i < j→j < b→lt (gk xs j) (gk xs i)=false
theorem Sn.of {xs ys : List α} {a b : Nat} (h : Sn lt xs a b) (e : ∀ i,a ≤ i→i < b→gk ys i=gk xs i) : Sn lt ys a b:=fun i j h1 h2 h3=>by
 rw [e i h1 (by omega),e j (by omega) h3]
 exact h i j h1 h2 h3
structure CaL (xs : List α) (m k : Nat) (ys : List α) : Prop where
 at_ : gk ys k=gk xs m
 hi : ∀ t,k < t→t ≤ m→gk ys t=gk xs (t - 1)
 out : ∀ t,t < k ∨ m < t→gk ys t=gk xs t
theorem CaL.start (xs : List α) (m : Nat) : CaL xs m m xs:=⟨rfl,fun t h1 h2=>by omega,fun t _=>rfl⟩
theorem CaL.step {xs ys : List α} {m k : Nat} (h : CaL xs m k ys) (hk : 0 < k) (hkm : k ≤ m) (hl : k < ys.length) : CaL xs m (k - 1) (sw ys k (k - 1)):=by
 refine ⟨?_,fun t h1 h2 => ?_,fun t ht => ?_⟩
 ·rw [gk_sw hl (by omega),if_pos rfl,h.at_]
 ·rw [gk_sw hl (by omega),if_neg (by omega)]
  by_cases e : t=k
  ·rw [if_pos e,h.out (k - 1) (by omega),e]
  ·rw [if_neg e];exact h.hi t (by omega) h2
 ·rw [gk_sw hl (by omega),if_neg (by omega),if_neg (by omega)]
  exact h.out t (by omega)
theorem CaL.sorted {xs ys : List α} {a i m : Nat} (him : a ≤ i∧i ≤ m) (h : CaL xs m i ys) (hs : Sn lt xs a m) (h1 : ∀ t,a ≤ t→t < i→lt (gk xs m) (gk xs t)=false) (h2 : ∀ t,i ≤ t→t < m→lt (gk xs t) (gk xs m)=false) : Sn lt ys a (m + 1):=by
 intro s t k1 k2 k3
 by_cases e1 : i < s
 ·rw [h.hi s e1 (by omega),h.hi t (by omega) (by omega)]
  exact hs _ _ (by omega) (by omega) (by omega)
 ·by_cases e2 : s=i
  ·rw [e2,h.at_,h.hi t (by omega) (by omega)]
   exact h2 _ (by omega) (by omega)
  ·rw [h.out s (by omega)]
   by_cases e3 : i < t
   ·rw [h.hi t e3 (by omega)]
    exact hs _ _ k1 (by omega) (by omega)
   ·by_cases e4 : t=i
    ·rw [e4,h.at_]
     exact h1 _ k1 (by omega)
    ·rw [h.out t (by omega)]
     exact hs _ _ k1 k2 (by omega)
structure CaI (lt : α → α → Bool) (ys : List α) (a i j : Nat) (zs : List α) : Prop where
 le : a ≤ j∧j ≤ i
 seg : Sg a (i + 1) ys zs
 sh : CaL ys i j zs
 past : ∀ t,j ≤ t→t < i→lt (gk ys i) (gk ys t)=true
theorem CaI.start {ys : List α} {a i : Nat} (h : a ≤ i) : CaI lt ys a i i ys:=⟨⟨h,Nat.le_refl _⟩,Sg.refl _ _ _,CaL.start _ _,fun t h1 h2=>by omega⟩
theorem CaI.step {ys zs : List α} {a i j : Nat} (h : CaI lt ys a i j zs) (hj : a < j) (hl : i < ys.length) (hlt : lt (gk zs j) (gk zs (j - 1))=true) : CaI lt ys a i (j - 1) (sw zs j (j - 1)):=by
 have h1:=h.le
 have hzl:=h.seg.len
 refine ⟨by omega,h.seg.trans (Sg.sw (by omega) (by omega) (by omega)),h.sh.step (by omega) h1.2 (by omega),fun t k1 k2 => ?_⟩
 by_cases e : t=j - 1
 ·rw [h.sh.at_,h.sh.out (j - 1) (by omega)] at hlt
  rw [e];exact hlt
 ·exact h.past t (by omega) k2
theorem CaI.done {ys zs : List α} {a i j : Nat} (O : OrdK lt) (hs : Sn lt ys a i) (h : CaI lt ys a i j zs) (he : j=a ∨ lt (gk zs j) (gk zs (j - 1))=false) : Sn lt zs a (i + 1):=by
 have h1:=h.le
 refine h.sh.sorted h1 hs (fun t k1 k2 => ?_) (fun t k1 k2=>O.asym _ _ (h.past t k1 k2))
 rcases he with he | he
 ·omega
 ·rw [h.sh.at_,h.sh.out (j - 1) (by omega)] at he
  by_cases e : t=j - 1
  ·rw [e];exact he
  ·exact O.trans _ _ _ (hs t (j - 1) k1 (by omega) (by omega)) he
theorem gk_drop {xs : List α} {f k : Nat} : gk (xs.drop f) k=gk xs (f + k):=by
 unfold gk
 rw [List.getElem?_drop]
theorem sw_dropf {xs : List α} {f i j : Nat} : (sw xs (f + i) (f + j)).drop f=sw (xs.drop f) i j:=by
 unfold sw
 rw [List.drop_set,List.drop_set,if_neg (by omega),if_neg (by omega),gk_drop,gk_drop,Nat.add_sub_cancel_left,Nat.add_sub_cancel_left]
def gtL (lt : α → α → Bool) (a b : α) : Bool:=lt b a
theorem gtL_ord (O : OrdK lt) : OrdK (gtL lt):=⟨fun a b h=>O.asym _ _ h,fun a b c h1 h2=>O.trans _ _ _ h2 h1⟩
structure HsI (lt : α → α → Bool) (xs : List α) (f n i : Nat) : Prop where
 hp : HF (gtL lt) (xs.drop f) i 0
 so : Sn lt xs (f + i) (f + n)
 x : ∀ s t,s < i→i ≤ t→t < n→lt (gk xs (f + t)) (gk xs (f + s))=false
theorem HsI.start {xs : List α} {f n : Nat} (h : HF (gtL lt) (xs.drop f) n 0) : HsI lt xs f n n:=⟨h,fun i j h1 h2 h3=>by omega,fun s t h1 h2 h3=>by omega⟩
theorem HsI.swap {xs : List α} {f n i : Nat} (O : OrdK lt) (hirr : ∀ a,lt a a=false) (h : HsI lt xs f n (i + 1)) (hin : i < n) (hl : f + n ≤ xs.length) :
  DI (gtL lt) ((sw xs f (f + i)).drop f) i 0 0∧Sn lt (sw xs f (f + i)) (f + i) (f + n) ∧ ∀ s t,s < i→i ≤ t→t < n→lt (gk (sw xs f (f + i)) (f + t)) (gk (sw xs f (f + i)) (f + s))=false:=by
 have hmax : ∀ k,k < i + 1→lt (gk xs f) (gk xs (f + k))=false:=fun k hk=>by
  have:=h.hp.min (gtL_ord O) (fun a=>hirr a) k hk
  rw [gk_drop,gk_drop,Nat.add_zero] at this
  exact this
 refine ⟨?_,fun s t h1 h2 h3 => ?_,fun s t h1 h2 h3 => ?_⟩
 ·have e : sw xs f (f + i)=sw xs (f + 0) (f + i):=by rw [Nat.add_zero]
  rw [e,sw_dropf]
  exact DI.pop h.hp (by rw [List.length_drop];omega)
 ·rw [gk_sw (by omega) (by omega),gk_sw (by omega) (by omega),if_neg (show t ≠ f + i by omega),if_neg (show t ≠ f by omega)]
  by_cases e : s=f + i
  ·rw [if_pos e]
   have:=h.x 0 (t - f) (by omega) (by omega) (by omega)
   rw [show f + (t - f)=t by omega,Nat.add_zero] at this
   exact this
  ·rw [if_neg e,if_neg (show s ≠ f by omega)]
   exact h.so s t (by omega) h2 h3
 ·rw [gk_sw (by omega) (by omega),gk_sw (by omega) (by omega),if_neg (show f + s ≠ f + i by omega)]
  by_cases e1 : s=0
  ·rw [if_pos (show f + s=f by omega)]
   by_cases e2 : t=i
   ·rw [if_pos (show f + t=f + i by omega)]
    exact hmax i (by omega)
   ·rw [if_neg (show f + t ≠ f + i by omega),if_neg (show f + t ≠ f by omega)]
    exact h.x i t (by omega) (by omega) h3
  ·rw [if_neg (show f + s ≠ f by omega)]
   by_cases e2 : t=i
   ·rw [if_pos (show f + t=f + i by omega)]
    exact hmax s (by omega)
   ·rw [if_neg (show f + t ≠ f + i by omega),if_neg (show f + t ≠ f by omega)]
    exact h.x s t (by omega) (by omega) h3
theorem HsI.next {xs ys : List α} {f n i : Nat} (hm : Sg f (f + i) xs ys) (hp : HF (gtL lt) (ys.drop f) i 0) (so : Sn lt xs (f + i) (f + n)) (x : ∀ s t,s < i→i ≤ t→t < n→lt (gk xs (f + t)) (gk xs (f + s))=false) : HsI lt ys f n i:=by
 refine ⟨hp,so.of fun k h1 h2=>hm.out k (by omega),fun s t h1 h2 h3 => ?_⟩
 obtain ⟨j,j1,j2,j3⟩:=hm.inn (f + s) (by omega) (by omega)
 rw [hm.out (f + t) (by omega),j3]
 have:=x (j - f) t (by omega) h2 h3
 rw [show f + (j - f)=j by omega] at this
 exact this
structure PaI (lt : α → α → Bool) (xs : List α) (a b i j : Nat) (ys : List α) : Prop where
 rng : a + 1 ≤ i∧i ≤ j + 1∧j < b
 seg : Sg a b xs ys
 piv : gk ys a=gk xs a
 lo : ∀ t,a + 1 ≤ t→t < i→lt (gk ys t) (gk xs a)=true
 hi : ∀ t,j < t→t < b→lt (gk ys t) (gk xs a)=false
theorem PaI.start {xs : List α} {a b : Nat} (h : a < b) (h2 : a + 1 < b) : PaI lt xs a b (a + 1) (b - 1) xs:=⟨by omega,Sg.refl _ _ _,rfl,fun t h1 h2=>by omega,fun t h1 h2=>by omega⟩
theorem PaI.left {xs ys : List α} {a b i j : Nat} (h : PaI lt xs a b i j ys) (hij : i ≤ j) (hc : lt (gk ys i) (gk ys a)=true) : PaI lt xs a b (i + 1) j ys:=by
 refine ⟨by have:=h.rng;omega,h.seg,h.piv,fun t h1 h2 => ?_,h.hi⟩
 by_cases e : t=i
 ·rw [e,← h.piv];exact hc
 ·exact h.lo t h1 (by omega)
theorem PaI.right {xs ys : List α} {a b i j : Nat} (h : PaI lt xs a b i j ys) (hij : i ≤ j) (hc : lt (gk ys j) (gk ys a)=false) : PaI lt xs a b i (j - 1) ys:=by
 have:=h.rng
 refine ⟨by omega,h.seg,h.piv,h.lo,fun t h1 h2 => ?_⟩
 by_cases e : t=j
 ·rw [e,← h.piv];exact hc
 ·exact h.hi t (by omega) h2
theorem PaI.swap {xs ys : List α} {a b i j : Nat} (h : PaI lt xs a b i j ys) (hij : i ≤ j) (hb : b ≤ xs.length) (hi : lt (gk ys i) (gk ys a)=false) (hj : lt (gk ys j) (gk ys a)=true) : PaI lt xs a b (i + 1) (j - 1) (sw ys i j)∧i < j:=by
 have hr:=h.rng
 have hl:=h.seg.len
 have hne : i ≠ j:=fun e=>by rw [e,hj] at hi;cases hi
 refine ⟨⟨by omega,h.seg.trans (Sg.sw (by omega) (by omega) (by omega)), ?_,fun t h1 h2 => ?_,fun t h1 h2 => ?_⟩,by omega⟩
 ·rw [gk_sw (by omega) (by omega),if_neg (by omega),if_neg (by omega)];exact h.piv
 ·rw [gk_sw (by omega) (by omega),if_neg (by omega)]
  by_cases e : t=i
  ·rw [if_pos e,← h.piv];exact hj
  ·rw [if_neg e];exact h.lo t h1 (by omega)
 ·rw [gk_sw (by omega) (by omega)]
  by_cases e : t=j
  ·rw [if_pos e,← h.piv];exact hi
  ·rw [if_neg e,if_neg (by omega)];exact h.hi t (by omega) h2
structure Parted (lt : α → α → Bool) (a b mid : Nat) (xs ys : List α) : Prop where
 rng : a ≤ mid∧mid < b
 seg : Sg a b xs ys
 lo : ∀ t,a ≤ t→t < mid→lt (gk ys t) (gk ys mid)=true
 hi : ∀ t,mid < t→t < b→lt (gk ys t) (gk ys mid)=false
theorem PaI.done {xs ys : List α} {a b i j : Nat} (h : PaI lt xs a b i j ys) (hij : j < i) (hb : b ≤ xs.length) : Parted lt a b j xs (sw ys j a):=by
 have hr:=h.rng
 have hl:=h.seg.len
 have hm : gk (sw ys j a) j=gk xs a:=by
  rw [gk_sw (by omega) (by omega)]
  by_cases e : j=a
  ·rw [if_pos e,e];exact h.piv
  ·rw [if_neg e,if_pos rfl];exact h.piv
 refine ⟨by omega,h.seg.trans (Sg.sw (by omega) (by omega) (by omega)),fun t h1 h2 => ?_,fun t h1 h2 => ?_⟩
 ·rw [hm,gk_sw (by omega) (by omega)]
  by_cases e : t=a
  ·rw [if_pos e]
   exact h.lo j (by omega) (by omega)
  ·rw [if_neg e,if_neg (by omega)]
   exact h.lo t (by omega) (by omega)
 ·rw [hm,gk_sw (by omega) (by omega),if_neg (by omega),if_neg (by omega)]
  exact h.hi t h1 h2
theorem Parted.base {xs ys zs : List α} {a b mid : Nat} (h : Sg a b xs ys) (k : Parted lt a b mid ys zs) : Parted lt a b mid xs zs:=⟨k.rng,h.trans k.seg,k.lo,k.hi⟩
structure PeI (lt : α → α → Bool) (xs : List α) (a b i j : Nat) (ys : List α) : Prop where
 rng : a + 1 ≤ i∧i ≤ j + 1∧j < b
 seg : Sg a b xs ys
 piv : gk ys a=gk xs a
 lo : ∀ t,a + 1 ≤ t→t < i→lt (gk xs a) (gk ys t)=false
 hi : ∀ t,j < t→t < b→lt (gk xs a) (gk ys t)=true
theorem PeI.start {xs : List α} {a b : Nat} (h2 : a + 1 < b) : PeI lt xs a b (a + 1) (b - 1) xs:=⟨by omega,Sg.refl _ _ _,rfl,fun t h1 h2=>by omega,fun t h1 h2=>by omega⟩
theorem PeI.left {xs ys : List α} {a b i j : Nat} (h : PeI lt xs a b i j ys) (hij : i ≤ j) (hc : lt (gk ys a) (gk ys i)=false) : PeI lt xs a b (i + 1) j ys:=by
 refine ⟨by have:=h.rng;omega,h.seg,h.piv,fun t h1 h2 => ?_,h.hi⟩
 by_cases e : t=i
 ·rw [e,← h.piv];exact hc
 ·exact h.lo t h1 (by omega)
theorem PeI.right {xs ys : List α} {a b i j : Nat} (h : PeI lt xs a b i j ys) (hij : i ≤ j) (hc : lt (gk ys a) (gk ys j)=true) : PeI lt xs a b i (j - 1) ys:=by
 have:=h.rng
 refine ⟨by omega,h.seg,h.piv,h.lo,fun t h1 h2 => ?_⟩
 by_cases e : t=j
 ·rw [e,← h.piv];exact hc
 ·exact h.hi t (by omega) h2
theorem PeI.swap {xs ys : List α} {a b i j : Nat} (h : PeI lt xs a b i j ys) (hij : i ≤ j) (hb : b ≤ xs.length) (hi : lt (gk ys a) (gk ys i)=true) (hj : lt (gk ys a) (gk ys j)=false) : PeI lt xs a b (i + 1) (j - 1) (sw ys i j)∧i < j:=by
 have hr:=h.rng
 have hl:=h.seg.len
 have hne : i ≠ j:=fun e=>by rw [← e,hi] at hj;cases hj
 refine ⟨⟨by omega,h.seg.trans (Sg.sw (by omega) (by omega) (by omega)), ?_,fun t h1 h2 => ?_,fun t h1 h2 => ?_⟩,by omega⟩
 ·rw [gk_sw (by omega) (by omega),if_neg (by omega),if_neg (by omega)];exact h.piv
 ·rw [gk_sw (by omega) (by omega),if_neg (by omega)]
  by_cases e : t=i
  ·rw [if_pos e,← h.piv];exact hj
  ·rw [if_neg e];exact h.lo t h1 (by omega)
 ·rw [gk_sw (by omega) (by omega)]
  by_cases e : t=j
  ·rw [if_pos e,← h.piv];exact hi
  ·rw [if_neg e,if_neg (by omega)];exact h.hi t (by omega) h2
def Low (lt : α → α → Bool) (xs : List α) (a b : Nat) : Prop:=0 < a → ∀ i,a ≤ i→i < b→lt (gk xs i) (gk xs (a - 1))=false
theorem Low.seg {xs ys : List α} {a b : Nat} (h : Low lt xs a b) (k : Sg a b xs ys) : Low lt ys a b:=fun h0 i h1 h2=>by
 obtain ⟨j,j1,j2,j3⟩:=k.inn i h1 h2
 rw [j3,k.out (a - 1) (by omega)]
 exact h h0 j j1 j2
def Rest (lt : α → α → Bool) (A B : Nat) (xs0 xs : List α) (a b : Nat) : Prop := ∀ ys,Sg a b xs ys→Sn lt ys a b→Sg A B xs0 ys∧Sn lt ys A B
theorem Rest.start (A B : Nat) (xs : List α) : Rest lt A B xs xs A B:=fun ys h k=>⟨h,k⟩
theorem Rest.seg {A B a b : Nat} {xs0 xs ys : List α} (h : Rest lt A B xs0 xs a b) (k : Sg a b xs ys) : Rest lt A B xs0 ys a b:=fun zs h1 h2=>h zs (k.trans h1) h2
theorem Rest.right {A B a b mid : Nat} {xs0 xs ys zs : List α} (O : OrdK lt) (h : Rest lt A B xs0 xs a b) (p : Parted lt a b mid xs ys) (k : Sg a mid ys zs) (s : Sn lt zs a mid) : Rest lt A B xs0 zs (mid + 1) b∧Low lt zs (mid + 1) b:=by
 have hr:=p.rng
 have hlo : ∀ t,a ≤ t→t < mid→lt (gk zs t) (gk zs mid)=true:=fun t h1 h2=>by
  obtain ⟨j,j1,j2,j3⟩:=k.inn t h1 h2
  rw [j3,k.out mid (by omega)];exact p.lo j j1 j2
 have hhi : ∀ t,mid < t→t < b→lt (gk zs t) (gk zs mid)=false:=fun t h1 h2=>by
  rw [k.out t (by omega),k.out mid (by omega)];exact p.hi t h1 h2
 refine ⟨fun ws k2 s2=>h ws ((p.seg.trans (k.mono (Nat.le_refl _) (by omega))).trans (k2.mono (by omega) (Nat.le_refl _))) fun i j h1 h2 h3 => ?_,fun _ i h1 h2=>by rw [Nat.add_sub_cancel];exact hhi i (by omega) h2⟩
 have hge : ∀ t,mid < t→t < b→lt (gk ws t) (gk zs mid)=false:=fun t q1 q2=>by
  obtain ⟨j,j1,j2,j3⟩:=k2.inn t (by omega) q2
  rw [j3];exact hhi j (by omega) j2
 by_cases e1 : j < mid
 ·rw [k2.out i (by omega),k2.out j (by omega)];exact s i j h1 h2 e1
 ·by_cases e2 : mid < i
  ·exact s2 i j (by omega) h2 h3
  ·by_cases e3 : i=mid
   ·rw [e3,k2.out mid (by omega)]
    exact hge j (by omega) h3
   ·rw [k2.out i (by omega)]
    have hl:=O.asym _ _ (hlo i h1 (by omega))
    by_cases e4 : j=mid
    ·rw [e4,k2.out mid (by omega)];exact hl
    ·exact O.trans _ _ _ hl (hge j (by omega) h3)
theorem Rest.left {A B a b mid : Nat} {xs0 xs ys zs : List α} (O : OrdK lt) (h : Rest lt A B xs0 xs a b) (hL : Low lt xs a b) (p : Parted lt a b mid xs ys) (k : Sg (mid + 1) b ys zs) (s : Sn lt zs (mid + 1) b) : Rest lt A B xs0 zs a mid∧Low lt zs a mid:=by
 have hr:=p.rng
 have hlo : ∀ t,a ≤ t→t < mid→lt (gk zs t) (gk zs mid)=true:=fun t h1 h2=>by
  rw [k.out t (by omega),k.out mid (by omega)];exact p.lo t h1 h2
 have hhi : ∀ t,mid < t→t < b→lt (gk zs t) (gk zs mid)=false:=fun t h1 h2=>by
  obtain ⟨j,j1,j2,j3⟩:=k.inn t (by omega) h2
  rw [j3,k.out mid (by omega)];exact p.hi j (by omega) j2
 refine ⟨fun ws k2 s2=>h ws ((p.seg.trans (k.mono (by omega) (Nat.le_refl _))).trans (k2.mono (Nat.le_refl _) (by omega))) fun i j h1 h2 h3 => ?_,fun h0 i h1 h2 => ?_⟩
 ·have hle : ∀ t,a ≤ t→t < mid→lt (gk zs mid) (gk ws t)=false:=fun t q1 q2=>by
   obtain ⟨j,j1,j2,j3⟩:=k2.inn t q1 q2
   rw [j3];exact O.asym _ _ (hlo j j1 j2)
  by_cases e1 : j < mid
  ·exact s2 i j h1 h2 e1
  ·by_cases e2 : mid < i
   ·rw [k2.out i (by omega),k2.out j (by omega)];exact s i j (by omega) h2 h3
   ·by_cases e3 : i=mid
    ·rw [e3,k2.out mid (by omega),k2.out j (by omega)]
     exact hhi j (by omega) h3
    ·have hl:=hle i h1 (by omega)
     by_cases e4 : j=mid
     ·rw [e4,k2.out mid (by omega)];exact hl
     ·rw [k2.out j (by omega)]
      exact O.trans _ _ _ hl (hhi j (by omega) h3)
 ·have:=(hL.seg p.seg) h0 i h1 (by omega)
  rw [k.out i (by omega),k.out (a - 1) (by omega)]
  exact this
theorem Rest.equal {A B a b i j : Nat} {xs0 xs ys : List α} (O : OrdK lt) (h : Rest lt A B xs0 xs a b) (hL : Low lt xs a b) (h0 : 0 < a) (p : PeI lt xs a b i j ys) (hij : j < i) (hp : lt (gk xs (a - 1)) (gk xs a)=false) : Rest lt A B xs0 ys i b∧Low lt ys i b∧a < i∧i ≤ b:=by
 have hr:=p.rng
 have hle : ∀ t,a ≤ t→t < i→lt (gk xs a) (gk ys t)=false:=fun t h1 h2=>by
  by_cases e : t=a
  ·rw [e,p.piv]
   cases e2 : lt (gk xs a) (gk xs a) with
   | false=>rfl
   | true=>have:=O.asym _ _ e2;rw [e2] at this;exact this
  ·exact p.lo t (by omega) h2
 have hge : ∀ t,a ≤ t→t < b→lt (gk ys t) (gk xs a)=false:=fun t h1 h2=>by
  have h3:=(hL.seg p.seg) h0 t h1 h2
  rw [p.seg.out (a - 1) (by omega)] at h3
  exact O.trans _ _ _ hp h3
 refine ⟨fun ws k2 s2=>h ws (p.seg.trans (k2.mono (by omega) (Nat.le_refl _))) fun s t h1 h2 h3 => ?_,fun _ t h1 h2 => ?_,by omega,by omega⟩
 ·by_cases e1 : i ≤ s
  ·exact s2 s t e1 h2 h3
  ·rw [k2.out s (by omega)]
   have a1:=hle s h1 (by omega)
   by_cases e2 : t < i
   ·rw [k2.out t (by omega)]
    exact O.trans _ _ _ a1 (hge t (by omega) h3)
   ·obtain ⟨q,q1,q2,q3⟩:=k2.inn t (by omega) h3
    rw [q3]
    exact O.trans _ _ _ a1 (hge q (by omega) q2)
 ·exact O.trans _ _ _ (hle (i - 1) (by omega) (by omega)) (hge t (by omega) h2)
end
end Go.Sep
set_option linter.unusedVariables false
set_option linter.unusedSimpArgs false
namespace Go.Sep
section
variable {P : Program} {ops : Array Oper} {Q Q' : Exit→Act→World→Prop} {Inv : Act→Prop} {md : Region.Mode}
end
def forgetQ (ρ0 : Env) (Q : EPost) : EPost
 | .panic c,_,D,m,L=>Q (.panic c) ρ0 D m L
 | e, ρ,D,m,L=>Q e ρ D m L
theorem Calm.forget {ρ0 : Env} {Q : EPost} : Calm (forgetQ ρ0 Q):=fun _ _ _ _ _ h=>h
section
variable {P : Program} {N : Nat} {ρ : Env} {D : List Deferred} {m : Mem} {L : List Item} {Q : EPost} {ops : List Oper}
end
end Go.Sep
set_option linter.unusedVariables false
set_option linter.unusedSimpArgs false
namespace Go.Sep
open Go.Proofs
attribute [local irreducible] TC TO OT TCallX TCall DO DOt thenQ blockQ retQ At
structure Ch where
 nm : Str
 tx : Str
instance : Inhabited Ch:=⟨⟨[],[]⟩⟩
instance : DecidableEq Ch:=fun a b=>match a,b with
 | ⟨n,t⟩,⟨n',t'⟩=>decidable_of_iff (n=n' ∧ t=t') (by simp)
@[reducible] def chV (x : Ch) : Value := .agg ⟨[strV x.nm,strV x.tx]⟩
def rCh : R Ch Ch:=⟨2,32,fun x=>[strV x.nm,strV x.tx],fun _ h a=>h=a,fun _=>rfl,fun _=>rfl,fun _ h=>h⟩
abbrev bl:=Op.bytesLess
theorem bl_irr : ∀ x : Str,bl x x=false
 | []=>rfl
 | a :: x=>by simp [bl,Op.bytesLess,UInt8.lt_irrefl,bl_irr x]
theorem bl_asymm : ∀ {x y : Str},bl x y=true→bl y x=false
 | _,[],h=>by simp [bl,Op.bytesLess] at h
 | [],_ :: _,_=>rfl
 | a :: x,b :: y,h=>by
  simp only [bl,Op.bytesLess,Bool.or_eq_true,Bool.and_eq_true,decide_eq_true_eq,beq_iff_eq,Bool.or_eq_false_iff,decide_eq_false_iff_not] at h ⊢
  rcases h with h | ⟨rfl,h⟩
  ·refine ⟨fun h2=>absurd (UInt8.lt_trans h h2) (UInt8.lt_irrefl _), ?_⟩
   have : (b == a)=false:=by
    rw [beq_eq_false_iff_ne];rintro rfl;exact absurd h (UInt8.lt_irrefl _)
   simp [this]
  ·refine ⟨UInt8.lt_irrefl _, ?_⟩
   simp [bl_asymm h]
theorem bl_tri : ∀ {x y : Str},bl x y=false→bl y x=false→x=y
 | [],[],_,_=>rfl
 | [],_ :: _,h,_=>by simp [bl,Op.bytesLess] at h
 | _ :: _,[],_,h=>by simp [bl,Op.bytesLess] at h
 | a :: x,b :: y,h1,h2=>by
  simp only [bl,Op.bytesLess,Bool.or_eq_false_iff,decide_eq_false_iff_not] at h1 h2
  have e : a=b:=UInt8.le_antisymm (UInt8.not_lt.1 h2.1) (UInt8.not_lt.1 h1.1)
  subst e
  have h3:=h1.2
  have h4:=h2.2
  simp only [beq_self_eq_true,Bool.true_and] at h3 h4
  rw [bl_tri h3 h4]
theorem bl_trans : ∀ {x y z : Str},bl x y=true→bl y z=true→bl x z=true
 | _,_,[],_,h=>by simp [bl,Op.bytesLess] at h
 | [],_,_ :: _,_,_=>rfl
 | _ :: _,[],_ :: _,h,_=>by simp [bl,Op.bytesLess] at h
 | a :: x,b :: y,c :: z,h1,h2=>by
  simp only [bl,Op.bytesLess,Bool.or_eq_true,Bool.and_eq_true,decide_eq_true_eq,beq_iff_eq] at h1 h2 ⊢
  rcases h1 with h1 | ⟨rfl,h1⟩
  ·rcases h2 with h2 | ⟨rfl,h2⟩
   ·exact .inl (UInt8.lt_trans h1 h2)
   ·exact .inl h1
  ·rcases h2 with h2 | ⟨rfl,h2⟩
   ·exact .inl h2
   ·exact .inr ⟨rfl,bl_trans h1 h2⟩
def ltC (a b : Ch) : Bool:=bl a.nm b.nm
theorem ltC_irr (a : Ch) : ltC a a=false:=bl_irr _
theorem ltC_ord : OrdK ltC:=by
 constructor
 ·intro a b h
  exact bl_asymm h
 ·intro a b c h1 h2
  simp only [ltC] at h1 h2 ⊢
  cases h : bl c.nm a.nm with
  | false=>rfl
  | true =>
   cases h3 : bl a.nm b.nm with
   | true=>rw [bl_trans h h3] at h2;cases h2
   | false=>rw [bl_tri h3 h1] at h;rw [h] at h2;cases h2
def cmpS (x y : Str) : Int:=if bl x y then -1 else if !(bl x y || decide (x=y)) then 1 else 0
def cmpC (a b : Ch) : Int:=cmpS a.nm b.nm
theorem ch_dec (a b : Ch) : decide (cmpC a b < 0)=ltC a b:=by
 unfold cmpC cmpS ltC
 cases bl a.nm b.nm with
 | true=>rfl
 | false=>by_cases h : a.nm=b.nm <;> simp [h]
def byOk (x : Ch) : Prop:=True
def DomC (xs : List Ch) : Prop := ∀ x ∈ xs,byOk x
theorem DomC.all (xs : List Ch) : DomC xs:=fun _ _=>trivial
theorem DomC.gk {xs : List Ch} (h : DomC xs) {k : Nat} (hk : k < xs.length) : byOk (gk xs k):=h _ (List.mem_of_getElem? (gk_get hk))
theorem DomC.perm {xs ys : List Ch} (h : DomC xs) (p : ys.Perm xs) : DomC ys:=fun x hx=>h x (p.mem_iff.1 hx)
theorem nanS_law (m : Mem) (L : List Item) (x : Str) : TCall Tryz.prog 83 ⟨[strV x]⟩ m L (Ret (.bool false) m L):=by
 unfold TCall
 refine TCallX.enter Tryz.func83 rfl 6 rfl ?_
 refine uA ?_
 refine retQ_ret rfl uS ⟨rfl,rfl, ?_⟩
 simp
theorem compareS_law (m : Mem) (L : List Item) (x y : Str) : TCall Tryz.prog 44 ⟨[strV x,strV y]⟩ m L (Ret (.int .i64 (cmpS x y)) m L):=by
 unfold TCall
 refine TCallX.enter Tryz.func44 rfl 20 rfl ?_
 refine uA ?_
 refine TO.step rfl (OT.call rfl rfl rfl rfl rfl rfl goes83 ((nanS_law m L x).x ?_));
 rintro _ _ _ ⟨rfl,rfl,rfl⟩
 refine uA ?_
 refine TO.step rfl (OT.call rfl rfl rfl rfl rfl rfl goes83 ((nanS_law m L y).x ?_));
 rintro _ _ _ ⟨rfl,rfl,rfl⟩
 refine uA ?_
 cases h1 : Op.bytesLess x y with
 | true =>
  refine uA ?_
  refine retQ_ret rfl uS ⟨rfl,rfl, ?_⟩
  simp [cmpS,bl,h1]
 | false =>
  refine uA ?_
  cases h2 : !(Op.bytesLess x y || decide (x=y)) with
  | true =>
   refine uA ?_
   refine retQ_ret rfl uS ⟨rfl,rfl, ?_⟩
   simp only [cmpS,bl]
   rw [h2,h1];rfl
  | false =>
   refine uA ?_
   refine retQ_ret rfl uS ⟨rfl,rfl, ?_⟩
   simp only [cmpS,bl]
   rw [h2,h1];rfl
theorem chcmp_law (m : Mem) (L : List Item) (x y : Ch) (hx : byOk x) (hy : byOk y) : TCall Tryz.prog 43 ⟨[chV x,chV y]⟩ m L (Ret (.int .i64 (cmpC x y)) m L):=by
 unfold TCall
 refine TCallX.enter Tryz.func43 rfl 10 rfl ?_
 refine uA ?_
 refine TO.step rfl (OT.box rfl rfl rfl rfl rfl (fun bx => ?_))
 refine TO.step rfl (OT.box rfl rfl rfl rfl rfl (fun by1 => ?_))
 refine uA ?_
 refine uM ?_
 refine uA ?_
 refine uM ?_
 refine uA ?_
 refine TO.step rfl (OT.call rfl rfl rfl rfl rfl rfl goes44 ((compareS_law _ _ x.nm y.nm).x ?_));
 rintro _ _ _ ⟨rfl,rfl,rfl⟩
 refine uA ?_
 refine retQ_ret rfl uS ⟨rfl,rfl, ?_⟩
 rfl
@[reducible] def chR (bd : Nat) (xs : List Ch) : Item := .cells bd 0 (encs rCh xs)
@[reducible] def chF : Value := .func (.func 43) ⟨[]⟩ ⟨[]⟩
end Go.Sep
set_option linter.unusedVariables false
set_option linter.unusedSimpArgs false
namespace Go.Sep
def sumD (l : List Ch) : Nat:=(l.map fun x=>x.tx.length + 1).sum
def joinD (l : List Ch) : Str:=(l.map fun x=>x.tx++[10]).flatten
def begT (l : List Ch) (k : Nat) : List Int:=(List.range k).map fun i=>((sumD (l.take i) : Nat) : Int)
def begD (l : List Ch) : List Int:=begT l l.length
theorem begT_succ (l : List Ch) (k : Nat) : begT l (k + 1)=begT l k++[((sumD (l.take k) : Nat) : Int)]:=by
 simp [begT,List.range_succ]
def Nam (l : List Ch) : Prop:=(l.map Ch.nm).Nodup
instance (l : List Ch) : Decidable (Nam l):=inferInstanceAs (Decidable (l.map Ch.nm).Nodup)
def errD (l : List Ch) : Int:=if 64 < l.length then 4 else if l.any (fun x => !isName x.nm)=true then 1 else if ¬ Nam l then 5 else if 65536 < sumD l then 13 else 0
def insF (x : Ch) : List Ch→List Ch
 | []=>[x]
 | y :: l=>if bl x.nm y.nm then x :: y :: l else y :: insF x l
def ordF : List Ch→List Ch
 | []=>[]
 | x :: l=>insF x (ordF l)
theorem sumD_app (a b : List Ch) : sumD (a++b)=sumD a + sumD b:=by simp [sumD]
theorem sumD_perm {a b : List Ch} (h : a.Perm b) : sumD a=sumD b:=by
 unfold sumD
 exact (h.map _).sum_nat
theorem joinD_app (a b : List Ch) : joinD (a++b)=joinD a++joinD b:=by simp [joinD]
theorem joinD_len : ∀ l : List Ch,(joinD l).length=sumD l
 | []=>rfl
 | x :: l=>by
  have:=joinD_len l
  simp only [joinD,sumD,List.map_cons,List.flatten_cons,List.length_append,List.sum_cons,List.length_cons,List.length_nil] at this ⊢
  omega
theorem take_next {l : List Ch} {k : Nat} (h : k < l.length) : l.take (k + 1)=l.take k++[gk l k]:=by
 rw [List.take_add_one,gk_get h]
 rfl
theorem sumD_next {l : List Ch} {k : Nat} (h : k < l.length) : sumD (l.take (k + 1))=sumD (l.take k) + ((gk l k).tx.length + 1):=by
 rw [take_next h,sumD_app];simp [sumD]
theorem joinD_next {l : List Ch} {k : Nat} (h : k < l.length) : joinD (l.take (k + 1))=joinD (l.take k)++((gk l k).tx++[10]):=by
 rw [take_next h,joinD_app];simp [joinD]
theorem sumD_le (l : List Ch) (k : Nat) : sumD (l.take k) ≤ sumD l:=by
 have:=sumD_app (l.take k) (l.drop k)
 rw [List.take_append_drop] at this
 omega
theorem Nam.perm {a b : List Ch} (h : a.Perm b) : Nam a ↔ Nam b:=(h.map _).nodup_iff
def Str.Sorted (l : List Ch) : Prop:=l.Pairwise fun a b=>bl a.nm b.nm=true
theorem insF_perm (x : Ch) : ∀ l,(insF x l).Perm (x :: l)
 | [] => .refl _
 | y :: l=>by
  unfold insF
  split
  ·exact .refl _
  ·exact ((insF_perm x l).cons y).trans (.swap _ _ _)
theorem ordF_perm : ∀ l,(ordF l).Perm l
 | [] => .refl _
 | x :: l=>(insF_perm x _).trans ((ordF_perm l).cons x)
theorem insF_sorted (x : Ch) : ∀ l : List Ch,Str.Sorted l→(∀ y ∈ l,x.nm ≠ y.nm)→Str.Sorted (insF x l)
 | [],_,_=>by simp [insF,Str.Sorted]
 | y :: l,h,hn=>by
  unfold insF
  have h1:=List.pairwise_cons.1 h
  split
  ·rename_i hlt
   refine List.pairwise_cons.2 ⟨fun z hz => ?_,h⟩
   rcases List.mem_cons.1 hz with rfl | hz
   ·exact hlt
   ·exact bl_trans hlt (h1.1 z hz)
  ·rename_i hlt
   have hyx : bl y.nm x.nm=true:=by
    cases hb : bl y.nm x.nm with
    | true=>rfl
    | false=>exact absurd (bl_tri (by simpa using hlt) hb) (hn y (by simp))
   refine List.pairwise_cons.2 ⟨fun z hz => ?_,insF_sorted x l h1.2 fun z hz=>hn z (by simp [hz])⟩
   rcases List.mem_cons.1 ((insF_perm x l).mem_iff.1 hz) with rfl | hz
   ·exact hyx
   ·exact h1.1 z hz
theorem ordF_sorted : ∀ l : List Ch,Nam l→Str.Sorted (ordF l)
 | [],_=>List.Pairwise.nil
 | x :: l,h=>by
  have h1:=List.nodup_cons.1 h
  refine insF_sorted x _ (ordF_sorted l h1.2) fun y hy e=>h1.1 ?_
  rw [e]
  exact List.mem_map_of_mem ((ordF_perm l).mem_iff.1 hy)
theorem sorted_uniq : ∀ {a b : List Ch},Str.Sorted a→Str.Sorted b→a.Perm b→a=b
 | [],b,_,_,h=>(List.nil_perm.1 h).symm ▸ rfl
 | x :: a,[],_,_,h=>by cases (List.perm_nil.1 h)
 | x :: a,y :: b,ha,hb,h=>by
  have h1:=List.pairwise_cons.1 ha
  have h2:=List.pairwise_cons.1 hb
  have e : x=y:=by
   rcases List.mem_cons.1 (h.mem_iff.1 (List.mem_cons_self : x ∈ x :: a)) with e | hx
   ·exact e
   ·rcases List.mem_cons.1 (h.mem_iff.2 (List.mem_cons_self : y ∈ y :: b)) with e | hy
    ·exact e.symm
    ·have:=bl_asymm (h1.1 y hy)
     rw [h2.1 x hx] at this;cases this
  subst e
  rw [sorted_uniq h1.2 h2.2 ((List.perm_cons x).1 h)]
theorem sorted_of {ys : List Ch} (hs : Sn ltC ys 0 ys.length) (hd : ∀ i,0 < i→i < ys.length→(gk ys i).nm ≠ (gk ys (i - 1)).nm) : Str.Sorted ys:=by
 have hstep : ∀ i,0 < i→i < ys.length→bl (gk ys (i - 1)).nm (gk ys i).nm=true:=by
  intro i h0 hi
  have h1:=hs (i - 1) i (Nat.zero_le _) (by omega) hi
  cases hb : bl (gk ys (i - 1)).nm (gk ys i).nm with
  | true=>rfl
  | false=>exact absurd (bl_tri h1 hb) (hd i h0 hi)
 have hall : ∀ d i,i + d + 1 < ys.length→bl (gk ys i).nm (gk ys (i + d + 1)).nm=true:=by
  intro d
  induction d with
  | zero=>intro i hi;exact hstep (i + 1) (by omega) hi
  | succ d ih =>
   intro i hi
   exact bl_trans (ih i (by omega)) (hstep (i + (d + 1) + 1) (by omega) hi)
 refine List.pairwise_iff_getElem.2 fun i j hi hj hij => ?_
 have h1:=hall (j - i - 1) i (by omega)
 rw [show i + (j - i - 1) + 1=j by omega] at h1
 have e : ∀ k (hk : k < ys.length),gk ys k=ys[k]:=fun k hk=>Option.some.inj ((gk_get hk).symm.trans (by simp [hk]))
 rw [e i hi,e j hj] at h1
 exact h1
theorem Str.Sorted.nam {ys : List Ch} (h : Str.Sorted ys) : Nam ys:=by
 unfold Nam
 refine List.pairwise_map.2 (List.Pairwise.imp (fun {a b} hab e => ?_) h)
 rw [e] at hab
 rw [bl_irr] at hab;cases hab
theorem sorted_ord {ys l : List Ch} (hp : ys.Perm l) (h : Str.Sorted ys) : ys=ordF l :=
 sorted_uniq h (ordF_sorted l ((Nam.perm hp).1 h.nam)) (hp.trans (ordF_perm l).symm)
theorem not_nam {ys l : List Ch} (hp : ys.Perm l) {k : Nat} (h0 : 0 < k) (hk : k < ys.length) (e : (gk ys k).nm=(gk ys (k - 1)).nm) : ¬ Nam l:=fun hn=>by
 have h1:=(Nam.perm hp).2 hn
 have h2:=List.pairwise_iff_getElem.1 h1 (k - 1) k (by simp;omega) (by simp;omega) (by omega)
 have e' : ∀ k (hk : k < ys.length),gk ys k=ys[k]:=fun k hk=>Option.some.inj ((gk_get hk).symm.trans (by simp [hk]))
 rw [e' k hk,e' (k - 1) (by omega)] at e
 exact h2 (by simp [e])
end Go.Sep
set_option linter.unusedVariables false
set_option linter.unusedSimpArgs false
namespace Go.Sep
open Go.Proofs
attribute [local irreducible] TC TO OT TCallX TCall DO DOt thenQ blockQ retQ At
set_option maxHeartbeats 1000000 in
theorem insort_ch (m : Mem) (L : List Item) (bd c a b : Nat) (xs : List Ch) (hD : DomC xs) (hab : a ≤ b) (hl : b ≤ xs.length) (hlim : xs.length ≤ 1000000) :
  TCall Tryz.prog 135 ⟨[.slice (some ⟨bd,0,none⟩) xs.length c, .int .i64 (a : Int), .int .i64 (b : Int),chF]⟩ m (chR bd xs :: L) (fun r m' L'=>m=m' ∧ ∃ ys,Sg a b xs ys∧Sn ltC ys a b∧chR bd ys :: L=L'):=by
 unfold TCall
 refine TCallX.enter Tryz.func135 rfl 53 rfl ?_
 refine uA ?_
 refine TO.step rfl (OT.arith (r':=((a + 1 : Nat) : Int)) rfl rfl rfl rfl rfl rfl rfl (by omega) ?_)
 refine uA ?_
 refine TC.loopK (ι:=Nat × List Ch) [0,1,2,3] rfl (fun x=>[(8, .int .i64 (x.1 : Int))]) (fun _=>m) (fun x=>chR bd x.2 :: L) (fun x=>a + 1 ≤ x.1∧(a < b→x.1 ≤ b)∧Sg a b xs x.2∧(a < b→Sn ltC x.2 a x.1)) (fun x=>b + 1 - x.1) (a + 1,xs) uH rfl uS ⟨Nat.le_refl _,fun h=>by simp only;omega,Sg.refl _ _ _,fun _ i j h1 h2 h3=>by simp only at h3;omega⟩ ?_
 rintro ⟨i,ys⟩ ⟨hi1,hi3,hS,hO⟩
 simp only at hi1 hi3 hS hO ⊢
 have hyl:=hS.len
 refine uA ?_
 refine TC.condP rfl (fun hlt' => ?_) (fun hlt' => ?_)
 ·have hlt : i < b:=by omega
  have hO:=hO (by omega)
  refine uA ?_
  refine TC.loopK (ι:=Nat × List Ch) [0,1,2,3,8] rfl (fun x=>[(9, .int .i64 (x.1 : Int))]) (fun _=>m) (fun x=>chR bd x.2 :: L) (fun x=>CaI ltC ys a i x.1 x.2) (fun x=>x.1) (i,ys) uH rfl uS (CaI.start (by omega)) ?_
  rintro ⟨j,zs⟩ hJ
  simp only at hJ ⊢
  have hzl:=hJ.seg.len
  have hjl:=hJ.le
  have hD : DomC zs:=(hD.perm hS.perm).perm hJ.seg.perm
  refine uA ?_
  refine TC.draw [] mixed 17 rfl [chR bd zs] L uP ?_
  refine DO.pure tab uC (by kernel_rfl) [0,1,2,3] (by kernel_rfl) rfl ?_
  (refine DO.splitP (d:=21) rfl (fun hg3 => ?_) (fun hg3 => ?_))
  refine DO.pure tab uC (by kernel_rfl) [4,5,6] (by kernel_rfl) rfl ?_
  refine DO.indexP (sz:=2) tab 7 j uC (by kernel_rfl) (by kernel_rfl) rfl rfl rfl rfl rfl rfl rfl rfl rfl (by omega) ?_
  refine DO.loadE (jj:=0) tab 8 0 rCh (gk_get (xs:=zs) (k:=j) (by omega)) (by simp only [rCh];omega) (fun _=>rfl) uC (by kernel_rfl) (by kernel_rfl) rfl rfl rfl rfl rfl rfl rfl ?_
  refine DO.pure tab uC (by kernel_rfl) [9,10] (by kernel_rfl) rfl ?_
  refine DO.arith 11 (r':=(((j - 1) : Nat) : Int)) uC (by kernel_rfl) (by kernel_rfl) rfl rfl rfl rfl rfl rfl rfl rfl (by first | rfl | omega | (simp only;omega)) (by omega) ?_
  refine DO.indexP (sz:=2) tab 12 (j - 1) uC (by kernel_rfl) (by kernel_rfl) rfl rfl rfl rfl rfl rfl rfl rfl rfl (by omega) ?_
  refine DO.loadE (jj:=0) tab 13 0 rCh (gk_get (xs:=zs) (k:=(j - 1)) (by omega)) (by simp only [rCh];omega) (fun _=>rfl) uC (by kernel_rfl) (by kernel_rfl) rfl rfl rfl rfl rfl rfl rfl ?_
  refine DO.run 14 rfl rfl (by kernel_rfl) rfl (OT.call rfl rfl rfl rfl rfl rfl goes43 ((chcmp_law m _ (gk zs j) (gk zs (j - 1)) (hD.gk (by omega)) (hD.gk (by omega))).x ?_))
  rintro _ _ _ ⟨rfl,rfl,rfl⟩;refine ⟨Mem.le_refl _,_,List.Perm.refl _, ?_⟩
  refine DO.pure tab uC (by kernel_rfl) [15,16] (by kernel_rfl) rfl ?_
  (refine DO.nil (by kernel_rfl) ?_)
  rotate_left 1
  refine DO.pure tab uC (by kernel_rfl) [4,5,6,7,8,9,10,11,12,13,14,15,16] (by kernel_rfl) rfl ?_
  (refine DO.nil (by kernel_rfl) ?_)
  rotate_left 1
  ·refine uA ?_
   simp only [ch_dec]
   cases hc : ltC (gk zs j) (gk zs (j - 1)) with
   | true =>
    refine uA ?_
    refine TC.draw [15,16,17] mixed 18 rfl [chR bd zs] L uP ?_
    refine DO.pure tab uC (by kernel_rfl) [0,1,2,3] (by kernel_rfl) rfl ?_
    refine DO.arith 4 (r':=(((j - 1) : Nat) : Int)) uC (by kernel_rfl) (by kernel_rfl) rfl rfl rfl rfl rfl rfl rfl rfl (by first | rfl | omega | (simp only;omega)) (by omega) ?_
    refine DO.pure tab uC (by kernel_rfl) [5,6] (by kernel_rfl) rfl ?_
    refine DO.arith 7 (r':=(((j - 1) : Nat) : Int)) uC (by kernel_rfl) (by kernel_rfl) rfl rfl rfl rfl rfl rfl rfl rfl (by first | rfl | omega | (simp only;omega)) (by omega) ?_
    refine DO.indexP (sz:=2) tab 8 (j - 1) uC (by kernel_rfl) (by kernel_rfl) rfl rfl rfl rfl rfl rfl rfl rfl rfl (by omega) ?_
    refine DO.loadE (jj:=0) tab 9 0 rCh (gk_get (xs:=zs) (k:=(j - 1)) (by omega)) (by simp only [rCh];omega) (fun _=>rfl) uC (by kernel_rfl) (by kernel_rfl) rfl rfl rfl rfl rfl rfl rfl ?_
    refine DO.pure tab uC (by kernel_rfl) [10,11] (by kernel_rfl) rfl ?_
    refine DO.indexP (sz:=2) tab 12 j uC (by kernel_rfl) (by kernel_rfl) rfl rfl rfl rfl rfl rfl rfl rfl rfl (by omega) ?_
    refine DO.loadE (jj:=0) tab 13 0 rCh (gk_get (xs:=zs) (k:=j) (by omega)) (by simp only [rCh];omega) (fun _=>rfl) uC (by kernel_rfl) (by kernel_rfl) rfl rfl rfl rfl rfl rfl rfl ?_
    refine DO.indexP (sz:=2) tab 14 j uC (by kernel_rfl) (by kernel_rfl) rfl rfl rfl rfl rfl rfl rfl rfl rfl (by omega) ?_
    refine DO.tail ?_
    refine DOt.run 15 rfl rfl (by kernel_rfl) rfl ?_
    refine OT.storeE (h2:=gk zs (j - 1)) tab 0 rCh (gk_get (xs:=zs) (k:=j) (by omega)) (j:=0) (by simp only [rCh];omega) (fun _=>rfl) (Nat.le_refl _) rfl rfl rfl rfl rfl rfl rfl ?_
    refine DOt.run 16 rfl rfl (by kernel_rfl) rfl ?_
    refine OT.indexP (sz:=2) tab (j - 1) rfl rfl rfl rfl rfl rfl rfl (by omega) ?_
    refine DOt.run 17 rfl rfl (by kernel_rfl) rfl ?_
    refine OT.storeE (h2:=gk zs j) (h:=gk (List.set zs j (gk zs (j - 1))) (j - 1)) tab 0 rCh (k:=(j - 1)) (gk_get (by simp;omega)) (j:=0) (by simp only [rCh];omega) (fun _=>rfl) (Nat.le_refl _) rfl rfl rfl rfl rfl rfl rfl ?_
    refine DOt.nil (by kernel_rfl) ?_
    rotate_left 1
    refine uA ?_
    refine TO.step rfl (OT.arith (r':=((j - 1 : Nat) : Int)) rfl rfl rfl rfl rfl rfl (by omega) (by omega) ?_)
    refine uA ?_
    exact ⟨(j - 1,sw zs j (j - 1)),uH,uH,rfl,rfl,uS,hJ.step (by omega) (by omega) hc,by simp only;omega⟩
   | false =>
    have hN:=hJ.done ltC_ord hO (.inr hc)
    refine uA ?_
    refine TO.step rfl (OT.arith (r':=((i + 1 : Nat) : Int)) rfl rfl rfl rfl rfl rfl rfl (by omega) ?_)
    refine uA ?_
    exact ⟨(i + 1,zs),uH,uH,rfl,rfl,uS,⟨by simp only;omega,fun _=>by simp only;omega,hS.trans (hJ.seg.mono (Nat.le_refl _) (by omega)),fun _=>hN⟩,by simp only;omega⟩
  ·have hN:=hJ.done ltC_ord hO (.inl (by omega))
   refine uA ?_
   refine TO.step rfl (OT.arith (r':=((i + 1 : Nat) : Int)) rfl rfl rfl rfl rfl rfl rfl (by omega) ?_)
   refine uA ?_
   exact ⟨(i + 1,zs),uH,uH,rfl,rfl,uS,⟨by simp only;omega,fun _=>by simp only;omega,hS.trans (hJ.seg.mono (Nat.le_refl _) (by omega)),fun _=>hN⟩,by simp only;omega⟩
 ·refine uA ?_
  refine retQ_n rfl (L':=chR bd ys :: L) uS ⟨rfl,ys,hS, ?_,rfl⟩
  by_cases e : a < b
  ·have h1:=hi3 e
   have h2:=hO e
   rw [show i=b by omega] at h2
   exact h2
  ·intro i j h1 h2 h3;omega
theorem reverse_ch (m : Mem) (L : List Item) (bd c a b : Nat) (xs : List Ch) (hab : a < b) (hl : b ≤ xs.length) (hlim : xs.length ≤ 1000000) :
  TCall Tryz.prog 139 ⟨[.slice (some ⟨bd,0,none⟩) xs.length c, .int .i64 (a : Int), .int .i64 (b : Int),chF]⟩ m (chR bd xs :: L) (fun r m' L'=>m=m' ∧ ∃ ys,Sg a b xs ys∧chR bd ys :: L=L'):=by
 unfold TCall
 refine TCallX.enter Tryz.func139 rfl 34 rfl ?_
 refine uA ?_
 refine TO.step rfl (OT.arith (r':=((b - 1 : Nat) : Int)) rfl rfl rfl rfl rfl rfl (by omega) (by omega) ?_)
 refine uA ?_
 refine TC.loopK (ι:=Nat × Nat × List Ch) [0] rfl (fun x=>[(8, .int .i64 (x.1 : Int)),(9, .int .i64 (x.2.1 : Int))]) (fun _=>m) (fun x=>chR bd x.2.2 :: L) (fun x=>a ≤ x.1∧x.2.1 < b∧Sg a b xs x.2.2) (fun x=>x.2.1 - x.1) (a,b - 1,xs) uH rfl uS ⟨Nat.le_refl _,by simp only;omega,Sg.refl _ _ _⟩ ?_
 rintro ⟨i,j,ys⟩ ⟨h1,h2,hS⟩
 simp only at h1 h2 hS ⊢
 have hyl:=hS.len
 refine uA ?_
 refine TC.condP rfl (fun hlt => ?_) (fun hlt => ?_)
 ·refine uA ?_
  refine TC.draw [13,14,15] mixed 16 rfl [chR bd ys] L uP ?_
  refine DO.pure tab uC (by kernel_rfl) [0,1,2,3,4,5] (by kernel_rfl) rfl ?_
  refine DO.indexP (sz:=2) tab 6 j uC (by kernel_rfl) (by kernel_rfl) rfl rfl rfl rfl rfl rfl rfl rfl rfl (by omega) ?_
  refine DO.loadE (jj:=0) tab 7 0 rCh (gk_get (xs:=ys) (k:=j) (by omega)) (by simp only [rCh];omega) (fun _=>rfl) uC (by kernel_rfl) (by kernel_rfl) rfl rfl rfl rfl rfl rfl rfl ?_
  refine DO.pure tab uC (by kernel_rfl) [8,9] (by kernel_rfl) rfl ?_
  refine DO.indexP (sz:=2) tab 10 i uC (by kernel_rfl) (by kernel_rfl) rfl rfl rfl rfl rfl rfl rfl rfl rfl (by omega) ?_
  refine DO.loadE (jj:=0) tab 11 0 rCh (gk_get (xs:=ys) (k:=i) (by omega)) (by simp only [rCh];omega) (fun _=>rfl) uC (by kernel_rfl) (by kernel_rfl) rfl rfl rfl rfl rfl rfl rfl ?_
  refine DO.indexP (sz:=2) tab 12 i uC (by kernel_rfl) (by kernel_rfl) rfl rfl rfl rfl rfl rfl rfl rfl rfl (by omega) ?_
  refine DO.tail ?_
  refine DOt.run 13 rfl rfl (by kernel_rfl) rfl ?_
  refine OT.storeE (h2:=gk ys j) tab 0 rCh (gk_get (xs:=ys) (k:=i) (by omega)) (j:=0) (by simp only [rCh];omega) (fun _=>rfl) (Nat.le_refl _) rfl rfl rfl rfl rfl rfl rfl ?_
  refine DOt.run 14 rfl rfl (by kernel_rfl) rfl ?_
  refine OT.indexP (sz:=2) tab j rfl rfl rfl rfl rfl rfl rfl (by omega) ?_
  refine DOt.run 15 rfl rfl (by kernel_rfl) rfl ?_
  refine OT.storeE (h2:=gk ys i) (h:=gk (List.set ys i (gk ys j)) j) tab 0 rCh (k:=j) (gk_get (by simp;omega)) (j:=0) (by simp only [rCh];omega) (fun _=>rfl) (Nat.le_refl _) rfl rfl rfl rfl rfl rfl rfl ?_
  refine DOt.nil (by kernel_rfl) ?_
  rotate_left 1
  refine uA ?_
  refine TO.step rfl (OT.arith (r':=((i + 1 : Nat) : Int)) rfl rfl rfl rfl rfl rfl rfl (by omega) ?_)
  refine uA ?_
  refine TO.step rfl (OT.arith (r':=((j - 1 : Nat) : Int)) rfl rfl rfl rfl rfl rfl (by omega) (by omega) ?_)
  refine uA ?_
  exact ⟨(i + 1,j - 1,sw ys i j),uH,uH,rfl,rfl,uS,⟨by simp only;omega,by simp only;omega,hS.trans (Sg.sw (by omega) (by omega) (by omega))⟩,by simp only;omega⟩
 ·refine uA ?_
  refine retQ_n rfl (L':=chR bd ys :: L) uS ⟨rfl,ys,hS,rfl⟩
end Go.Sep
set_option linter.unusedVariables false
set_option linter.unusedSimpArgs false
namespace Go.Sep
open Go.Proofs
attribute [local irreducible] TC TO OT TCallX TCall DO DOt thenQ blockQ retQ At
set_option maxHeartbeats 2000000 in
theorem sift_ch (m : Mem) (L : List Item) (bd c lo hi f : Nat) (xs : List Ch) (hD : DomC xs) (hlh : lo ≤ hi) (hl : f + hi ≤ xs.length) (hlim : xs.length ≤ 1000000) (hdi : DI (gtL ltC) (xs.drop f) hi lo lo) :
  TCall Tryz.prog 208 ⟨[.slice (some ⟨bd,0,none⟩) xs.length c, .int .i64 (lo : Int), .int .i64 (hi : Int), .int .i64 (f : Int),chF]⟩ m (chR bd xs :: L) (fun r m' L'=>m=m' ∧ ∃ ys,Sg f (f + hi) xs ys∧HF (gtL ltC) (ys.drop f) hi lo∧chR bd ys :: L=L'):=by
 unfold TCall
 refine TCallX.enter Tryz.func208 rfl 82 rfl ?_
 refine uA ?_
 refine TC.loopK (ι:=Nat × List Ch) [0,2,3,4] rfl (fun x=>[(10, .int .i64 (x.1 : Int))]) (fun _=>m) (fun x=>chR bd x.2 :: L) (fun x=>x.1 ≤ hi∧Sg f (f + hi) xs x.2∧DI (gtL ltC) (x.2.drop f) hi lo x.1∧lo ≤ x.1) (fun x=>hi - x.1) (lo,xs) uH rfl uS ⟨hlh,Sg.refl _ _ _,hdi,Nat.le_refl _⟩ ?_
 rintro ⟨i,ys⟩ ⟨hi',hS,hd,hlo⟩
 simp only at hi' hS hd hlo ⊢
 have hyl:=hS.len
 have hD : DomC ys:=hD.perm hS.perm
 refine uA ?_
 refine TO.step rfl (OT.arith (r':=((2 * i : Nat) : Int)) rfl rfl rfl rfl rfl rfl (by omega) (by omega) ?_)
 refine TO.step rfl (OT.arith (r':=(((2*i) + 1 : Nat) : Int)) rfl rfl rfl rfl rfl rfl rfl (by omega) ?_)
 refine uA ?_
 refine TC.condP rfl (fun hg => ?_) (fun hg => ?_)
 ·have hdn:=hd.done0 (by omega)
  refine uA ?_
  refine retQ_n rfl (L':=chR bd ys :: L) uS ⟨rfl,ys,hS,hdn,rfl⟩
 ·refine uA ?_
  refine TC.draw [] mixed 22 rfl [chR bd ys] L uP ?_
  refine DO.pure tab uC (by kernel_rfl) [0] (by kernel_rfl) rfl ?_
  refine DO.arith 1 (r':=((((2 * i + 1) + 1) : Nat) : Int)) uC (by kernel_rfl) (by kernel_rfl) rfl rfl rfl rfl rfl rfl rfl rfl (by first | rfl | omega | (simp only;omega)) (by omega) ?_
  refine DO.pure tab uC (by kernel_rfl) [2,3,4] (by kernel_rfl) rfl ?_
  (refine DO.splitP (d:=23) rfl (fun hg4 => ?_) (fun hg4 => ?_))
  refine DO.pure tab uC (by kernel_rfl) [5,6,7,8] (by kernel_rfl) rfl ?_
  refine DO.arith 9 (r':=(((f + (2 * i + 1)) : Nat) : Int)) uC (by kernel_rfl) (by kernel_rfl) rfl rfl rfl rfl rfl rfl rfl rfl (by first | rfl | omega | (simp only;omega)) (by omega) ?_
  refine DO.indexP (sz:=2) tab 10 (f + (2 * i + 1)) uC (by kernel_rfl) (by kernel_rfl) rfl rfl rfl rfl rfl rfl rfl rfl rfl (by omega) ?_
  refine DO.loadE (jj:=0) tab 11 0 rCh (gk_get (xs:=ys) (k:=(f + (2 * i + 1))) (by omega)) (by simp only [rCh];omega) (fun _=>rfl) uC (by kernel_rfl) (by kernel_rfl) rfl rfl rfl rfl rfl rfl rfl ?_
  refine DO.pure tab uC (by kernel_rfl) [12,13,14] (by kernel_rfl) rfl ?_
  refine DO.arith 15 (r':=(((f + (2 * i + 1)) : Nat) : Int)) uC (by kernel_rfl) (by kernel_rfl) rfl rfl rfl rfl rfl rfl rfl rfl (by first | rfl | omega | (simp only;omega)) (by omega) ?_
  refine DO.arith 16 (r':=((((f + (2 * i + 1)) + 1) : Nat) : Int)) uC (by kernel_rfl) (by kernel_rfl) rfl rfl rfl rfl rfl rfl rfl rfl (by first | rfl | omega | (simp only;omega)) (by omega) ?_
  refine DO.indexP (sz:=2) tab 17 ((f + (2 * i + 1)) + 1) uC (by kernel_rfl) (by kernel_rfl) rfl rfl rfl rfl rfl rfl rfl rfl rfl (by omega) ?_
  refine DO.loadE (jj:=0) tab 18 0 rCh (gk_get (xs:=ys) (k:=((f + (2 * i + 1)) + 1)) (by omega)) (by simp only [rCh];omega) (fun _=>rfl) uC (by kernel_rfl) (by kernel_rfl) rfl rfl rfl rfl rfl rfl rfl ?_
  refine DO.run 19 rfl rfl (by kernel_rfl) rfl (OT.call rfl rfl rfl rfl rfl rfl goes43 ((chcmp_law m _ (gk ys (f + (2 * i + 1))) (gk ys ((f + (2 * i + 1)) + 1)) (hD.gk (by omega)) (hD.gk (by omega))).x ?_))
  rintro _ _ _ ⟨rfl,rfl,rfl⟩;refine ⟨Mem.le_refl _,_,List.Perm.refl _, ?_⟩
  refine DO.pure tab uC (by kernel_rfl) [20,21] (by kernel_rfl) rfl ?_
  (refine DO.nil (by kernel_rfl) ?_)
  rotate_left 1
  refine DO.pure tab uC (by kernel_rfl) [5,6,7,8,9,10,11,12,13,14,15,16,17,18,19,20,21] (by kernel_rfl) rfl ?_
  (refine DO.nil (by kernel_rfl) ?_)
  rotate_left 1
  ·refine uA ?_
   simp only [ch_dec]
   cases hc : ltC (gk ys (f + (2 * i + 1))) (gk ys (f + (2 * i + 1) + 1)) with
   | true =>
    have hsm : ∀ k,0 < k→k < hi→par k=i→gtL ltC (gk (ys.drop f) k) (gk (ys.drop f) (2 * i + 1 + 1))=false:=fun k h1 h2 h3=>by
     rw [gk_drop,gk_drop]
     unfold gtL
     have : k=2 * i + 1 ∨ k=2 * i + 1 + 1:=by unfold par at h3;omega
     rcases this with rfl | rfl
     ·exact ltC_ord.asym _ _ hc
     ·exact ltC_irr _
    refine uA ?_
    refine TO.step rfl (OT.arith (r':=(((2*i+1) + 1 : Nat) : Int)) rfl rfl rfl rfl rfl rfl rfl (by omega) ?_)
    have hJp : par (2 * i + 1 + 1)=i:=by unfold par;omega
    refine uA ?_
    refine TC.draw [] mixed 16 rfl [chR bd ys] L uP ?_
    refine DO.pure tab uC (by kernel_rfl) [0,1,2,3] (by kernel_rfl) rfl ?_
    refine DO.arith 4 (r':=(((f + i) : Nat) : Int)) uC (by kernel_rfl) (by kernel_rfl) rfl rfl rfl rfl rfl rfl rfl rfl (by first | rfl | omega | (simp only;omega)) (by omega) ?_
    refine DO.indexP (sz:=2) tab 5 (f + i) uC (by kernel_rfl) (by kernel_rfl) rfl rfl rfl rfl rfl rfl rfl rfl rfl (by omega) ?_
    refine DO.loadE (jj:=0) tab 6 0 rCh (gk_get (xs:=ys) (k:=(f + i)) (by omega)) (by simp only [rCh];omega) (fun _=>rfl) uC (by kernel_rfl) (by kernel_rfl) rfl rfl rfl rfl rfl rfl rfl ?_
    refine DO.pure tab uC (by kernel_rfl) [7,8,9] (by kernel_rfl) rfl ?_
    refine DO.arith 10 (r':=(((f + (2 * i + 1 + 1)) : Nat) : Int)) uC (by kernel_rfl) (by kernel_rfl) rfl rfl rfl rfl rfl rfl rfl rfl (by first | rfl | omega | (simp only;omega)) (by omega) ?_
    refine DO.indexP (sz:=2) tab 11 (f + (2 * i + 1 + 1)) uC (by kernel_rfl) (by kernel_rfl) rfl rfl rfl rfl rfl rfl rfl rfl rfl (by omega) ?_
    refine DO.loadE (jj:=0) tab 12 0 rCh (gk_get (xs:=ys) (k:=(f + (2 * i + 1 + 1))) (by omega)) (by simp only [rCh];omega) (fun _=>rfl) uC (by kernel_rfl) (by kernel_rfl) rfl rfl rfl rfl rfl rfl rfl ?_
    refine DO.run 13 rfl rfl (by kernel_rfl) rfl (OT.call rfl rfl rfl rfl rfl rfl goes43 ((chcmp_law m _ (gk ys (f + i)) (gk ys (f + (2 * i + 1 + 1))) (hD.gk (by omega)) (hD.gk (by omega))).x ?_))
    rintro _ _ _ ⟨rfl,rfl,rfl⟩;refine ⟨Mem.le_refl _,_,List.Perm.refl _, ?_⟩
    refine DO.pure tab uC (by kernel_rfl) [14,15] (by kernel_rfl) rfl ?_
    (refine DO.nil (by kernel_rfl) ?_)
    rotate_left 1
    refine uA ?_
    simp only [ch_dec]
    cases hl : ltC (gk ys (f + i)) (gk ys (f + (2 * i + 1 + 1))) with
    | false =>
     have hdn:=hd.done (gtL_ord ltC_ord) hsm (by rw [gk_drop,gk_drop];exact hl)
     refine uA ?_
     refine retQ_ret rfl (L':=chR bd ys :: L) uS ⟨rfl,ys,hS,hdn,rfl⟩
    | true =>
     have hst:=hd.step (gtL_ord ltC_ord) (by rw [List.length_drop];omega) hlo (by omega) (by omega) hJp hsm (by rw [gk_drop,gk_drop];exact hl)
     rw [← sw_dropf] at hst
     refine uA ?_
     refine TC.draw [21,22,23] mixed 24 rfl [chR bd ys] L uP ?_
     refine DO.pure tab uC (by kernel_rfl) [0,1,2] (by kernel_rfl) rfl ?_
     refine DO.arith 3 (r':=(((f + i) : Nat) : Int)) uC (by kernel_rfl) (by kernel_rfl) rfl rfl rfl rfl rfl rfl rfl rfl (by first | rfl | omega | (simp only;omega)) (by omega) ?_
     refine DO.pure tab uC (by kernel_rfl) [4,5,6] (by kernel_rfl) rfl ?_
     refine DO.arith 7 (r':=(((f + (2 * i + 1 + 1)) : Nat) : Int)) uC (by kernel_rfl) (by kernel_rfl) rfl rfl rfl rfl rfl rfl rfl rfl (by first | rfl | omega | (simp only;omega)) (by omega) ?_
     refine DO.pure tab uC (by kernel_rfl) [8,9,10] (by kernel_rfl) rfl ?_
     refine DO.arith 11 (r':=(((f + (2 * i + 1 + 1)) : Nat) : Int)) uC (by kernel_rfl) (by kernel_rfl) rfl rfl rfl rfl rfl rfl rfl rfl (by first | rfl | omega | (simp only;omega)) (by omega) ?_
     refine DO.indexP (sz:=2) tab 12 (f + (2 * i + 1 + 1)) uC (by kernel_rfl) (by kernel_rfl) rfl rfl rfl rfl rfl rfl rfl rfl rfl (by omega) ?_
     refine DO.loadE (jj:=0) tab 13 0 rCh (gk_get (xs:=ys) (k:=(f + (2 * i + 1 + 1))) (by omega)) (by simp only [rCh];omega) (fun _=>rfl) uC (by kernel_rfl) (by kernel_rfl) rfl rfl rfl rfl rfl rfl rfl ?_
     refine DO.pure tab uC (by kernel_rfl) [14,15,16] (by kernel_rfl) rfl ?_
     refine DO.arith 17 (r':=(((f + i) : Nat) : Int)) uC (by kernel_rfl) (by kernel_rfl) rfl rfl rfl rfl rfl rfl rfl rfl (by first | rfl | omega | (simp only;omega)) (by omega) ?_
     refine DO.indexP (sz:=2) tab 18 (f + i) uC (by kernel_rfl) (by kernel_rfl) rfl rfl rfl rfl rfl rfl rfl rfl rfl (by omega) ?_
     refine DO.loadE (jj:=0) tab 19 0 rCh (gk_get (xs:=ys) (k:=(f + i)) (by omega)) (by simp only [rCh];omega) (fun _=>rfl) uC (by kernel_rfl) (by kernel_rfl) rfl rfl rfl rfl rfl rfl rfl ?_
     refine DO.indexP (sz:=2) tab 20 (f + i) uC (by kernel_rfl) (by kernel_rfl) rfl rfl rfl rfl rfl rfl rfl rfl rfl (by omega) ?_
     refine DO.tail ?_
     refine DOt.run 21 rfl rfl (by kernel_rfl) rfl ?_
     refine OT.storeE (h2:=gk ys (f + (2 * i + 1 + 1))) tab 0 rCh (gk_get (xs:=ys) (k:=(f + i)) (by omega)) (j:=0) (by simp only [rCh];omega) (fun _=>rfl) (Nat.le_refl _) rfl rfl rfl rfl rfl rfl rfl ?_
     refine DOt.run 22 rfl rfl (by kernel_rfl) rfl ?_
     refine OT.indexP (sz:=2) tab (f + (2 * i + 1 + 1)) rfl rfl rfl rfl rfl rfl rfl (by omega) ?_
     refine DOt.run 23 rfl rfl (by kernel_rfl) rfl ?_
     refine OT.storeE (h2:=gk ys (f + i)) (h:=gk (List.set ys (f + i) (gk ys (f + (2 * i + 1 + 1)))) (f + (2 * i + 1 + 1))) tab 0 rCh (k:=(f + (2 * i + 1 + 1))) (gk_get (by simp;omega)) (j:=0) (by simp only [rCh];omega) (fun _=>rfl) (Nat.le_refl _) rfl rfl rfl rfl rfl rfl rfl ?_
     refine DOt.nil (by kernel_rfl) ?_
     rotate_left 1
     refine uA ?_
     exact ⟨(2 * i + 1 + 1,sw ys (f + i) (f + (2 * i + 1 + 1))),uH,uH,rfl,rfl,uS,⟨by simp only;omega,hS.trans (Sg.sw (by omega) (by omega) (by omega)),hst,by simp only;omega⟩,by simp only;omega⟩
   | false =>
    have hsm : ∀ k,0 < k→k < hi→par k=i→gtL ltC (gk (ys.drop f) k) (gk (ys.drop f) (2 * i + 1))=false:=fun k h1 h2 h3=>by
     rw [gk_drop,gk_drop]
     unfold gtL
     have : k=2 * i + 1 ∨ k=2 * i + 1 + 1:=by unfold par at h3;omega
     rcases this with rfl | rfl
     ·exact ltC_irr _
     ·exact hc
    have hJp : par (2 * i + 1)=i:=by unfold par;omega
    refine uA ?_
    refine TC.draw [] mixed 16 rfl [chR bd ys] L uP ?_
    refine DO.pure tab uC (by kernel_rfl) [0,1,2,3] (by kernel_rfl) rfl ?_
    refine DO.arith 4 (r':=(((f + i) : Nat) : Int)) uC (by kernel_rfl) (by kernel_rfl) rfl rfl rfl rfl rfl rfl rfl rfl (by first | rfl | omega | (simp only;omega)) (by omega) ?_
    refine DO.indexP (sz:=2) tab 5 (f + i) uC (by kernel_rfl) (by kernel_rfl) rfl rfl rfl rfl rfl rfl rfl rfl rfl (by omega) ?_
    refine DO.loadE (jj:=0) tab 6 0 rCh (gk_get (xs:=ys) (k:=(f + i)) (by omega)) (by simp only [rCh];omega) (fun _=>rfl) uC (by kernel_rfl) (by kernel_rfl) rfl rfl rfl rfl rfl rfl rfl ?_
    refine DO.pure tab uC (by kernel_rfl) [7,8,9] (by kernel_rfl) rfl ?_
    refine DO.arith 10 (r':=(((f + (2 * i + 1)) : Nat) : Int)) uC (by kernel_rfl) (by kernel_rfl) rfl rfl rfl rfl rfl rfl rfl rfl (by first | rfl | omega | (simp only;omega)) (by omega) ?_
    refine DO.indexP (sz:=2) tab 11 (f + (2 * i + 1)) uC (by kernel_rfl) (by kernel_rfl) rfl rfl rfl rfl rfl rfl rfl rfl rfl (by omega) ?_
    refine DO.loadE (jj:=0) tab 12 0 rCh (gk_get (xs:=ys) (k:=(f + (2 * i + 1))) (by omega)) (by simp only [rCh];omega) (fun _=>rfl) uC (by kernel_rfl) (by kernel_rfl) rfl rfl rfl rfl rfl rfl rfl ?_
    refine DO.run 13 rfl rfl (by kernel_rfl) rfl (OT.call rfl rfl rfl rfl rfl rfl goes43 ((chcmp_law m _ (gk ys (f + i)) (gk ys (f + (2 * i + 1))) (hD.gk (by omega)) (hD.gk (by omega))).x ?_))
    rintro _ _ _ ⟨rfl,rfl,rfl⟩;refine ⟨Mem.le_refl _,_,List.Perm.refl _, ?_⟩
    refine DO.pure tab uC (by kernel_rfl) [14,15] (by kernel_rfl) rfl ?_
    (refine DO.nil (by kernel_rfl) ?_)
    rotate_left 1
    refine uA ?_
    simp only [ch_dec]
    cases hl : ltC (gk ys (f + i)) (gk ys (f + (2 * i + 1))) with
    | false =>
     have hdn:=hd.done (gtL_ord ltC_ord) hsm (by rw [gk_drop,gk_drop];exact hl)
     refine uA ?_
     refine retQ_ret rfl (L':=chR bd ys :: L) uS ⟨rfl,ys,hS,hdn,rfl⟩
    | true =>
     have hst:=hd.step (gtL_ord ltC_ord) (by rw [List.length_drop];omega) hlo (by omega) (by omega) hJp hsm (by rw [gk_drop,gk_drop];exact hl)
     rw [← sw_dropf] at hst
     refine uA ?_
     refine TC.draw [21,22,23] mixed 24 rfl [chR bd ys] L uP ?_
     refine DO.pure tab uC (by kernel_rfl) [0,1,2] (by kernel_rfl) rfl ?_
     refine DO.arith 3 (r':=(((f + i) : Nat) : Int)) uC (by kernel_rfl) (by kernel_rfl) rfl rfl rfl rfl rfl rfl rfl rfl (by first | rfl | omega | (simp only;omega)) (by omega) ?_
     refine DO.pure tab uC (by kernel_rfl) [4,5,6] (by kernel_rfl) rfl ?_
     refine DO.arith 7 (r':=(((f + (2 * i + 1)) : Nat) : Int)) uC (by kernel_rfl) (by kernel_rfl) rfl rfl rfl rfl rfl rfl rfl rfl (by first | rfl | omega | (simp only;omega)) (by omega) ?_
     refine DO.pure tab uC (by kernel_rfl) [8,9,10] (by kernel_rfl) rfl ?_
     refine DO.arith 11 (r':=(((f + (2 * i + 1)) : Nat) : Int)) uC (by kernel_rfl) (by kernel_rfl) rfl rfl rfl rfl rfl rfl rfl rfl (by first | rfl | omega | (simp only;omega)) (by omega) ?_
     refine DO.indexP (sz:=2) tab 12 (f + (2 * i + 1)) uC (by kernel_rfl) (by kernel_rfl) rfl rfl rfl rfl rfl rfl rfl rfl rfl (by omega) ?_
     refine DO.loadE (jj:=0) tab 13 0 rCh (gk_get (xs:=ys) (k:=(f + (2 * i + 1))) (by omega)) (by simp only [rCh];omega) (fun _=>rfl) uC (by kernel_rfl) (by kernel_rfl) rfl rfl rfl rfl rfl rfl rfl ?_
     refine DO.pure tab uC (by kernel_rfl) [14,15,16] (by kernel_rfl) rfl ?_
     refine DO.arith 17 (r':=(((f + i) : Nat) : Int)) uC (by kernel_rfl) (by kernel_rfl) rfl rfl rfl rfl rfl rfl rfl rfl (by first | rfl | omega | (simp only;omega)) (by omega) ?_
     refine DO.indexP (sz:=2) tab 18 (f + i) uC (by kernel_rfl) (by kernel_rfl) rfl rfl rfl rfl rfl rfl rfl rfl rfl (by omega) ?_
     refine DO.loadE (jj:=0) tab 19 0 rCh (gk_get (xs:=ys) (k:=(f + i)) (by omega)) (by simp only [rCh];omega) (fun _=>rfl) uC (by kernel_rfl) (by kernel_rfl) rfl rfl rfl rfl rfl rfl rfl ?_
     refine DO.indexP (sz:=2) tab 20 (f + i) uC (by kernel_rfl) (by kernel_rfl) rfl rfl rfl rfl rfl rfl rfl rfl rfl (by omega) ?_
     refine DO.tail ?_
     refine DOt.run 21 rfl rfl (by kernel_rfl) rfl ?_
     refine OT.storeE (h2:=gk ys (f + (2 * i + 1))) tab 0 rCh (gk_get (xs:=ys) (k:=(f + i)) (by omega)) (j:=0) (by simp only [rCh];omega) (fun _=>rfl) (Nat.le_refl _) rfl rfl rfl rfl rfl rfl rfl ?_
     refine DOt.run 22 rfl rfl (by kernel_rfl) rfl ?_
     refine OT.indexP (sz:=2) tab (f + (2 * i + 1)) rfl rfl rfl rfl rfl rfl rfl (by omega) ?_
     refine DOt.run 23 rfl rfl (by kernel_rfl) rfl ?_
     refine OT.storeE (h2:=gk ys (f + i)) (h:=gk (List.set ys (f + i) (gk ys (f + (2 * i + 1)))) (f + (2 * i + 1))) tab 0 rCh (k:=(f + (2 * i + 1))) (gk_get (by simp;omega)) (j:=0) (by simp only [rCh];omega) (fun _=>rfl) (Nat.le_refl _) rfl rfl rfl rfl rfl rfl rfl ?_
     refine DOt.nil (by kernel_rfl) ?_
     rotate_left 1
     refine uA ?_
     exact ⟨(2 * i + 1,sw ys (f + i) (f + (2 * i + 1))),uH,uH,rfl,rfl,uS,⟨by simp only;omega,hS.trans (Sg.sw (by omega) (by omega) (by omega)),hst,by simp only;omega⟩,by simp only;omega⟩
  ·have hsm : ∀ k,0 < k→k < hi→par k=i→gtL ltC (gk (ys.drop f) k) (gk (ys.drop f) (2 * i + 1))=false:=fun k h1 h2 h3=>by
    rw [gk_drop,gk_drop]
    unfold gtL
    have : k=2 * i + 1:=by unfold par at h3;omega
    rcases this with rfl
    exact ltC_irr _
   have hJp : par (2 * i + 1)=i:=by unfold par;omega
   refine uA ?_
   refine TC.draw [] mixed 16 rfl [chR bd ys] L uP ?_
   refine DO.pure tab uC (by kernel_rfl) [0,1,2,3] (by kernel_rfl) rfl ?_
   refine DO.arith 4 (r':=(((f + i) : Nat) : Int)) uC (by kernel_rfl) (by kernel_rfl) rfl rfl rfl rfl rfl rfl rfl rfl (by first | rfl | omega | (simp only;omega)) (by omega) ?_
   refine DO.indexP (sz:=2) tab 5 (f + i) uC (by kernel_rfl) (by kernel_rfl) rfl rfl rfl rfl rfl rfl rfl rfl rfl (by omega) ?_
   refine DO.loadE (jj:=0) tab 6 0 rCh (gk_get (xs:=ys) (k:=(f + i)) (by omega)) (by simp only [rCh];omega) (fun _=>rfl) uC (by kernel_rfl) (by kernel_rfl) rfl rfl rfl rfl rfl rfl rfl ?_
   refine DO.pure tab uC (by kernel_rfl) [7,8,9] (by kernel_rfl) rfl ?_
   refine DO.arith 10 (r':=(((f + (2 * i + 1)) : Nat) : Int)) uC (by kernel_rfl) (by kernel_rfl) rfl rfl rfl rfl rfl rfl rfl rfl (by first | rfl | omega | (simp only;omega)) (by omega) ?_
   refine DO.indexP (sz:=2) tab 11 (f + (2 * i + 1)) uC (by kernel_rfl) (by kernel_rfl) rfl rfl rfl rfl rfl rfl rfl rfl rfl (by omega) ?_
   refine DO.loadE (jj:=0) tab 12 0 rCh (gk_get (xs:=ys) (k:=(f + (2 * i + 1))) (by omega)) (by simp only [rCh];omega) (fun _=>rfl) uC (by kernel_rfl) (by kernel_rfl) rfl rfl rfl rfl rfl rfl rfl ?_
   refine DO.run 13 rfl rfl (by kernel_rfl) rfl (OT.call rfl rfl rfl rfl rfl rfl goes43 ((chcmp_law m _ (gk ys (f + i)) (gk ys (f + (2 * i + 1))) (hD.gk (by omega)) (hD.gk (by omega))).x ?_))
   rintro _ _ _ ⟨rfl,rfl,rfl⟩;refine ⟨Mem.le_refl _,_,List.Perm.refl _, ?_⟩
   refine DO.pure tab uC (by kernel_rfl) [14,15] (by kernel_rfl) rfl ?_
   (refine DO.nil (by kernel_rfl) ?_)
   rotate_left 1
   refine uA ?_
   simp only [ch_dec]
   cases hl : ltC (gk ys (f + i)) (gk ys (f + (2 * i + 1))) with
   | false =>
    have hdn:=hd.done (gtL_ord ltC_ord) hsm (by rw [gk_drop,gk_drop];exact hl)
    refine uA ?_
    refine retQ_ret rfl (L':=chR bd ys :: L) uS ⟨rfl,ys,hS,hdn,rfl⟩
   | true =>
    have hst:=hd.step (gtL_ord ltC_ord) (by rw [List.length_drop];omega) hlo (by omega) (by omega) hJp hsm (by rw [gk_drop,gk_drop];exact hl)
    rw [← sw_dropf] at hst
    refine uA ?_
    refine TC.draw [21,22,23] mixed 24 rfl [chR bd ys] L uP ?_
    refine DO.pure tab uC (by kernel_rfl) [0,1,2] (by kernel_rfl) rfl ?_
    refine DO.arith 3 (r':=(((f + i) : Nat) : Int)) uC (by kernel_rfl) (by kernel_rfl) rfl rfl rfl rfl rfl rfl rfl rfl (by first | rfl | omega | (simp only;omega)) (by omega) ?_
    refine DO.pure tab uC (by kernel_rfl) [4,5,6] (by kernel_rfl) rfl ?_
    refine DO.arith 7 (r':=(((f + (2 * i + 1)) : Nat) : Int)) uC (by kernel_rfl) (by kernel_rfl) rfl rfl rfl rfl rfl rfl rfl rfl (by first | rfl | omega | (simp only;omega)) (by omega) ?_
    refine DO.pure tab uC (by kernel_rfl) [8,9,10] (by kernel_rfl) rfl ?_
    refine DO.arith 11 (r':=(((f + (2 * i + 1)) : Nat) : Int)) uC (by kernel_rfl) (by kernel_rfl) rfl rfl rfl rfl rfl rfl rfl rfl (by first | rfl | omega | (simp only;omega)) (by omega) ?_
    refine DO.indexP (sz:=2) tab 12 (f + (2 * i + 1)) uC (by kernel_rfl) (by kernel_rfl) rfl rfl rfl rfl rfl rfl rfl rfl rfl (by omega) ?_
    refine DO.loadE (jj:=0) tab 13 0 rCh (gk_get (xs:=ys) (k:=(f + (2 * i + 1))) (by omega)) (by simp only [rCh];omega) (fun _=>rfl) uC (by kernel_rfl) (by kernel_rfl) rfl rfl rfl rfl rfl rfl rfl ?_
    refine DO.pure tab uC (by kernel_rfl) [14,15,16] (by kernel_rfl) rfl ?_
    refine DO.arith 17 (r':=(((f + i) : Nat) : Int)) uC (by kernel_rfl) (by kernel_rfl) rfl rfl rfl rfl rfl rfl rfl rfl (by first | rfl | omega | (simp only;omega)) (by omega) ?_
    refine DO.indexP (sz:=2) tab 18 (f + i) uC (by kernel_rfl) (by kernel_rfl) rfl rfl rfl rfl rfl rfl rfl rfl rfl (by omega) ?_
    refine DO.loadE (jj:=0) tab 19 0 rCh (gk_get (xs:=ys) (k:=(f + i)) (by omega)) (by simp only [rCh];omega) (fun _=>rfl) uC (by kernel_rfl) (by kernel_rfl) rfl rfl rfl rfl rfl rfl rfl ?_
    refine DO.indexP (sz:=2) tab 20 (f + i) uC (by kernel_rfl) (by kernel_rfl) rfl rfl rfl rfl rfl rfl rfl rfl rfl (by omega) ?_
    refine DO.tail ?_
    refine DOt.run 21 rfl rfl (by kernel_rfl) rfl ?_
    refine OT.storeE (h2:=gk ys (f + (2 * i + 1))) tab 0 rCh (gk_get (xs:=ys) (k:=(f + i)) (by omega)) (j:=0) (by simp only [rCh];omega) (fun _=>rfl) (Nat.le_refl _) rfl rfl rfl rfl rfl rfl rfl ?_
    refine DOt.run 22 rfl rfl (by kernel_rfl) rfl ?_
    refine OT.indexP (sz:=2) tab (f + (2 * i + 1)) rfl rfl rfl rfl rfl rfl rfl (by omega) ?_
    refine DOt.run 23 rfl rfl (by kernel_rfl) rfl ?_
    refine OT.storeE (h2:=gk ys (f + i)) (h:=gk (List.set ys (f + i) (gk ys (f + (2 * i + 1)))) (f + (2 * i + 1))) tab 0 rCh (k:=(f + (2 * i + 1))) (gk_get (by simp;omega)) (j:=0) (by simp only [rCh];omega) (fun _=>rfl) (Nat.le_refl _) rfl rfl rfl rfl rfl rfl rfl ?_
    refine DOt.nil (by kernel_rfl) ?_
    rotate_left 1
    refine uA ?_
    exact ⟨(2 * i + 1,sw ys (f + i) (f + (2 * i + 1))),uH,uH,rfl,rfl,uS,⟨by simp only;omega,hS.trans (Sg.sw (by omega) (by omega) (by omega)),hst,by simp only;omega⟩,by simp only;omega⟩
theorem half_div (n : Nat) (h0 : 0 < n) (h : n < 140737488355328) : IntKind.i64.wrap (((n : Int) - 1).tdiv 2)=(((n + 1) / 2 : Nat) : Int) - 1:=by
 cases n with
 | zero=>omega
 | succ k =>
  rw [show (((k + 1 : Nat) : Int) - 1)=(k : Int) by omega]
  have e : (k : Int).tdiv 2=((k / 2 : Nat) : Int):=rfl
  rw [e,wrap64_in (by omega) (by omega)]
  omega
set_option maxHeartbeats 1000000 in
theorem heapsort_ch (m : Mem) (L : List Item) (bd c a b : Nat) (xs : List Ch) (hD0 : DomC xs) (hab : a < b) (hl : b ≤ xs.length) (hlim : xs.length ≤ 1000000) :
  TCall Tryz.prog 136 ⟨[.slice (some ⟨bd,0,none⟩) xs.length c, .int .i64 (a : Int), .int .i64 (b : Int),chF]⟩ m (chR bd xs :: L) (fun r m' L'=>m=m' ∧ ∃ ys,Sg a b xs ys∧Sn ltC ys a b∧chR bd ys :: L=L'):=by
 unfold TCall
 refine TCallX.enter Tryz.func136 rfl 60 rfl ?_
 refine uA ?_
 refine TO.step rfl (OT.arith (r':=((b - a : Nat) : Int)) rfl rfl rfl rfl rfl rfl (by omega) (by omega) ?_)
 refine uA ?_
 refine TO.step rfl (OT.arith (r':=((b - a : Nat) : Int) - 1) rfl rfl rfl rfl rfl rfl rfl (by omega) ?_)
 refine TO.step rfl (OT.quoK rfl rfl rfl rfl rfl (by decide) (r:=(((b - a + 1) / 2 : Nat) : Int) - 1) (half_div _ (by omega) (by omega)) ?_)
 refine uA ?_
 refine TC.loopK (ι:=Nat × List Ch) [0,3,8,9,10] rfl (fun x=>[(11, .int .i64 ((x.1 : Int) - 1))]) (fun _=>m) (fun x=>chR bd x.2 :: L) (fun x=>x.1 ≤ (b - a + 1) / 2∧Sg a b xs x.2∧HF (gtL ltC) (x.2.drop a) (b - a) x.1) (fun x=>x.1) ((b - a + 1) / 2,xs) uH rfl uS ⟨Nat.le_refl _,Sg.refl _ _ _,fun k h1 h2 h3=>by simp only at h3;unfold par at h3;omega⟩ ?_
 rintro ⟨k,ys⟩ ⟨hk,hS,hH⟩
 simp only at hk hS hH ⊢
 have hyl:=hS.len
 have hD : DomC ys:=hD0.perm hS.perm
 refine uA ?_
 cases k with
 | zero =>
  have hge : decide ((((0 : Nat) : Int) - 1) ≥ 0)=false:=by decide
  refine uA ?_
  refine TO.step rfl (OT.arith (r':=((b - a : Nat) : Int) - 1) rfl rfl rfl rfl rfl rfl rfl (by omega) ?_)
  refine uA ?_
  have hI0 : HsI ltC ys a (b - a) (b - a):=HsI.start hH
  refine TC.loopK (ι:=Nat × List Ch) [0,3,8,9] rfl (fun x=>[(12, .int .i64 ((x.1 : Int) - 1))]) (fun _=>m) (fun x=>chR bd x.2 :: L) (fun x=>x.1 ≤ b - a∧Sg a b xs x.2∧HsI ltC x.2 a (b - a) x.1) (fun x=>x.1) (b - a,ys) uH rfl uS ⟨Nat.le_refl _,hS,hI0⟩ ?_
  clear hS hH hyl hD hI0
  rintro ⟨k,ys⟩ ⟨hk,hS,hI⟩
  simp only at hk hS hI ⊢
  have hyl:=hS.len
  have hD : DomC ys:=hD0.perm hS.perm
  refine uA ?_
  cases k with
  | zero =>
   have hge : decide ((((0 : Nat) : Int) - 1) ≥ 0)=false:=by decide
   refine uA ?_
   refine retQ_n rfl (L':=chR bd ys :: L) uS ⟨rfl,ys,hS, ?_,rfl⟩
   have:=hI.so
   rw [Nat.add_zero,show a + (b - a)=b by omega] at this
   exact this
  | succ k =>
   have hke : (((k + 1 : Nat) : Int) - 1)=(k : Int):=by omega
   rw [hke]
   refine TC.condP rfl (fun hz => ?_) (fun hz => ?_)
   ·obtain ⟨q1',q2',q3'⟩:=hI.swap ltC_ord ltC_irr (by omega) (by omega)
    refine uA ?_
    refine TC.draw [17,18,19] mixed 20 rfl [chR bd ys] L uP ?_
    refine DO.pure tab uC (by kernel_rfl) [0,1,2,3,4] (by kernel_rfl) rfl ?_
    refine DO.arith 5 (r':=(((a + k) : Nat) : Int)) uC (by kernel_rfl) (by kernel_rfl) rfl rfl rfl rfl rfl rfl rfl rfl (by first | rfl | omega | (simp only;omega)) (by omega) ?_
    refine DO.pure tab uC (by kernel_rfl) [6,7,8] (by kernel_rfl) rfl ?_
    refine DO.arith 9 (r':=(((a + k) : Nat) : Int)) uC (by kernel_rfl) (by kernel_rfl) rfl rfl rfl rfl rfl rfl rfl rfl (by first | rfl | omega | (simp only;omega)) (by omega) ?_
    refine DO.indexP (sz:=2) tab 10 (a + k) uC (by kernel_rfl) (by kernel_rfl) rfl rfl rfl rfl rfl rfl rfl rfl rfl (by omega) ?_
    refine DO.loadE (jj:=0) tab 11 0 rCh (gk_get (xs:=ys) (k:=(a + k)) (by omega)) (by simp only [rCh];omega) (fun _=>rfl) uC (by kernel_rfl) (by kernel_rfl) rfl rfl rfl rfl rfl rfl rfl ?_
    refine DO.pure tab uC (by kernel_rfl) [12,13] (by kernel_rfl) rfl ?_
    refine DO.indexP (sz:=2) tab 14 a uC (by kernel_rfl) (by kernel_rfl) rfl rfl rfl rfl rfl rfl rfl rfl rfl (by omega) ?_
    refine DO.loadE (jj:=0) tab 15 0 rCh (gk_get (xs:=ys) (k:=a) (by omega)) (by simp only [rCh];omega) (fun _=>rfl) uC (by kernel_rfl) (by kernel_rfl) rfl rfl rfl rfl rfl rfl rfl ?_
    refine DO.indexP (sz:=2) tab 16 a uC (by kernel_rfl) (by kernel_rfl) rfl rfl rfl rfl rfl rfl rfl rfl rfl (by omega) ?_
    refine DO.tail ?_
    refine DOt.run 17 rfl rfl (by kernel_rfl) rfl ?_
    refine OT.storeE (h2:=gk ys (a + k)) tab 0 rCh (gk_get (xs:=ys) (k:=a) (by omega)) (j:=0) (by simp only [rCh];omega) (fun _=>rfl) (Nat.le_refl _) rfl rfl rfl rfl rfl rfl rfl ?_
    refine DOt.run 18 rfl rfl (by kernel_rfl) rfl ?_
    refine OT.indexP (sz:=2) tab (a + k) rfl rfl rfl rfl rfl rfl rfl (by omega) ?_
    refine DOt.run 19 rfl rfl (by kernel_rfl) rfl ?_
    refine OT.storeE (h2:=gk ys a) (h:=gk (List.set ys a (gk ys (a + k))) (a + k)) tab 0 rCh (k:=(a + k)) (gk_get (by simp;omega)) (j:=0) (by simp only [rCh];omega) (fun _=>rfl) (Nat.le_refl _) rfl rfl rfl rfl rfl rfl rfl ?_
    refine DOt.nil (by kernel_rfl) ?_
    rotate_left 1
    refine uA ?_
    have hsl : (sw ys a (a + k)).length=ys.length:=sw_length _ _ _
    have hSs : Sg a b xs (sw ys a (a + k)):=hS.trans (Sg.sw (by omega) (by omega) (by omega))
    rw [← hyl,← hsl]
    refine TO.step rfl (OT.call rfl rfl rfl rfl rfl rfl goes208 ((sift_ch m L bd c 0 k a (sw ys a (a + k)) (hD0.perm hSs.perm) (by omega) (by omega) (by omega) q1').x ?_));
    rintro _ _ _ ⟨rfl,zs,hz1,hz2,rfl⟩
    rw [hsl,hyl]
    have hN:=HsI.next hz1 hz2 q2' q3'
    refine uA ?_
    refine TO.step rfl (OT.arith (r':=(k : Int) - 1) rfl rfl rfl rfl rfl rfl rfl (by omega) ?_)
    refine uA ?_
    exact ⟨(k,zs),uH,uH,rfl,rfl,uS,⟨by simp only;omega,hSs.trans (hz1.mono (Nat.le_refl _) (by omega)),hN⟩,by simp only;omega⟩
   ·exfalso;omega
 | succ k =>
  have hke : (((k + 1 : Nat) : Int) - 1)=(k : Int):=by omega
  rw [hke]
  refine TC.condP rfl (fun hz => ?_) (fun hz => ?_)
  ·refine uA ?_
   rw [← hyl]
   refine TO.step rfl (OT.call rfl rfl rfl rfl rfl rfl goes208 ((sift_ch m L bd c k (b - a) a ys hD (by omega) (by omega) (by omega) (DI.start hH)).x ?_));
   rintro _ _ _ ⟨rfl,zs,hz1,hz2,rfl⟩
   rw [hyl]
   refine uA ?_
   refine TO.step rfl (OT.arith (r':=(k : Int) - 1) rfl rfl rfl rfl rfl rfl rfl (by omega) ?_)
   refine uA ?_
   exact ⟨(k,zs),uH,uH,rfl,rfl,uS,⟨by simp only;omega,hS.trans (hz1.mono (Nat.le_refl _) (by omega)),hz2⟩,by simp only;omega⟩
  ·exfalso;omega
end Go.Sep
