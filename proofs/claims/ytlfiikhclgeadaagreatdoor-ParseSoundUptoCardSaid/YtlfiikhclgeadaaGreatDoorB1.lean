/- ScTab -/
import Derived.Test.YtlfiikhclgeadaaGreatDoorProg
import Derived.KernelRfl
import Derived.Test.YtlfiikhclgeadaaGreatDoorB0
set_option linter.unusedVariables false
namespace Go.Sep
open Go.Proofs
noncomputable def tiOf (i d : TypeInfo) : TI := ⟨d.desc, i.size, i.bytes, match i.zero with | some z => z | none => undef⟩
def GoodTI (P : Program) (t : TypeId) (i : TI) : Prop := ∃ info, P.info? t = some info ∧ P.underlying t = some i.u ∧ info.size = i.size ∧ info.bytes = i.bytes ∧ info.zero = some i.zero
theorem goodTI {P : Program} {t : TypeId} {i d : TypeInfo} (h1 : P.info? t = some i) (h2 : P.underlying t = some d.desc) (h3 : i.zero.isSome = true) : GoodTI P t (tiOf i d) := by
 refine ⟨i, h1, h2, rfl, rfl, ?_⟩
 cases hz : i.zero with
 | none => rw [hz] at h3; cases h3
 | some z => simp [tiOf, hz]
inductive TT where
 | nil
 | node (l : TT) (k : Nat) (i : TI) (r : TT)
def getT : TT → Nat → Option TI
 | .nil, _ => none
 | .node l k i r, t => bif Nat.beq t k then some i else bif Nat.blt t k then getT l t else getT r t
def AllT (P : Program) : TT → Prop
 | .nil => True
 | .node l k i r => AllT P l ∧ GoodTI P k i ∧ AllT P r
theorem getT_ok {P : Program} : ∀ {l : TT}, AllT P l → ∀ t i, getT l t = some i → GoodTI P t i
 | .nil, _, t, i, h => by cases h
 | .node l k x r, hl, t, i, h => by
  simp only [getT] at h
  cases hb : Nat.beq t k with
  | true =>
   have : t = k := Nat.eq_of_beq_eq_true hb
   subst this
   simp only [hb, cond_true, Option.some.injEq] at h
   subst h
   exact hl.2.1
  | false =>
   simp only [hb, cond_false] at h
   cases hc : Nat.blt t k with
   | true => simp only [hc, cond_true] at h; exact getT_ok hl.1 t i h
   | false => simp only [hc, cond_false] at h; exact getT_ok hl.2.2 t i h
noncomputable def tbl : TT := (.node (.node (.node (.node (.node (.node (.node (.node .nil 1 (tiOf Tryz.t1 Tryz.t1) .nil) 2 (tiOf Tryz.t2 Tryz.t2) .nil) 3 (tiOf Tryz.t3 Tryz.t3) (.node .nil 4 (tiOf Tryz.t4 Tryz.t4) .nil)) 5 (tiOf Tryz.t5 Tryz.t5) (.node (.node (.node .nil 7 (tiOf Tryz.t7 Tryz.t7) .nil) 9 (tiOf Tryz.t9 Tryz.t9) .nil) 12 (tiOf Tryz.t12 Tryz.t12) (.node .nil 13 (tiOf Tryz.t13 Tryz.t13) .nil))) 15 (tiOf Tryz.t15 Tryz.t15) (.node (.node (.node (.node .nil 16 (tiOf Tryz.t16 Tryz.t16) .nil) 17 (tiOf Tryz.t17 Tryz.t17) .nil) 18 (tiOf Tryz.t18 Tryz.t18) (.node .nil 20 (tiOf Tryz.t20 Tryz.t20) .nil)) 21 (tiOf Tryz.t21 Tryz.t21) (.node (.node .nil 22 (tiOf Tryz.t22 Tryz.t22) .nil) 23 (tiOf Tryz.t23 Tryz.t23) (.node .nil 24 (tiOf Tryz.t24 Tryz.t23) .nil)))) 25 (tiOf Tryz.t25 Tryz.t3) (.node (.node (.node (.node (.node .nil 26 (tiOf Tryz.t26 Tryz.t26) .nil) 27 (tiOf Tryz.t27 Tryz.t27) .nil) 28 (tiOf Tryz.t28 Tryz.t28) (.node .nil 29 (tiOf Tryz.t29 Tryz.t29) .nil)) 30 (tiOf Tryz.t30 Tryz.t30) (.node (.node (.node .nil 31 (tiOf Tryz.t31 Tryz.t31) .nil) 32 (tiOf Tryz.t32 Tryz.t32) .nil) 33 (tiOf Tryz.t33 Tryz.t33) (.node .nil 34 (tiOf Tryz.t34 Tryz.t34) .nil))) 35 (tiOf Tryz.t35 Tryz.t35) (.node (.node (.node (.node .nil 36 (tiOf Tryz.t36 Tryz.t36) .nil) 37 (tiOf Tryz.t37 Tryz.t37) .nil) 38 (tiOf Tryz.t38 Tryz.t38) (.node .nil 39 (tiOf Tryz.t39 Tryz.t39) .nil)) 40 (tiOf Tryz.t40 Tryz.t40) (.node (.node .nil 41 (tiOf Tryz.t41 Tryz.t41) .nil) 42 (tiOf Tryz.t42 Tryz.t42) (.node .nil 43 (tiOf Tryz.t43 Tryz.t42) .nil))))) 44 (tiOf Tryz.t44 Tryz.t44) (.node (.node (.node (.node (.node (.node .nil 45 (tiOf Tryz.t45 Tryz.t44) .nil) 46 (tiOf Tryz.t46 Tryz.t46) .nil) 47 (tiOf Tryz.t47 Tryz.t47) (.node .nil 48 (tiOf Tryz.t48 Tryz.t48) .nil)) 49 (tiOf Tryz.t49 Tryz.t49) (.node (.node (.node .nil 50 (tiOf Tryz.t50 Tryz.t50) .nil) 51 (tiOf Tryz.t51 Tryz.t51) .nil) 52 (tiOf Tryz.t52 Tryz.t51) (.node .nil 53 (tiOf Tryz.t53 Tryz.t53) .nil))) 54 (tiOf Tryz.t54 Tryz.t54) (.node (.node (.node (.node .nil 55 (tiOf Tryz.t55 Tryz.t54) .nil) 56 (tiOf Tryz.t56 Tryz.t56) .nil) 57 (tiOf Tryz.t57 Tryz.t57) (.node .nil 58 (tiOf Tryz.t58 Tryz.t58) .nil)) 59 (tiOf Tryz.t59 Tryz.t59) (.node (.node .nil 60 (tiOf Tryz.t60 Tryz.t60) .nil) 61 (tiOf Tryz.t61 Tryz.t61) (.node .nil 62 (tiOf Tryz.t62 Tryz.t62) .nil)))) 63 (tiOf Tryz.t63 Tryz.t63) (.node (.node (.node (.node (.node .nil 64 (tiOf Tryz.t64 Tryz.t64) .nil) 65 (tiOf Tryz.t65 Tryz.t65) .nil) 66 (tiOf Tryz.t66 Tryz.t66) (.node .nil 67 (tiOf Tryz.t67 Tryz.t67) .nil)) 68 (tiOf Tryz.t68 Tryz.t68) (.node (.node .nil 69 (tiOf Tryz.t69 Tryz.t31) .nil) 70 (tiOf Tryz.t70 Tryz.t70) (.node .nil 71 (tiOf Tryz.t71 Tryz.t71) .nil))) 72 (tiOf Tryz.t72 Tryz.t72) (.node (.node (.node (.node .nil 73 (tiOf Tryz.t73 Tryz.t73) .nil) 74 (tiOf Tryz.t74 Tryz.t74) .nil) 75 (tiOf Tryz.t75 Tryz.t75) (.node .nil 76 (tiOf Tryz.t76 Tryz.t76) .nil)) 77 (tiOf Tryz.t77 Tryz.t77) (.node (.node .nil 78 (tiOf Tryz.t78 Tryz.t76) .nil) 79 (tiOf Tryz.t79 Tryz.t79) (.node .nil 80 (tiOf Tryz.t80 Tryz.t80) .nil)))))) 81 (tiOf Tryz.t81 Tryz.t81) (.node (.node (.node (.node (.node (.node (.node .nil 82 (tiOf Tryz.t82 Tryz.t82) .nil) 83 (tiOf Tryz.t83 Tryz.t82) .nil) 84 (tiOf Tryz.t84 Tryz.t84) (.node .nil 85 (tiOf Tryz.t85 Tryz.t85) .nil)) 86 (tiOf Tryz.t86 Tryz.t86) (.node (.node (.node .nil 87 (tiOf Tryz.t87 Tryz.t87) .nil) 88 (tiOf Tryz.t88 Tryz.t88) .nil) 89 (tiOf Tryz.t89 Tryz.t89) (.node .nil 90 (tiOf Tryz.t90 Tryz.t90) .nil))) 91 (tiOf Tryz.t91 Tryz.t91) (.node (.node (.node (.node .nil 92 (tiOf Tryz.t92 Tryz.t92) .nil) 93 (tiOf Tryz.t93 Tryz.t93) .nil) 94 (tiOf Tryz.t94 Tryz.t94) (.node .nil 95 (tiOf Tryz.t95 Tryz.t95) .nil)) 96 (tiOf Tryz.t96 Tryz.t96) (.node (.node .nil 97 (tiOf Tryz.t97 Tryz.t97) .nil) 98 (tiOf Tryz.t98 Tryz.t98) (.node .nil 99 (tiOf Tryz.t99 Tryz.t99) .nil)))) 100 (tiOf Tryz.t100 Tryz.t100) (.node (.node (.node (.node (.node .nil 101 (tiOf Tryz.t101 Tryz.t101) .nil) 102 (tiOf Tryz.t102 Tryz.t101) .nil) 103 (tiOf Tryz.t103 Tryz.t103) (.node .nil 104 (tiOf Tryz.t104 Tryz.t104) .nil)) 105 (tiOf Tryz.t105 Tryz.t105) (.node (.node (.node .nil 106 (tiOf Tryz.t106 Tryz.t106) .nil) 107 (tiOf Tryz.t107 Tryz.t107) .nil) 108 (tiOf Tryz.t108 Tryz.t108) (.node .nil 109 (tiOf Tryz.t109 Tryz.t3) .nil))) 110 (tiOf Tryz.t110 Tryz.t110) (.node (.node (.node (.node .nil 111 (tiOf Tryz.t111 Tryz.t111) .nil) 112 (tiOf Tryz.t112 Tryz.t112) .nil) 113 (tiOf Tryz.t113 Tryz.t113) (.node .nil 114 (tiOf Tryz.t114 Tryz.t114) .nil)) 115 (tiOf Tryz.t115 Tryz.t115) (.node (.node .nil 116 (tiOf Tryz.t116 Tryz.t116) .nil) 117 (tiOf Tryz.t117 Tryz.t117) (.node .nil 118 (tiOf Tryz.t118 Tryz.t118) .nil))))) 119 (tiOf Tryz.t119 Tryz.t119) (.node (.node (.node (.node (.node (.node .nil 120 (tiOf Tryz.t120 Tryz.t120) .nil) 121 (tiOf Tryz.t121 Tryz.t120) .nil) 122 (tiOf Tryz.t122 Tryz.t122) (.node .nil 123 (tiOf Tryz.t123 Tryz.t123) .nil)) 124 (tiOf Tryz.t124 Tryz.t124) (.node (.node (.node .nil 125 (tiOf Tryz.t125 Tryz.t125) .nil) 126 (tiOf Tryz.t126 Tryz.t126) .nil) 127 (tiOf Tryz.t127 Tryz.t127) (.node .nil 128 (tiOf Tryz.t128 Tryz.t128) .nil))) 129 (tiOf Tryz.t129 Tryz.t129) (.node (.node (.node (.node .nil 130 (tiOf Tryz.t130 Tryz.t130) .nil) 131 (tiOf Tryz.t131 Tryz.t130) .nil) 132 (tiOf Tryz.t132 Tryz.t132) (.node .nil 133 (tiOf Tryz.t133 Tryz.t133) .nil)) 134 (tiOf Tryz.t134 Tryz.t134) (.node (.node .nil 135 (tiOf Tryz.t135 Tryz.t135) .nil) 136 (tiOf Tryz.t136 Tryz.t136) (.node .nil 137 (tiOf Tryz.t137 Tryz.t137) .nil)))) 138 (tiOf Tryz.t138 Tryz.t138) (.node (.node (.node (.node (.node .nil 139 (tiOf Tryz.t139 Tryz.t139) .nil) 140 (tiOf Tryz.t140 Tryz.t140) .nil) 141 (tiOf Tryz.t141 Tryz.t141) (.node .nil 142 (tiOf Tryz.t142 Tryz.t142) .nil)) 143 (tiOf Tryz.t143 Tryz.t143) (.node (.node .nil 144 (tiOf Tryz.t144 Tryz.t144) .nil) 145 (tiOf Tryz.t145 Tryz.t145) (.node .nil 146 (tiOf Tryz.t146 Tryz.t146) .nil))) 147 (tiOf Tryz.t147 Tryz.t147) (.node (.node (.node (.node .nil 148 (tiOf Tryz.t148 Tryz.t148) .nil) 149 (tiOf Tryz.t149 Tryz.t149) .nil) 150 (tiOf Tryz.t150 Tryz.t150) (.node .nil 151 (tiOf Tryz.t151 Tryz.t151) .nil)) 153 (tiOf Tryz.t153 Tryz.t153) (.node (.node .nil 154 (tiOf Tryz.t154 Tryz.t154) .nil) 158 (tiOf Tryz.t158 Tryz.t158) (.node .nil 161 (tiOf Tryz.t161 Tryz.t161) .nil)))))))
theorem good1 : GoodTI Tryz.prog 1 (tiOf Tryz.t1 Tryz.t1) := goodTI (by kernel_rfl) (by kernel_rfl) (by kernel_rfl)
theorem good2 : GoodTI Tryz.prog 2 (tiOf Tryz.t2 Tryz.t2) := goodTI (by kernel_rfl) (by kernel_rfl) (by kernel_rfl)
theorem good3 : GoodTI Tryz.prog 3 (tiOf Tryz.t3 Tryz.t3) := goodTI (by kernel_rfl) (by kernel_rfl) (by kernel_rfl)
theorem good4 : GoodTI Tryz.prog 4 (tiOf Tryz.t4 Tryz.t4) := goodTI (by kernel_rfl) (by kernel_rfl) (by kernel_rfl)
theorem good5 : GoodTI Tryz.prog 5 (tiOf Tryz.t5 Tryz.t5) := goodTI (by kernel_rfl) (by kernel_rfl) (by kernel_rfl)
theorem good7 : GoodTI Tryz.prog 7 (tiOf Tryz.t7 Tryz.t7) := goodTI (by kernel_rfl) (by kernel_rfl) (by kernel_rfl)
theorem good9 : GoodTI Tryz.prog 9 (tiOf Tryz.t9 Tryz.t9) := goodTI (by kernel_rfl) (by kernel_rfl) (by kernel_rfl)
theorem good12 : GoodTI Tryz.prog 12 (tiOf Tryz.t12 Tryz.t12) := goodTI (by kernel_rfl) (by kernel_rfl) (by kernel_rfl)
theorem good13 : GoodTI Tryz.prog 13 (tiOf Tryz.t13 Tryz.t13) := goodTI (by kernel_rfl) (by kernel_rfl) (by kernel_rfl)
theorem good15 : GoodTI Tryz.prog 15 (tiOf Tryz.t15 Tryz.t15) := goodTI (by kernel_rfl) (by kernel_rfl) (by kernel_rfl)
theorem good16 : GoodTI Tryz.prog 16 (tiOf Tryz.t16 Tryz.t16) := goodTI (by kernel_rfl) (by kernel_rfl) (by kernel_rfl)
theorem good17 : GoodTI Tryz.prog 17 (tiOf Tryz.t17 Tryz.t17) := goodTI (by kernel_rfl) (by kernel_rfl) (by kernel_rfl)
theorem good18 : GoodTI Tryz.prog 18 (tiOf Tryz.t18 Tryz.t18) := goodTI (by kernel_rfl) (by kernel_rfl) (by kernel_rfl)
theorem good20 : GoodTI Tryz.prog 20 (tiOf Tryz.t20 Tryz.t20) := goodTI (by kernel_rfl) (by kernel_rfl) (by kernel_rfl)
theorem good21 : GoodTI Tryz.prog 21 (tiOf Tryz.t21 Tryz.t21) := goodTI (by kernel_rfl) (by kernel_rfl) (by kernel_rfl)
theorem good22 : GoodTI Tryz.prog 22 (tiOf Tryz.t22 Tryz.t22) := goodTI (by kernel_rfl) (by kernel_rfl) (by kernel_rfl)
theorem good23 : GoodTI Tryz.prog 23 (tiOf Tryz.t23 Tryz.t23) := goodTI (by kernel_rfl) (by kernel_rfl) (by kernel_rfl)
theorem good24 : GoodTI Tryz.prog 24 (tiOf Tryz.t24 Tryz.t23) := goodTI (by kernel_rfl) (by kernel_rfl) (by kernel_rfl)
theorem good25 : GoodTI Tryz.prog 25 (tiOf Tryz.t25 Tryz.t3) := goodTI (by kernel_rfl) (by kernel_rfl) (by kernel_rfl)
theorem good26 : GoodTI Tryz.prog 26 (tiOf Tryz.t26 Tryz.t26) := goodTI (by kernel_rfl) (by kernel_rfl) (by kernel_rfl)
theorem good27 : GoodTI Tryz.prog 27 (tiOf Tryz.t27 Tryz.t27) := goodTI (by kernel_rfl) (by kernel_rfl) (by kernel_rfl)
theorem good28 : GoodTI Tryz.prog 28 (tiOf Tryz.t28 Tryz.t28) := goodTI (by kernel_rfl) (by kernel_rfl) (by kernel_rfl)
theorem good29 : GoodTI Tryz.prog 29 (tiOf Tryz.t29 Tryz.t29) := goodTI (by kernel_rfl) (by kernel_rfl) (by kernel_rfl)
theorem good30 : GoodTI Tryz.prog 30 (tiOf Tryz.t30 Tryz.t30) := goodTI (by kernel_rfl) (by kernel_rfl) (by kernel_rfl)
theorem good31 : GoodTI Tryz.prog 31 (tiOf Tryz.t31 Tryz.t31) := goodTI (by kernel_rfl) (by kernel_rfl) (by kernel_rfl)
theorem good32 : GoodTI Tryz.prog 32 (tiOf Tryz.t32 Tryz.t32) := goodTI (by kernel_rfl) (by kernel_rfl) (by kernel_rfl)
theorem good33 : GoodTI Tryz.prog 33 (tiOf Tryz.t33 Tryz.t33) := goodTI (by kernel_rfl) (by kernel_rfl) (by kernel_rfl)
theorem good34 : GoodTI Tryz.prog 34 (tiOf Tryz.t34 Tryz.t34) := goodTI (by kernel_rfl) (by kernel_rfl) (by kernel_rfl)
theorem good35 : GoodTI Tryz.prog 35 (tiOf Tryz.t35 Tryz.t35) := goodTI (by kernel_rfl) (by kernel_rfl) (by kernel_rfl)
theorem good36 : GoodTI Tryz.prog 36 (tiOf Tryz.t36 Tryz.t36) := goodTI (by kernel_rfl) (by kernel_rfl) (by kernel_rfl)
theorem good37 : GoodTI Tryz.prog 37 (tiOf Tryz.t37 Tryz.t37) := goodTI (by kernel_rfl) (by kernel_rfl) (by kernel_rfl)
theorem good38 : GoodTI Tryz.prog 38 (tiOf Tryz.t38 Tryz.t38) := goodTI (by kernel_rfl) (by kernel_rfl) (by kernel_rfl)
theorem good39 : GoodTI Tryz.prog 39 (tiOf Tryz.t39 Tryz.t39) := goodTI (by kernel_rfl) (by kernel_rfl) (by kernel_rfl)
theorem good40 : GoodTI Tryz.prog 40 (tiOf Tryz.t40 Tryz.t40) := goodTI (by kernel_rfl) (by kernel_rfl) (by kernel_rfl)
theorem good41 : GoodTI Tryz.prog 41 (tiOf Tryz.t41 Tryz.t41) := goodTI (by kernel_rfl) (by kernel_rfl) (by kernel_rfl)
theorem good42 : GoodTI Tryz.prog 42 (tiOf Tryz.t42 Tryz.t42) := goodTI (by kernel_rfl) (by kernel_rfl) (by kernel_rfl)
theorem good43 : GoodTI Tryz.prog 43 (tiOf Tryz.t43 Tryz.t42) := goodTI (by kernel_rfl) (by kernel_rfl) (by kernel_rfl)
theorem good44 : GoodTI Tryz.prog 44 (tiOf Tryz.t44 Tryz.t44) := goodTI (by kernel_rfl) (by kernel_rfl) (by kernel_rfl)
theorem good45 : GoodTI Tryz.prog 45 (tiOf Tryz.t45 Tryz.t44) := goodTI (by kernel_rfl) (by kernel_rfl) (by kernel_rfl)
theorem good46 : GoodTI Tryz.prog 46 (tiOf Tryz.t46 Tryz.t46) := goodTI (by kernel_rfl) (by kernel_rfl) (by kernel_rfl)
theorem good47 : GoodTI Tryz.prog 47 (tiOf Tryz.t47 Tryz.t47) := goodTI (by kernel_rfl) (by kernel_rfl) (by kernel_rfl)
theorem good48 : GoodTI Tryz.prog 48 (tiOf Tryz.t48 Tryz.t48) := goodTI (by kernel_rfl) (by kernel_rfl) (by kernel_rfl)
theorem good49 : GoodTI Tryz.prog 49 (tiOf Tryz.t49 Tryz.t49) := goodTI (by kernel_rfl) (by kernel_rfl) (by kernel_rfl)
theorem good50 : GoodTI Tryz.prog 50 (tiOf Tryz.t50 Tryz.t50) := goodTI (by kernel_rfl) (by kernel_rfl) (by kernel_rfl)
theorem good51 : GoodTI Tryz.prog 51 (tiOf Tryz.t51 Tryz.t51) := goodTI (by kernel_rfl) (by kernel_rfl) (by kernel_rfl)
theorem good52 : GoodTI Tryz.prog 52 (tiOf Tryz.t52 Tryz.t51) := goodTI (by kernel_rfl) (by kernel_rfl) (by kernel_rfl)
theorem good53 : GoodTI Tryz.prog 53 (tiOf Tryz.t53 Tryz.t53) := goodTI (by kernel_rfl) (by kernel_rfl) (by kernel_rfl)
theorem good54 : GoodTI Tryz.prog 54 (tiOf Tryz.t54 Tryz.t54) := goodTI (by kernel_rfl) (by kernel_rfl) (by kernel_rfl)
theorem good55 : GoodTI Tryz.prog 55 (tiOf Tryz.t55 Tryz.t54) := goodTI (by kernel_rfl) (by kernel_rfl) (by kernel_rfl)
theorem good56 : GoodTI Tryz.prog 56 (tiOf Tryz.t56 Tryz.t56) := goodTI (by kernel_rfl) (by kernel_rfl) (by kernel_rfl)
theorem good57 : GoodTI Tryz.prog 57 (tiOf Tryz.t57 Tryz.t57) := goodTI (by kernel_rfl) (by kernel_rfl) (by kernel_rfl)
theorem good58 : GoodTI Tryz.prog 58 (tiOf Tryz.t58 Tryz.t58) := goodTI (by kernel_rfl) (by kernel_rfl) (by kernel_rfl)
theorem good59 : GoodTI Tryz.prog 59 (tiOf Tryz.t59 Tryz.t59) := goodTI (by kernel_rfl) (by kernel_rfl) (by kernel_rfl)
theorem good60 : GoodTI Tryz.prog 60 (tiOf Tryz.t60 Tryz.t60) := goodTI (by kernel_rfl) (by kernel_rfl) (by kernel_rfl)
theorem good61 : GoodTI Tryz.prog 61 (tiOf Tryz.t61 Tryz.t61) := goodTI (by kernel_rfl) (by kernel_rfl) (by kernel_rfl)
theorem good62 : GoodTI Tryz.prog 62 (tiOf Tryz.t62 Tryz.t62) := goodTI (by kernel_rfl) (by kernel_rfl) (by kernel_rfl)
theorem good63 : GoodTI Tryz.prog 63 (tiOf Tryz.t63 Tryz.t63) := goodTI (by kernel_rfl) (by kernel_rfl) (by kernel_rfl)
theorem good64 : GoodTI Tryz.prog 64 (tiOf Tryz.t64 Tryz.t64) := goodTI (by kernel_rfl) (by kernel_rfl) (by kernel_rfl)
theorem good65 : GoodTI Tryz.prog 65 (tiOf Tryz.t65 Tryz.t65) := goodTI (by kernel_rfl) (by kernel_rfl) (by kernel_rfl)
theorem good66 : GoodTI Tryz.prog 66 (tiOf Tryz.t66 Tryz.t66) := goodTI (by kernel_rfl) (by kernel_rfl) (by kernel_rfl)
theorem good67 : GoodTI Tryz.prog 67 (tiOf Tryz.t67 Tryz.t67) := goodTI (by kernel_rfl) (by kernel_rfl) (by kernel_rfl)
theorem good68 : GoodTI Tryz.prog 68 (tiOf Tryz.t68 Tryz.t68) := goodTI (by kernel_rfl) (by kernel_rfl) (by kernel_rfl)
theorem good69 : GoodTI Tryz.prog 69 (tiOf Tryz.t69 Tryz.t31) := goodTI (by kernel_rfl) (by kernel_rfl) (by kernel_rfl)
theorem good70 : GoodTI Tryz.prog 70 (tiOf Tryz.t70 Tryz.t70) := goodTI (by kernel_rfl) (by kernel_rfl) (by kernel_rfl)
theorem good71 : GoodTI Tryz.prog 71 (tiOf Tryz.t71 Tryz.t71) := goodTI (by kernel_rfl) (by kernel_rfl) (by kernel_rfl)
theorem good72 : GoodTI Tryz.prog 72 (tiOf Tryz.t72 Tryz.t72) := goodTI (by kernel_rfl) (by kernel_rfl) (by kernel_rfl)
theorem good73 : GoodTI Tryz.prog 73 (tiOf Tryz.t73 Tryz.t73) := goodTI (by kernel_rfl) (by kernel_rfl) (by kernel_rfl)
theorem good74 : GoodTI Tryz.prog 74 (tiOf Tryz.t74 Tryz.t74) := goodTI (by kernel_rfl) (by kernel_rfl) (by kernel_rfl)
theorem good75 : GoodTI Tryz.prog 75 (tiOf Tryz.t75 Tryz.t75) := goodTI (by kernel_rfl) (by kernel_rfl) (by kernel_rfl)
theorem good76 : GoodTI Tryz.prog 76 (tiOf Tryz.t76 Tryz.t76) := goodTI (by kernel_rfl) (by kernel_rfl) (by kernel_rfl)
theorem good77 : GoodTI Tryz.prog 77 (tiOf Tryz.t77 Tryz.t77) := goodTI (by kernel_rfl) (by kernel_rfl) (by kernel_rfl)
theorem good78 : GoodTI Tryz.prog 78 (tiOf Tryz.t78 Tryz.t76) := goodTI (by kernel_rfl) (by kernel_rfl) (by kernel_rfl)
theorem good79 : GoodTI Tryz.prog 79 (tiOf Tryz.t79 Tryz.t79) := goodTI (by kernel_rfl) (by kernel_rfl) (by kernel_rfl)
theorem good80 : GoodTI Tryz.prog 80 (tiOf Tryz.t80 Tryz.t80) := goodTI (by kernel_rfl) (by kernel_rfl) (by kernel_rfl)
theorem good81 : GoodTI Tryz.prog 81 (tiOf Tryz.t81 Tryz.t81) := goodTI (by kernel_rfl) (by kernel_rfl) (by kernel_rfl)
theorem good82 : GoodTI Tryz.prog 82 (tiOf Tryz.t82 Tryz.t82) := goodTI (by kernel_rfl) (by kernel_rfl) (by kernel_rfl)
theorem good83 : GoodTI Tryz.prog 83 (tiOf Tryz.t83 Tryz.t82) := goodTI (by kernel_rfl) (by kernel_rfl) (by kernel_rfl)
theorem good84 : GoodTI Tryz.prog 84 (tiOf Tryz.t84 Tryz.t84) := goodTI (by kernel_rfl) (by kernel_rfl) (by kernel_rfl)
theorem good85 : GoodTI Tryz.prog 85 (tiOf Tryz.t85 Tryz.t85) := goodTI (by kernel_rfl) (by kernel_rfl) (by kernel_rfl)
theorem good86 : GoodTI Tryz.prog 86 (tiOf Tryz.t86 Tryz.t86) := goodTI (by kernel_rfl) (by kernel_rfl) (by kernel_rfl)
theorem good87 : GoodTI Tryz.prog 87 (tiOf Tryz.t87 Tryz.t87) := goodTI (by kernel_rfl) (by kernel_rfl) (by kernel_rfl)
theorem good88 : GoodTI Tryz.prog 88 (tiOf Tryz.t88 Tryz.t88) := goodTI (by kernel_rfl) (by kernel_rfl) (by kernel_rfl)
theorem good89 : GoodTI Tryz.prog 89 (tiOf Tryz.t89 Tryz.t89) := goodTI (by kernel_rfl) (by kernel_rfl) (by kernel_rfl)
theorem good90 : GoodTI Tryz.prog 90 (tiOf Tryz.t90 Tryz.t90) := goodTI (by kernel_rfl) (by kernel_rfl) (by kernel_rfl)
theorem good91 : GoodTI Tryz.prog 91 (tiOf Tryz.t91 Tryz.t91) := goodTI (by kernel_rfl) (by kernel_rfl) (by kernel_rfl)
theorem good92 : GoodTI Tryz.prog 92 (tiOf Tryz.t92 Tryz.t92) := goodTI (by kernel_rfl) (by kernel_rfl) (by kernel_rfl)
theorem good93 : GoodTI Tryz.prog 93 (tiOf Tryz.t93 Tryz.t93) := goodTI (by kernel_rfl) (by kernel_rfl) (by kernel_rfl)
theorem good94 : GoodTI Tryz.prog 94 (tiOf Tryz.t94 Tryz.t94) := goodTI (by kernel_rfl) (by kernel_rfl) (by kernel_rfl)
theorem good95 : GoodTI Tryz.prog 95 (tiOf Tryz.t95 Tryz.t95) := goodTI (by kernel_rfl) (by kernel_rfl) (by kernel_rfl)
theorem good96 : GoodTI Tryz.prog 96 (tiOf Tryz.t96 Tryz.t96) := goodTI (by kernel_rfl) (by kernel_rfl) (by kernel_rfl)
theorem good97 : GoodTI Tryz.prog 97 (tiOf Tryz.t97 Tryz.t97) := goodTI (by kernel_rfl) (by kernel_rfl) (by kernel_rfl)
theorem good98 : GoodTI Tryz.prog 98 (tiOf Tryz.t98 Tryz.t98) := goodTI (by kernel_rfl) (by kernel_rfl) (by kernel_rfl)
theorem good99 : GoodTI Tryz.prog 99 (tiOf Tryz.t99 Tryz.t99) := goodTI (by kernel_rfl) (by kernel_rfl) (by kernel_rfl)
theorem good100 : GoodTI Tryz.prog 100 (tiOf Tryz.t100 Tryz.t100) := goodTI (by kernel_rfl) (by kernel_rfl) (by kernel_rfl)
theorem good101 : GoodTI Tryz.prog 101 (tiOf Tryz.t101 Tryz.t101) := goodTI (by kernel_rfl) (by kernel_rfl) (by kernel_rfl)
theorem good102 : GoodTI Tryz.prog 102 (tiOf Tryz.t102 Tryz.t101) := goodTI (by kernel_rfl) (by kernel_rfl) (by kernel_rfl)
theorem good103 : GoodTI Tryz.prog 103 (tiOf Tryz.t103 Tryz.t103) := goodTI (by kernel_rfl) (by kernel_rfl) (by kernel_rfl)
theorem good104 : GoodTI Tryz.prog 104 (tiOf Tryz.t104 Tryz.t104) := goodTI (by kernel_rfl) (by kernel_rfl) (by kernel_rfl)
theorem good105 : GoodTI Tryz.prog 105 (tiOf Tryz.t105 Tryz.t105) := goodTI (by kernel_rfl) (by kernel_rfl) (by kernel_rfl)
theorem good106 : GoodTI Tryz.prog 106 (tiOf Tryz.t106 Tryz.t106) := goodTI (by kernel_rfl) (by kernel_rfl) (by kernel_rfl)
theorem good107 : GoodTI Tryz.prog 107 (tiOf Tryz.t107 Tryz.t107) := goodTI (by kernel_rfl) (by kernel_rfl) (by kernel_rfl)
theorem good108 : GoodTI Tryz.prog 108 (tiOf Tryz.t108 Tryz.t108) := goodTI (by kernel_rfl) (by kernel_rfl) (by kernel_rfl)
theorem good109 : GoodTI Tryz.prog 109 (tiOf Tryz.t109 Tryz.t3) := goodTI (by kernel_rfl) (by kernel_rfl) (by kernel_rfl)
theorem good110 : GoodTI Tryz.prog 110 (tiOf Tryz.t110 Tryz.t110) := goodTI (by kernel_rfl) (by kernel_rfl) (by kernel_rfl)
theorem good111 : GoodTI Tryz.prog 111 (tiOf Tryz.t111 Tryz.t111) := goodTI (by kernel_rfl) (by kernel_rfl) (by kernel_rfl)
theorem good112 : GoodTI Tryz.prog 112 (tiOf Tryz.t112 Tryz.t112) := goodTI (by kernel_rfl) (by kernel_rfl) (by kernel_rfl)
theorem good113 : GoodTI Tryz.prog 113 (tiOf Tryz.t113 Tryz.t113) := goodTI (by kernel_rfl) (by kernel_rfl) (by kernel_rfl)
theorem good114 : GoodTI Tryz.prog 114 (tiOf Tryz.t114 Tryz.t114) := goodTI (by kernel_rfl) (by kernel_rfl) (by kernel_rfl)
theorem good115 : GoodTI Tryz.prog 115 (tiOf Tryz.t115 Tryz.t115) := goodTI (by kernel_rfl) (by kernel_rfl) (by kernel_rfl)
theorem good116 : GoodTI Tryz.prog 116 (tiOf Tryz.t116 Tryz.t116) := goodTI (by kernel_rfl) (by kernel_rfl) (by kernel_rfl)
theorem good117 : GoodTI Tryz.prog 117 (tiOf Tryz.t117 Tryz.t117) := goodTI (by kernel_rfl) (by kernel_rfl) (by kernel_rfl)
theorem good118 : GoodTI Tryz.prog 118 (tiOf Tryz.t118 Tryz.t118) := goodTI (by kernel_rfl) (by kernel_rfl) (by kernel_rfl)
theorem good119 : GoodTI Tryz.prog 119 (tiOf Tryz.t119 Tryz.t119) := goodTI (by kernel_rfl) (by kernel_rfl) (by kernel_rfl)
theorem good120 : GoodTI Tryz.prog 120 (tiOf Tryz.t120 Tryz.t120) := goodTI (by kernel_rfl) (by kernel_rfl) (by kernel_rfl)
theorem good121 : GoodTI Tryz.prog 121 (tiOf Tryz.t121 Tryz.t120) := goodTI (by kernel_rfl) (by kernel_rfl) (by kernel_rfl)
theorem good122 : GoodTI Tryz.prog 122 (tiOf Tryz.t122 Tryz.t122) := goodTI (by kernel_rfl) (by kernel_rfl) (by kernel_rfl)
theorem good123 : GoodTI Tryz.prog 123 (tiOf Tryz.t123 Tryz.t123) := goodTI (by kernel_rfl) (by kernel_rfl) (by kernel_rfl)
theorem good124 : GoodTI Tryz.prog 124 (tiOf Tryz.t124 Tryz.t124) := goodTI (by kernel_rfl) (by kernel_rfl) (by kernel_rfl)
theorem good125 : GoodTI Tryz.prog 125 (tiOf Tryz.t125 Tryz.t125) := goodTI (by kernel_rfl) (by kernel_rfl) (by kernel_rfl)
theorem good126 : GoodTI Tryz.prog 126 (tiOf Tryz.t126 Tryz.t126) := goodTI (by kernel_rfl) (by kernel_rfl) (by kernel_rfl)
theorem good127 : GoodTI Tryz.prog 127 (tiOf Tryz.t127 Tryz.t127) := goodTI (by kernel_rfl) (by kernel_rfl) (by kernel_rfl)
theorem good128 : GoodTI Tryz.prog 128 (tiOf Tryz.t128 Tryz.t128) := goodTI (by kernel_rfl) (by kernel_rfl) (by kernel_rfl)
theorem good129 : GoodTI Tryz.prog 129 (tiOf Tryz.t129 Tryz.t129) := goodTI (by kernel_rfl) (by kernel_rfl) (by kernel_rfl)
theorem good130 : GoodTI Tryz.prog 130 (tiOf Tryz.t130 Tryz.t130) := goodTI (by kernel_rfl) (by kernel_rfl) (by kernel_rfl)
theorem good131 : GoodTI Tryz.prog 131 (tiOf Tryz.t131 Tryz.t130) := goodTI (by kernel_rfl) (by kernel_rfl) (by kernel_rfl)
theorem good132 : GoodTI Tryz.prog 132 (tiOf Tryz.t132 Tryz.t132) := goodTI (by kernel_rfl) (by kernel_rfl) (by kernel_rfl)
theorem good133 : GoodTI Tryz.prog 133 (tiOf Tryz.t133 Tryz.t133) := goodTI (by kernel_rfl) (by kernel_rfl) (by kernel_rfl)
theorem good134 : GoodTI Tryz.prog 134 (tiOf Tryz.t134 Tryz.t134) := goodTI (by kernel_rfl) (by kernel_rfl) (by kernel_rfl)
theorem good135 : GoodTI Tryz.prog 135 (tiOf Tryz.t135 Tryz.t135) := goodTI (by kernel_rfl) (by kernel_rfl) (by kernel_rfl)
theorem good136 : GoodTI Tryz.prog 136 (tiOf Tryz.t136 Tryz.t136) := goodTI (by kernel_rfl) (by kernel_rfl) (by kernel_rfl)
theorem good137 : GoodTI Tryz.prog 137 (tiOf Tryz.t137 Tryz.t137) := goodTI (by kernel_rfl) (by kernel_rfl) (by kernel_rfl)
theorem good138 : GoodTI Tryz.prog 138 (tiOf Tryz.t138 Tryz.t138) := goodTI (by kernel_rfl) (by kernel_rfl) (by kernel_rfl)
theorem good139 : GoodTI Tryz.prog 139 (tiOf Tryz.t139 Tryz.t139) := goodTI (by kernel_rfl) (by kernel_rfl) (by kernel_rfl)
theorem good140 : GoodTI Tryz.prog 140 (tiOf Tryz.t140 Tryz.t140) := goodTI (by kernel_rfl) (by kernel_rfl) (by kernel_rfl)
theorem good141 : GoodTI Tryz.prog 141 (tiOf Tryz.t141 Tryz.t141) := goodTI (by kernel_rfl) (by kernel_rfl) (by kernel_rfl)
theorem good142 : GoodTI Tryz.prog 142 (tiOf Tryz.t142 Tryz.t142) := goodTI (by kernel_rfl) (by kernel_rfl) (by kernel_rfl)
theorem good143 : GoodTI Tryz.prog 143 (tiOf Tryz.t143 Tryz.t143) := goodTI (by kernel_rfl) (by kernel_rfl) (by kernel_rfl)
theorem good144 : GoodTI Tryz.prog 144 (tiOf Tryz.t144 Tryz.t144) := goodTI (by kernel_rfl) (by kernel_rfl) (by kernel_rfl)
theorem good145 : GoodTI Tryz.prog 145 (tiOf Tryz.t145 Tryz.t145) := goodTI (by kernel_rfl) (by kernel_rfl) (by kernel_rfl)
theorem good146 : GoodTI Tryz.prog 146 (tiOf Tryz.t146 Tryz.t146) := goodTI (by kernel_rfl) (by kernel_rfl) (by kernel_rfl)
theorem good147 : GoodTI Tryz.prog 147 (tiOf Tryz.t147 Tryz.t147) := goodTI (by kernel_rfl) (by kernel_rfl) (by kernel_rfl)
theorem good148 : GoodTI Tryz.prog 148 (tiOf Tryz.t148 Tryz.t148) := goodTI (by kernel_rfl) (by kernel_rfl) (by kernel_rfl)
theorem good149 : GoodTI Tryz.prog 149 (tiOf Tryz.t149 Tryz.t149) := goodTI (by kernel_rfl) (by kernel_rfl) (by kernel_rfl)
theorem good150 : GoodTI Tryz.prog 150 (tiOf Tryz.t150 Tryz.t150) := goodTI (by kernel_rfl) (by kernel_rfl) (by kernel_rfl)
theorem good151 : GoodTI Tryz.prog 151 (tiOf Tryz.t151 Tryz.t151) := goodTI (by kernel_rfl) (by kernel_rfl) (by kernel_rfl)
theorem good153 : GoodTI Tryz.prog 153 (tiOf Tryz.t153 Tryz.t153) := goodTI (by kernel_rfl) (by kernel_rfl) (by kernel_rfl)
theorem good154 : GoodTI Tryz.prog 154 (tiOf Tryz.t154 Tryz.t154) := goodTI (by kernel_rfl) (by kernel_rfl) (by kernel_rfl)
theorem good158 : GoodTI Tryz.prog 158 (tiOf Tryz.t158 Tryz.t158) := goodTI (by kernel_rfl) (by kernel_rfl) (by kernel_rfl)
theorem good161 : GoodTI Tryz.prog 161 (tiOf Tryz.t161 Tryz.t161) := goodTI (by kernel_rfl) (by kernel_rfl) (by kernel_rfl)
theorem tbl_ok : AllT Tryz.prog tbl := ⟨⟨⟨⟨⟨⟨⟨⟨trivial, good1, trivial⟩, good2, trivial⟩, good3, ⟨trivial, good4, trivial⟩⟩, good5, ⟨⟨⟨trivial, good7, trivial⟩, good9, trivial⟩, good12, ⟨trivial, good13, trivial⟩⟩⟩, good15, ⟨⟨⟨⟨trivial, good16, trivial⟩, good17, trivial⟩, good18, ⟨trivial, good20, trivial⟩⟩, good21, ⟨⟨trivial, good22, trivial⟩, good23, ⟨trivial, good24, trivial⟩⟩⟩⟩, good25, ⟨⟨⟨⟨⟨trivial, good26, trivial⟩, good27, trivial⟩, good28, ⟨trivial, good29, trivial⟩⟩, good30, ⟨⟨⟨trivial, good31, trivial⟩, good32, trivial⟩, good33, ⟨trivial, good34, trivial⟩⟩⟩, good35, ⟨⟨⟨⟨trivial, good36, trivial⟩, good37, trivial⟩, good38, ⟨trivial, good39, trivial⟩⟩, good40, ⟨⟨trivial, good41, trivial⟩, good42, ⟨trivial, good43, trivial⟩⟩⟩⟩⟩, good44, ⟨⟨⟨⟨⟨⟨trivial, good45, trivial⟩, good46, trivial⟩, good47, ⟨trivial, good48, trivial⟩⟩, good49, ⟨⟨⟨trivial, good50, trivial⟩, good51, trivial⟩, good52, ⟨trivial, good53, trivial⟩⟩⟩, good54, ⟨⟨⟨⟨trivial, good55, trivial⟩, good56, trivial⟩, good57, ⟨trivial, good58, trivial⟩⟩, good59, ⟨⟨trivial, good60, trivial⟩, good61, ⟨trivial, good62, trivial⟩⟩⟩⟩, good63, ⟨⟨⟨⟨⟨trivial, good64, trivial⟩, good65, trivial⟩, good66, ⟨trivial, good67, trivial⟩⟩, good68, ⟨⟨trivial, good69, trivial⟩, good70, ⟨trivial, good71, trivial⟩⟩⟩, good72, ⟨⟨⟨⟨trivial, good73, trivial⟩, good74, trivial⟩, good75, ⟨trivial, good76, trivial⟩⟩, good77, ⟨⟨trivial, good78, trivial⟩, good79, ⟨trivial, good80, trivial⟩⟩⟩⟩⟩⟩, good81, ⟨⟨⟨⟨⟨⟨⟨trivial, good82, trivial⟩, good83, trivial⟩, good84, ⟨trivial, good85, trivial⟩⟩, good86, ⟨⟨⟨trivial, good87, trivial⟩, good88, trivial⟩, good89, ⟨trivial, good90, trivial⟩⟩⟩, good91, ⟨⟨⟨⟨trivial, good92, trivial⟩, good93, trivial⟩, good94, ⟨trivial, good95, trivial⟩⟩, good96, ⟨⟨trivial, good97, trivial⟩, good98, ⟨trivial, good99, trivial⟩⟩⟩⟩, good100, ⟨⟨⟨⟨⟨trivial, good101, trivial⟩, good102, trivial⟩, good103, ⟨trivial, good104, trivial⟩⟩, good105, ⟨⟨⟨trivial, good106, trivial⟩, good107, trivial⟩, good108, ⟨trivial, good109, trivial⟩⟩⟩, good110, ⟨⟨⟨⟨trivial, good111, trivial⟩, good112, trivial⟩, good113, ⟨trivial, good114, trivial⟩⟩, good115, ⟨⟨trivial, good116, trivial⟩, good117, ⟨trivial, good118, trivial⟩⟩⟩⟩⟩, good119, ⟨⟨⟨⟨⟨⟨trivial, good120, trivial⟩, good121, trivial⟩, good122, ⟨trivial, good123, trivial⟩⟩, good124, ⟨⟨⟨trivial, good125, trivial⟩, good126, trivial⟩, good127, ⟨trivial, good128, trivial⟩⟩⟩, good129, ⟨⟨⟨⟨trivial, good130, trivial⟩, good131, trivial⟩, good132, ⟨trivial, good133, trivial⟩⟩, good134, ⟨⟨trivial, good135, trivial⟩, good136, ⟨trivial, good137, trivial⟩⟩⟩⟩, good138, ⟨⟨⟨⟨⟨trivial, good139, trivial⟩, good140, trivial⟩, good141, ⟨trivial, good142, trivial⟩⟩, good143, ⟨⟨trivial, good144, trivial⟩, good145, ⟨trivial, good146, trivial⟩⟩⟩, good147, ⟨⟨⟨⟨trivial, good148, trivial⟩, good149, trivial⟩, good150, ⟨trivial, good151, trivial⟩⟩, good153, ⟨⟨trivial, good154, trivial⟩, good158, ⟨trivial, good161, trivial⟩⟩⟩⟩⟩⟩⟩
def fieldsIn (P : Program) (d : TypeDesc) : Bool := match d with | .struct fs => fs.toList.all fun f => (P.info? f.type).isSome | _ => true
def AllF (P : Program) : TT → Bool
 | .nil => true
 | .node l _ i r => AllF P l && (fieldsIn P i.u && AllF P r)
theorem getT_mem : ∀ {l : TT} {P : Program}, AllF P l = true → ∀ t i, getT l t = some i → fieldsIn P i.u = true
 | .nil, _, _, t, i, h => by cases h
 | .node l k x r, P, hl, t, i, h => by
  simp only [AllF, Bool.and_eq_true] at hl
  simp only [getT] at h
  cases hb : Nat.beq t k with
  | true => simp only [hb, cond_true, Option.some.injEq] at h; subst h; exact hl.2.1
  | false =>
   simp only [hb, cond_false] at h
   cases hc : Nat.blt t k with
   | true => simp only [hc, cond_true] at h; exact getT_mem hl.1 t i h
   | false => simp only [hc, cond_false] at h; exact getT_mem hl.2.2 t i h
theorem fields_ok {P : Program} {d : TypeDesc} (h : fieldsIn P d = true) : ∀ fs, d = .struct fs → ∀ f ∈ fs.toList, ∃ j, P.info? f.type = some j := by
 intro fs hd f hf
 subst hd
 have := List.all_eq_true.1 h f hf
 exact Option.isSome_iff_exists.1 this
noncomputable def tab : Tab Tryz.prog := ⟨getT tbl, getT_ok tbl_ok, fun t i h => fields_ok (getT_mem (by kernel_rfl) t i h)⟩
theorem mixed : Tryz.prog.follows .mixedOrders = true := by kernel_rfl
theorem goes8 : Goes Tryz.prog 8 := Goes.mk' Tryz.func8 (by kernel_rfl) (by kernel_rfl)
theorem goes10 : Goes Tryz.prog 10 := Goes.mk' Tryz.func10 (by kernel_rfl) (by kernel_rfl)
theorem goes12 : Goes Tryz.prog 12 := Goes.mk' Tryz.func12 (by kernel_rfl) (by kernel_rfl)
theorem goes13 : Goes Tryz.prog 13 := Goes.mk' Tryz.func13 (by kernel_rfl) (by kernel_rfl)
theorem goes14 : Goes Tryz.prog 14 := Goes.mk' Tryz.func14 (by kernel_rfl) (by kernel_rfl)
theorem goes16 : Goes Tryz.prog 16 := Goes.mk' Tryz.func16 (by kernel_rfl) (by kernel_rfl)
theorem goes18 : Goes Tryz.prog 18 := Goes.mk' Tryz.func18 (by kernel_rfl) (by kernel_rfl)
theorem goes19 : Goes Tryz.prog 19 := Goes.mk' Tryz.func19 (by kernel_rfl) (by kernel_rfl)
theorem goes20 : Goes Tryz.prog 20 := Goes.mk' Tryz.func20 (by kernel_rfl) (by kernel_rfl)
theorem goes22 : Goes Tryz.prog 22 := Goes.mk' Tryz.func22 (by kernel_rfl) (by kernel_rfl)
theorem goes24 : Goes Tryz.prog 24 := Goes.mk' Tryz.func24 (by kernel_rfl) (by kernel_rfl)
theorem goes25 : Goes Tryz.prog 25 := Goes.mk' Tryz.func25 (by kernel_rfl) (by kernel_rfl)
theorem goes26 : Goes Tryz.prog 26 := Goes.mk' Tryz.func26 (by kernel_rfl) (by kernel_rfl)
theorem goes27 : Goes Tryz.prog 27 := Goes.mk' Tryz.func27 (by kernel_rfl) (by kernel_rfl)
theorem goes28 : Goes Tryz.prog 28 := Goes.mk' Tryz.func28 (by kernel_rfl) (by kernel_rfl)
theorem goes29 : Goes Tryz.prog 29 := Goes.mk' Tryz.func29 (by kernel_rfl) (by kernel_rfl)
theorem goes30 : Goes Tryz.prog 30 := Goes.mk' Tryz.func30 (by kernel_rfl) (by kernel_rfl)
theorem goes31 : Goes Tryz.prog 31 := Goes.mk' Tryz.func31 (by kernel_rfl) (by kernel_rfl)
theorem goes32 : Goes Tryz.prog 32 := Goes.mk' Tryz.func32 (by kernel_rfl) (by kernel_rfl)
theorem goes41 : Goes Tryz.prog 41 := Goes.mk' Tryz.func41 (by kernel_rfl) (by kernel_rfl)
theorem goes42 : Goes Tryz.prog 42 := Goes.mk' Tryz.func42 (by kernel_rfl) (by kernel_rfl)
theorem goes43 : Goes Tryz.prog 43 := Goes.mk' Tryz.func43 (by kernel_rfl) (by kernel_rfl)
theorem goes44 : Goes Tryz.prog 44 := Goes.mk' Tryz.func44 (by kernel_rfl) (by kernel_rfl)
theorem goes45 : Goes Tryz.prog 45 := Goes.mk' Tryz.func45 (by kernel_rfl) (by kernel_rfl)
theorem goes46 : Goes Tryz.prog 46 := Goes.mk' Tryz.func46 (by kernel_rfl) (by kernel_rfl)
theorem goes47 : Goes Tryz.prog 47 := Goes.mk' Tryz.func47 (by kernel_rfl) (by kernel_rfl)
theorem goes48 : Goes Tryz.prog 48 := Goes.mk' Tryz.func48 (by kernel_rfl) (by kernel_rfl)
theorem goes49 : Goes Tryz.prog 49 := Goes.mk' Tryz.func49 (by kernel_rfl) (by kernel_rfl)
theorem goes50 : Goes Tryz.prog 50 := Goes.mk' Tryz.func50 (by kernel_rfl) (by kernel_rfl)
theorem goes51 : Goes Tryz.prog 51 := Goes.mk' Tryz.func51 (by kernel_rfl) (by kernel_rfl)
theorem goes52 : Goes Tryz.prog 52 := Goes.mk' Tryz.func52 (by kernel_rfl) (by kernel_rfl)
theorem goes53 : Goes Tryz.prog 53 := Goes.mk' Tryz.func53 (by kernel_rfl) (by kernel_rfl)
theorem goes54 : Goes Tryz.prog 54 := Goes.mk' Tryz.func54 (by kernel_rfl) (by kernel_rfl)
theorem goes55 : Goes Tryz.prog 55 := Goes.mk' Tryz.func55 (by kernel_rfl) (by kernel_rfl)
theorem goes56 : Goes Tryz.prog 56 := Goes.mk' Tryz.func56 (by kernel_rfl) (by kernel_rfl)
theorem goes57 : Goes Tryz.prog 57 := Goes.mk' Tryz.func57 (by kernel_rfl) (by kernel_rfl)
theorem goes58 : Goes Tryz.prog 58 := Goes.mk' Tryz.func58 (by kernel_rfl) (by kernel_rfl)
theorem goes59 : Goes Tryz.prog 59 := Goes.mk' Tryz.func59 (by kernel_rfl) (by kernel_rfl)
theorem goes60 : Goes Tryz.prog 60 := Goes.mk' Tryz.func60 (by kernel_rfl) (by kernel_rfl)
theorem goes61 : Goes Tryz.prog 61 := Goes.mk' Tryz.func61 (by kernel_rfl) (by kernel_rfl)
theorem goes62 : Goes Tryz.prog 62 := Goes.mk' Tryz.func62 (by kernel_rfl) (by kernel_rfl)
theorem goes63 : Goes Tryz.prog 63 := Goes.mk' Tryz.func63 (by kernel_rfl) (by kernel_rfl)
theorem goes64 : Goes Tryz.prog 64 := Goes.mk' Tryz.func64 (by kernel_rfl) (by kernel_rfl)
theorem goes65 : Goes Tryz.prog 65 := Goes.mk' Tryz.func65 (by kernel_rfl) (by kernel_rfl)
theorem goes66 : Goes Tryz.prog 66 := Goes.mk' Tryz.func66 (by kernel_rfl) (by kernel_rfl)
theorem goes67 : Goes Tryz.prog 67 := Goes.mk' Tryz.func67 (by kernel_rfl) (by kernel_rfl)
theorem goes68 : Goes Tryz.prog 68 := Goes.mk' Tryz.func68 (by kernel_rfl) (by kernel_rfl)
theorem goes69 : Goes Tryz.prog 69 := Goes.mk' Tryz.func69 (by kernel_rfl) (by kernel_rfl)
theorem goes70 : Goes Tryz.prog 70 := Goes.mk' Tryz.func70 (by kernel_rfl) (by kernel_rfl)
theorem goes71 : Goes Tryz.prog 71 := Goes.mk' Tryz.func71 (by kernel_rfl) (by kernel_rfl)
theorem goes72 : Goes Tryz.prog 72 := Goes.mk' Tryz.func72 (by kernel_rfl) (by kernel_rfl)
theorem goes73 : Goes Tryz.prog 73 := Goes.mk' Tryz.func73 (by kernel_rfl) (by kernel_rfl)
theorem goes77 : Goes Tryz.prog 77 := Goes.mk' Tryz.func77 (by kernel_rfl) (by kernel_rfl)
theorem goes82 : Goes Tryz.prog 82 := Goes.mk' Tryz.func82 (by kernel_rfl) (by kernel_rfl)
theorem goes83 : Goes Tryz.prog 83 := Goes.mk' Tryz.func83 (by kernel_rfl) (by kernel_rfl)
theorem goes84 : Goes Tryz.prog 84 := Goes.mk' Tryz.func84 (by kernel_rfl) (by kernel_rfl)
theorem goes85 : Goes Tryz.prog 85 := Goes.mk' Tryz.func85 (by kernel_rfl) (by kernel_rfl)
theorem goes86 : Goes Tryz.prog 86 := Goes.mk' Tryz.func86 (by kernel_rfl) (by kernel_rfl)
theorem goes87 : Goes Tryz.prog 87 := Goes.mk' Tryz.func87 (by kernel_rfl) (by kernel_rfl)
theorem goes88 : Goes Tryz.prog 88 := Goes.mk' Tryz.func88 (by kernel_rfl) (by kernel_rfl)
theorem goes89 : Goes Tryz.prog 89 := Goes.mk' Tryz.func89 (by kernel_rfl) (by kernel_rfl)
theorem goes90 : Goes Tryz.prog 90 := Goes.mk' Tryz.func90 (by kernel_rfl) (by kernel_rfl)
theorem goes91 : Goes Tryz.prog 91 := Goes.mk' Tryz.func91 (by kernel_rfl) (by kernel_rfl)
theorem goes92 : Goes Tryz.prog 92 := Goes.mk' Tryz.func92 (by kernel_rfl) (by kernel_rfl)
theorem goes93 : Goes Tryz.prog 93 := Goes.mk' Tryz.func93 (by kernel_rfl) (by kernel_rfl)
theorem goes94 : Goes Tryz.prog 94 := Goes.mk' Tryz.func94 (by kernel_rfl) (by kernel_rfl)
theorem goes95 : Goes Tryz.prog 95 := Goes.mk' Tryz.func95 (by kernel_rfl) (by kernel_rfl)
theorem goes96 : Goes Tryz.prog 96 := Goes.mk' Tryz.func96 (by kernel_rfl) (by kernel_rfl)
theorem goes97 : Goes Tryz.prog 97 := Goes.mk' Tryz.func97 (by kernel_rfl) (by kernel_rfl)
theorem goes98 : Goes Tryz.prog 98 := Goes.mk' Tryz.func98 (by kernel_rfl) (by kernel_rfl)
theorem goes99 : Goes Tryz.prog 99 := Goes.mk' Tryz.func99 (by kernel_rfl) (by kernel_rfl)
theorem goes100 : Goes Tryz.prog 100 := Goes.mk' Tryz.func100 (by kernel_rfl) (by kernel_rfl)
theorem goes101 : Goes Tryz.prog 101 := Goes.mk' Tryz.func101 (by kernel_rfl) (by kernel_rfl)
theorem goes102 : Goes Tryz.prog 102 := Goes.mk' Tryz.func102 (by kernel_rfl) (by kernel_rfl)
theorem goes103 : Goes Tryz.prog 103 := Goes.mk' Tryz.func103 (by kernel_rfl) (by kernel_rfl)
theorem goes104 : Goes Tryz.prog 104 := Goes.mk' Tryz.func104 (by kernel_rfl) (by kernel_rfl)
theorem goes105 : Goes Tryz.prog 105 := Goes.mk' Tryz.func105 (by kernel_rfl) (by kernel_rfl)
theorem goes109 : Goes Tryz.prog 109 := Goes.mk' Tryz.func109 (by kernel_rfl) (by kernel_rfl)
theorem goes110 : Goes Tryz.prog 110 := Goes.mk' Tryz.func110 (by kernel_rfl) (by kernel_rfl)
theorem goes111 : Goes Tryz.prog 111 := Goes.mk' Tryz.func111 (by kernel_rfl) (by kernel_rfl)
theorem goes112 : Goes Tryz.prog 112 := Goes.mk' Tryz.func112 (by kernel_rfl) (by kernel_rfl)
theorem goes113 : Goes Tryz.prog 113 := Goes.mk' Tryz.func113 (by kernel_rfl) (by kernel_rfl)
theorem goes114 : Goes Tryz.prog 114 := Goes.mk' Tryz.func114 (by kernel_rfl) (by kernel_rfl)
theorem goes116 : Goes Tryz.prog 116 := Goes.mk' Tryz.func116 (by kernel_rfl) (by kernel_rfl)
theorem goes117 : Goes Tryz.prog 117 := Goes.mk' Tryz.func117 (by kernel_rfl) (by kernel_rfl)
theorem goes118 : Goes Tryz.prog 118 := Goes.mk' Tryz.func118 (by kernel_rfl) (by kernel_rfl)
theorem goes121 : Goes Tryz.prog 121 := Goes.mk' Tryz.func121 (by kernel_rfl) (by kernel_rfl)
theorem goes122 : Goes Tryz.prog 122 := Goes.mk' Tryz.func122 (by kernel_rfl) (by kernel_rfl)
theorem goes123 : Goes Tryz.prog 123 := Goes.mk' Tryz.func123 (by kernel_rfl) (by kernel_rfl)
theorem goes124 : Goes Tryz.prog 124 := Goes.mk' Tryz.func124 (by kernel_rfl) (by kernel_rfl)
theorem goes125 : Goes Tryz.prog 125 := Goes.mk' Tryz.func125 (by kernel_rfl) (by kernel_rfl)
theorem goes126 : Goes Tryz.prog 126 := Goes.mk' Tryz.func126 (by kernel_rfl) (by kernel_rfl)
theorem goes129 : Goes Tryz.prog 129 := Goes.mk' Tryz.func129 (by kernel_rfl) (by kernel_rfl)
theorem goes130 : Goes Tryz.prog 130 := Goes.mk' Tryz.func130 (by kernel_rfl) (by kernel_rfl)
theorem goes131 : Goes Tryz.prog 131 := Goes.mk' Tryz.func131 (by kernel_rfl) (by kernel_rfl)
theorem goes132 : Goes Tryz.prog 132 := Goes.mk' Tryz.func132 (by kernel_rfl) (by kernel_rfl)
theorem goes134 : Goes Tryz.prog 134 := Goes.mk' Tryz.func134 (by kernel_rfl) (by kernel_rfl)
theorem goes138 : Goes Tryz.prog 138 := Goes.mk' Tryz.func138 (by kernel_rfl) (by kernel_rfl)
theorem goes139 : Goes Tryz.prog 139 := Goes.mk' Tryz.func139 (by kernel_rfl) (by kernel_rfl)
theorem goes140 : Goes Tryz.prog 140 := Goes.mk' Tryz.func140 (by kernel_rfl) (by kernel_rfl)
theorem goes142 : Goes Tryz.prog 142 := Goes.mk' Tryz.func142 (by kernel_rfl) (by kernel_rfl)
theorem goes144 : Goes Tryz.prog 144 := Goes.mk' Tryz.func144 (by kernel_rfl) (by kernel_rfl)
theorem goes147 : Goes Tryz.prog 147 := Goes.mk' Tryz.func147 (by kernel_rfl) (by kernel_rfl)
theorem goes155 : Goes Tryz.prog 155 := Goes.mk' Tryz.func155 (by kernel_rfl) (by kernel_rfl)
theorem goes161 : Goes Tryz.prog 161 := Goes.mk' Tryz.func161 (by kernel_rfl) (by kernel_rfl)
theorem goes162 : Goes Tryz.prog 162 := Goes.mk' Tryz.func162 (by kernel_rfl) (by kernel_rfl)
theorem goes163 : Goes Tryz.prog 163 := Goes.mk' Tryz.func163 (by kernel_rfl) (by kernel_rfl)
theorem goes164 : Goes Tryz.prog 164 := Goes.mk' Tryz.func164 (by kernel_rfl) (by kernel_rfl)
theorem goes165 : Goes Tryz.prog 165 := Goes.mk' Tryz.func165 (by kernel_rfl) (by kernel_rfl)
theorem goes166 : Goes Tryz.prog 166 := Goes.mk' Tryz.func166 (by kernel_rfl) (by kernel_rfl)
theorem goes169 : Goes Tryz.prog 169 := Goes.mk' Tryz.func169 (by kernel_rfl) (by kernel_rfl)
theorem goes170 : Goes Tryz.prog 170 := Goes.mk' Tryz.func170 (by kernel_rfl) (by kernel_rfl)
end Go.Sep


/- SepE -/
set_option linter.unusedVariables false
set_option linter.unusedSimpArgs false
namespace Go.Sep
structure R (H α : Type) where
 size : Nat
 bytes : Nat
 enc : H → List Value
 rep : Mem → H → α → Prop
 enc_len : ∀ h, (enc h).length = size
 one : ∀ h, allOne (enc h) = true
 mono : ∀ {m m' : Mem} {h : H} {a : α}, m ≤ m' → rep m h a → rep m' h a
structure Sl where
 a : Option Addr
 len : Nat
 cap : Nat
@[reducible] def Sl.v (s : Sl) : Value := .slice s.a s.len s.cap
def All2 {H α : Type} (r : H → α → Prop) : List H → List α → Prop
 | [], [] => True
 | h :: hs, a :: as1 => r h a ∧ All2 r hs as1
 | _, _ => False
theorem All2.length {H α : Type} {r : H → α → Prop} : ∀ {hs : List H} {as1 : List α}, All2 r hs as1 → hs.length = as1.length
 | [], [], _ => rfl
 | h :: hs, a :: as1, h2 => by simp [All2.length h2.2]
 | [], _ :: _, h => h.elim
 | _ :: _, [], h => h.elim
theorem All2.mono {H α : Type} {r r' : H → α → Prop} (hr : ∀ h a, r h a → r' h a) : ∀ {hs : List H} {as1 : List α}, All2 r hs as1 → All2 r' hs as1
 | [], [], _ => trivial
 | h :: hs, a :: as1, h2 => ⟨hr _ _ h2.1, All2.mono hr h2.2⟩
 | [], _ :: _, h => h.elim
 | _ :: _, [], h => h.elim
theorem All2.append {H α : Type} {r : H → α → Prop} : ∀ {hs : List H} {as1 : List α} {hs' : List H} {as1' : List α}, All2 r hs as1 → All2 r hs' as1' → All2 r (hs ++ hs') (as1 ++ as1')
 | [], [], _, _, _, h => h
 | h :: hs, a :: as1, _, _, h2, h3 => ⟨h2.1, All2.append h2.2 h3⟩
 | [], _ :: _, _, _, h, _ => h.elim
 | _ :: _, [], _, _, h, _ => h.elim
theorem All2.get {H α : Type} {r : H → α → Prop} : ∀ {hs : List H} {as1 : List α}, All2 r hs as1 → ∀ {k : Nat} {a : α}, as1[k]? = some a → ∃ h, hs[k]? = some h ∧ r h a
 | [], [], _, k, a, hk => by simp at hk
 | h :: hs, a :: as1, h2, 0, b, hk => by simp at hk; subst hk; exact ⟨h, by simp, h2.1⟩
 | h :: hs, a :: as1, h2, k + 1, b, hk => by
  rw [List.getElem?_cons_succ] at hk ⊢
  exact All2.get h2.2 hk
 | [], _ :: _, h, _, _, _ => h.elim
 | _ :: _, [], h, _, _, _ => h.elim
theorem All2.take {H α : Type} {r : H → α → Prop} : ∀ (k : Nat) {hs : List H} {as1 : List α}, All2 r hs as1 → All2 r (hs.take k) (as1.take k)
 | 0, hs, as1, _ => by simp [All2]
 | k + 1, [], [], _ => trivial
 | k + 1, h :: hs, a :: as1, h2 => ⟨h2.1, All2.take k h2.2⟩
 | _ + 1, [], _ :: _, h => h.elim
 | _ + 1, _ :: _, [], h => h.elim
theorem All2.drop {H α : Type} {r : H → α → Prop} : ∀ (k : Nat) {hs : List H} {as1 : List α}, All2 r hs as1 → All2 r (hs.drop k) (as1.drop k)
 | 0, hs, as1, h => h
 | k + 1, [], [], _ => trivial
 | k + 1, h :: hs, a :: as1, h2 => All2.drop k h2.2
 | _ + 1, [], _ :: _, h => h.elim
 | _ + 1, _ :: _, [], h => h.elim
def encs {H α : Type} (r : R H α) (hs : List H) : List Value := hs.flatMap r.enc
theorem encs_len {H α : Type} (r : R H α) : ∀ hs : List H, (encs r hs).length = hs.length * r.size
 | [] => by simp [encs]
 | h :: hs => by
  have := encs_len r hs
  simp only [encs, List.flatMap_cons, List.length_append, r.enc_len, List.length_cons] at this ⊢
  rw [this, Nat.add_mul]; omega
theorem encs_one {H α : Type} (r : R H α) : ∀ hs : List H, allOne (encs r hs) = true
 | [] => rfl
 | h :: hs => by
  have := encs_one r hs
  have h1 := r.one h
  simp only [encs, List.flatMap_cons] at this ⊢
  generalize r.enc h = l at h1
  induction l with
  | nil => exact this
  | cons v l ih => simp only [allOne, Bool.and_eq_true, List.cons_append] at h1 ⊢; exact ⟨h1.1, ih h1.2⟩
theorem encs_append {H α : Type} (r : R H α) (a b : List H) : encs r (a ++ b) = encs r a ++ encs r b := by simp [encs]
theorem encs_get {H α : Type} (r : R H α) : ∀ {hs : List H} {k : Nat} {h : H}, hs[k]? = some h → ∀ (j : Nat) (v : Value), (r.enc h)[j]? = some v → (encs r hs)[k * r.size + j]? = some v
 | [], k, h, hk, _, _, _ => by simp at hk
 | x :: hs, 0, h, hk, j, v, hv => by
  simp at hk; subst hk
  have hj := (List.getElem?_eq_some_iff.1 hv).1
  simp only [encs, List.flatMap_cons, Nat.zero_mul, Nat.zero_add]
  rw [List.getElem?_append_left hj]; exact hv
 | x :: hs, k + 1, h, hk, j, v, hv => by
  rw [List.getElem?_cons_succ] at hk
  have ih := encs_get r hk j v hv
  simp only [encs, List.flatMap_cons] at ih ⊢
  rw [List.getElem?_append_right (by rw [r.enc_len, Nat.add_mul]; omega), r.enc_len, show (k + 1) * r.size + j - r.size = k * r.size + j by rw [Nat.add_mul]; omega]
  exact ih
structure SlRep {H α : Type} (r : R H α) (m : Mem) (s : Sl) (l : List α) : Prop where
 len : s.len = l.length
 cap : s.len ≤ s.cap
 fit : s.len * r.bytes ≤ 140737488355328
 cells : ∃ hs, All2 (r.rep m) hs l ∧ ((l = [] ∧ (s.a = none → s.cap = 0)) ∨ ∃ b o, s.a = some ⟨b, o, none⟩ ∧ At m b o (encs r hs))
theorem SlRep.mono {H α : Type} {r : R H α} {m m' : Mem} {s : Sl} {l : List α} (h : SlRep r m s l) (hm : m ≤ m') : SlRep r m' s l := by
 obtain ⟨hs, h1, h2⟩ := h.cells
 refine ⟨h.len, h.cap, h.fit, hs, h1.mono fun _ _ => r.mono hm, ?_⟩
 rcases h2 with h2 | ⟨b, o, h3, h4⟩
 ·exact .inl h2
 ·exact .inr ⟨b, o, h3, h4.mono hm⟩
theorem SlRep.small {H α : Type} {r : R H α} {m : Mem} {s : Sl} {l : List α} (h : SlRep r m s l) (hb : Nat.blt 0 r.bytes = true) : l.length ≤ 140737488355328 := by
 have h1 : 0 < r.bytes := by simpa [Nat.blt_eq] using hb
 have := h.fit
 rw [← h.len]
 exact Nat.le_trans (Nat.le_mul_of_pos_right _ h1) this
theorem SlRep.nil {H α : Type} (r : R H α) (m : Mem) : SlRep r m ⟨none, 0, 0⟩ ([] : List α) :=
 ⟨rfl, Nat.le_refl _, by simp, [], trivial, .inl ⟨rfl, fun _ => rfl⟩⟩
theorem SlRep.elem {H α : Type} {r : R H α} {m : Mem} {s : Sl} {l : List α} (h : SlRep r m s l) {k : Nat} {a : α} (hk : l[k]? = some a) :
  ∃ b o hd, s.a = some ⟨b, o, none⟩ ∧ r.rep m hd a ∧ At m b (o + k * r.size) (r.enc hd) := by
 obtain ⟨hs, h1, h2⟩ := h.cells
 obtain ⟨hd, h3, h4⟩ := h1.get hk
 rcases h2 with ⟨h2, _⟩ | ⟨b, o, h5, h6⟩
 ·subst h2; simp at hk
 ·refine ⟨b, o, hd, h5, h4, fun j v hv => ?_⟩
  rw [Nat.add_assoc]
  exact h6 _ _ (encs_get r h3 j v hv)
def rInt : R Int Int where
 size := 1
 bytes := 8
 enc n := [.int .i64 n]
 rep _ h a := h = a
 enc_len _ := rfl
 one _ := rfl
 mono _ h := h
abbrev Str := List UInt8
@[reducible] def strV (s : Str) : Value := .string ⟨⟨s⟩⟩
def rStr : R Str Str where
 size := 1
 bytes := 16
 enc s := [strV s]
 rep _ h a := h = a
 enc_len _ := rfl
 one _ := rfl
 mono _ h := h
def rSl {H α : Type} (r : R H α) : R Sl (List α) where
 size := 1
 bytes := 24
 enc s := [s.v]
 rep m s l := SlRep r m s l
 enc_len _ := rfl
 one _ := rfl
 mono hm h := h.mono hm
section
variable {P : Program} {N : Nat} {ρ : Env} {D : List Deferred} {m : Mem} {L : List Item} {Q : EPost} {full : List Oper} {o : Oper} {K : Env → Mem → List Item → Prop}
def Tab.elem {P : Program} (T : Tab P) (t : TypeId) : Option (TypeId × TI) :=
 match T.get t with
 | some ⟨.slice e, _, _, _⟩ => match T.get e with
  | some i => some (e, i)
  | none => none
 | _ => none
theorem elem_get {T : Tab P} {t e : TypeId} {i : TI} (h : T.elem t = some (e, i)) : ∃ ti, T.get t = some ti ∧ ti.u = .slice e ∧ T.get e = some i := by
 unfold Tab.elem at h
 split at h
 ·rename_i e' a b c hg
  split at h
  ·rename_i j hj
   simp only [Option.some.injEq, Prod.mk.injEq] at h
   obtain ⟨rfl, rfl⟩ := h
   exact ⟨_, hg, rfl, hj⟩
  ·cases h
 ·cases h
def Tab.esize {P : Program} (T : Tab P) (t : TypeId) : Option Nat :=
 match T.elem t with
 | some (_, i) => some i.size
 | none => none
theorem esize_get {T : Tab P} {t : TypeId} {n : Nat} (h : T.esize t = some n) : ∃ e i, T.elem t = some (e, i) ∧ i.size = n := by
 unfold Tab.esize at h
 split at h
 ·rename_i e i he
  simp only [Option.some.injEq] at h
  exact ⟨e, i, he, h⟩
 ·cases h
theorem run_indexAddr (T : Tab P) {t : TypeId} {n sz len cap : Nat} {ad : Addr} {i : Int} {k : IntKind} {w : World} (he : T.esize t = some sz) (h0 : 0 ≤ i) (h1 : i < len) :
  (Instr.indexAt t (.slice (some ad) len cap) (.int k i)).run P w = .ok (.pointer (some (ad.add (i.toNat * sz)))) w := by
 obtain ⟨e, ei, h2, h3⟩ := esize_get he
 obtain ⟨ti, h4, h5, h6⟩ := elem_get h2
 have hu := T.run_underlying w h4
 rw [h5] at hu
 simp only [Instr.indexAt, Sem.run_bind, asIntOf, Sem.run_pure, Result.andThen_ok, hu]
 rw [if_pos ⟨h0, h1⟩]
 simp only [Sem.run_bind, T.run_sizeOf w h6, Result.andThen_ok, Sem.run_pure, h3]
theorem OT.index {H α : Type} (T : Tab P) (r : R H α) {s : Sl} {l : List α} (k : Nat) {x y : Operand} {t : TypeId} {d : Nat} {a : α} (hs : SlRep r m s l)
  (ho : o.op = .indexAddr t x y) (hd : o.dst = some d) (hN : Nat.blt d N = true) (hx : ev ρ x = some s.v) {iv : Int} (hy : ev ρ y = some (.int .i64 iv)) (hik : iv = (k : Int)) (hsz : T.esize t = some r.size) (hk : l[k]? = some a)
  (hK : ∀ b i hd', r.rep m hd' a → At m b i (r.enc hd') → K ((d, .pointer (some ⟨b, i, none⟩)) :: ρ) m L) : OT P N o ρ D m L Q K := by
 subst hik
 obtain ⟨b, i, hd', h1, h2, h3⟩ := hs.elem hk
 have hlt : k < s.len := by rw [hs.len]; exact (List.getElem?_eq_some_iff.1 hk).1
 refine OT.run hd hN (fun ac w ha => ⟨w, ?_, ha.st⟩) (hK b (i + k * r.size) hd' h2 h3)
 have hx' := ha.env.eval hx
 simp only [Sl.v, h1] at hx'
 have := run_indexAddr (P := P) T (n := 0) (len := s.len) (cap := s.cap) (ad := ⟨b, i, none⟩) (k := .i64) (w := w) hsz (Int.natCast_nonneg k) (by omega : (k : Int) < s.len)
 rw [addr_add, Int.toNat_natCast] at this
 simp only [execOp, ho, hx', ha.env.eval hy, Sem.run_bind, this, Result.andThen_ok, Sem.run_pure]
theorem OT.indexP (T : Tab P) (k : Nat) {x y : Operand} {t : TypeId} {d b i n c sz : Nat}
  (ho : o.op = .indexAddr t x y) (hd : o.dst = some d) (hN : Nat.blt d N = true) (hx : ev ρ x = some (.slice (some ⟨b, i, none⟩) n c)) {iv : Int} (hy : ev ρ y = some (.int .i64 iv)) (hik : iv = (k : Int)) (hsz : T.esize t = some sz) (hk : k < n)
  (hK : K ((d, .pointer (some ⟨b, i + k * sz, none⟩)) :: ρ) m L) : OT P N o ρ D m L Q K := by
 subst hik
 refine OT.run hd hN (fun ac w ha => ⟨w, ?_, ha.st⟩) hK
 have := run_indexAddr (P := P) T (n := 0) (cap := c) (ad := ⟨b, i, none⟩) (k := .i64) (w := w) hsz (Int.natCast_nonneg k) (by omega : (k : Int) < n)
 rw [addr_add, Int.toNat_natCast] at this
 simp only [execOp, ho, ha.env.eval hx, ha.env.eval hy, Sem.run_bind, this, Result.andThen_ok, Sem.run_pure]
end
end Go.Sep


/- SepF -/
set_option linter.unusedVariables false
set_option linter.unusedSimpArgs false
namespace Go.Sep
def tok (s : Sl) (size : Nat) : Item :=
 match s.a with
 | none => .room 0 0 0
 | some a => .room a.block (a.off + s.len * size) ((s.cap - s.len) * size)
def Own (s : Sl) : Prop := s = ⟨none, 0, 0⟩ ∨ ∃ b o, s.a = some ⟨b, o, none⟩
def Src (w : World) (s : Sl) (size : Nat) (news : List Value) : Prop :=
 news.length = s.len * size ∧ (s.len = 0 ∨ ∃ b o, s.a = some ⟨b, o, none⟩ ∧ Cells w b o news)
theorem Src.drew {w : World} {s : Sl} {size : Nat} {news : List Value} (h : Src w s size news) : Src w.drew s size news := h
theorem run_first {P : Program} {w : World} {s : Sl} {size : Nat} {news : List Value} (h : Src w s size news) : (Builtin.firstCells size s.len s.v).run P w = .ok ⟨news⟩ w := by
 obtain ⟨h1, h2⟩ := h
 obtain ⟨a, n, c⟩ := s
 simp only at h1 h2
 cases a with
 | none =>
  rcases h2 with h2 | ⟨b, o, h3, _⟩
  ·subst h2
   have : news = [] := List.eq_nil_of_length_eq_zero (by omega)
   subst this
   rfl
  ·cases h3
 | some a =>
  simp only [Sl.v, Builtin.firstCells]
  rw [← h1]
  refine run_loadCells_list w a news fun j v hv => ?_
  rcases h2 with h2 | ⟨b, o, h3, h4⟩
  ·subst h2
   have : news = [] := List.eq_nil_of_length_eq_zero (by omega)
   subst this
   simp at hv
  ·cases h3
   rw [addr_add]
   exact h4 j v hv
theorem At.append {m : Mem} {b o : Nat} {xs ys : List Value} (h : At m b o xs) (h2 : At m b (o + xs.length) ys) : At m b o (xs ++ ys) := by
 intro j v hv
 rcases Nat.lt_or_ge j xs.length with hj | hj
 ·rw [List.getElem?_append_left hj] at hv; exact h j v hv
 ·rw [List.getElem?_append_right hj] at hv
  have := h2 _ v hv
  rwa [show o + xs.length + (j - xs.length) = o + j by omega] at this
theorem At.nil (m : Mem) (b o : Nat) : At m b o [] := fun j v hv => by simp at hv
theorem SlRep.src {H α : Type} {r : R H α} {m : Mem} {w : World} {L : List Item} {s : Sl} {l : List α} (h : SlRep r m s l) (hw : St m w L) :
  ∃ hs, All2 (r.rep m) hs l ∧ Src w s r.size (encs r hs) ∧ (s.a = none → s.len = 0 ∧ s.cap = 0) ∧ (∀ b o, s.a = some ⟨b, o, none⟩ → At m b o (encs r hs)) := by
 obtain ⟨hs, h1, h2⟩ := h.cells
 refine ⟨hs, h1, ⟨by rw [encs_len, h1.length, h.len], ?_⟩, ?_, ?_⟩
 ·rcases h2 with ⟨h2, _⟩ | ⟨b, o, h3, h4⟩
  ·left; rw [h.len, h2]; rfl
  ·exact .inr ⟨b, o, h3, hw.at_cells h4⟩
 ·intro ha
  rcases h2 with ⟨h2, h5⟩ | ⟨b, o, h3, h4⟩
  ·exact ⟨by rw [h.len, h2]; rfl, h5 ha⟩
  ·rw [ha] at h3; cases h3
 ·intro b o ha
  rcases h2 with ⟨h2, h5⟩ | ⟨b', o', h3, h4⟩
  ·subst h2
   have : hs = [] := List.eq_nil_of_length_eq_zero (by rw [h1.length]; rfl)
   subst this
   exact At.nil _ _ _
  ·rw [ha] at h3
   cases h3
   exact h4
theorem putAt_front : ∀ (cs vs : List Value), cs.length ≤ vs.length → ∀ (pre : List Value), putAt (pre ++ vs) pre.length cs = pre ++ cs ++ vs.drop cs.length
 | [], vs, _, pre => by simp [putAt]
 | c :: cs, [], h, pre => by simp at h
 | c :: cs, v :: vs, h, pre => by
  simp only [putAt]
  have e : (pre ++ v :: vs).set pre.length c = (pre ++ [c]) ++ vs := by simp
  rw [e]
  have := putAt_front cs vs (by simpa using h) (pre ++ [c])
  simp only [List.length_append, List.length_cons, List.length_nil, Nat.zero_add] at this
  rw [this]
  simp
theorem set_same {L : List Item} {i : Nat} {x : Item} (h : L[i]? = some x) : L.set i x = L := by
 obtain ⟨hi, he⟩ := List.getElem?_eq_some_iff.1 h
 subst he
 exact List.set_getElem_self hi
theorem putAt_zero {cs vs : List Value} (h : cs.length ≤ vs.length) : putAt vs 0 cs = cs ++ vs.drop cs.length := by
 have := putAt_front cs vs h []
 simpa using this
section
variable {P : Program} {N : Nat} {ρ : Env} {D : List Deferred} {m : Mem} {L : List Item} {Q : EPost} {full : List Oper} {o : Oper} {K : Env → Mem → List Item → Prop}
theorem run_append (T : Tab P) {t t2 e e2 ty : TypeId} {ei ei2 : TI} {w : World} {s s2 : Sl} {xs news : List Value} {i : Nat} (he : T.elem t = some (e, ei)) (he2 : T.elem t2 = some (e2, ei2))
  (hw : St m w L) (hi : L[i]? = some (tok s ei.size)) (ho : Own s) (hx : Src w s ei.size xs) (hy : Src w s2 ei.size news) (hn : s2.a = none → s2.len = 0) (h1 : allOne news = true) (hzs : ei.zero.cells.size = ei.size) (hcap : s.len ≤ s.cap)
  (hb : 0 < ei.bytes) (hfit : (s.len + s2.len) * ei.bytes ≤ 140737488355328) (hAt : ∀ b o, s.a = some ⟨b, o, none⟩ → At m b o xs) :
  ∃ s' m' w', (Builtin.append_ #[t, t2] ty #[s.v, s2.v]).run P w = .ok s'.v w' ∧ m ≤ m' ∧ St m' w' (L.set i (tok s' ei.size)) ∧ Own s' ∧ s'.len = s.len + s2.len ∧ s'.len ≤ s'.cap ∧
   ((s'.a = none ∧ xs ++ news = [] ∧ s'.cap = 0) ∨ ∃ b o, s'.a = some ⟨b, o, none⟩ ∧ At m' b o (xs ++ news)) := by
 obtain ⟨ti, h4, h5, h6⟩ := elem_get he
 obtain ⟨ti2, k4, k5, k6⟩ := elem_get he2
 obtain ⟨_, _, hu, _⟩ := T.ok t ti h4
 rw [h5] at hu
 obtain ⟨_, _, hu2, _⟩ := T.ok t2 ti2 k4
 rw [k5] at hu2
 obtain ⟨info, q1, q2, q3, q4, q5⟩ := T.ok e ei h6
 have hnew := run_first (P := P) hy
 have hbound : s.len + s2.len ≤ 140737488355328 := Nat.le_trans (Nat.le_mul_of_pos_right _ hb) hfit
 by_cases hroom : s.len + s2.len ≤ s.cap
 ·
  rcases ho with hnil | ⟨b, o, ha⟩
  ·subst hnil
   simp only at hroom
   have hz : s2.len = 0 := by omega
   have hxs : xs = [] := List.eq_nil_of_length_eq_zero (by have := hx.1; simpa using this)
   have hns : news = [] := List.eq_nil_of_length_eq_zero (by have := hy.1; rw [hz] at this; simpa using this)
   subst hxs; subst hns
   refine ⟨⟨none, 0, 0⟩, m, w, ?_, m.le_refl, by rw [set_same hi]; exact hw, .inl rfl, by simp [hz], by simp, .inl ⟨rfl, rfl, rfl⟩⟩
   have hnew' : (Builtin.firstCells ei.size 0 s2.v).run P w = .ok (⟨[]⟩ : Array Value) w := by rw [← hz]; exact hnew
   simp only [Sl.v] at hnew'
   simp [Builtin.append_, run_underlying hu, run_underlying hu2, sizeOf, typeInfo, q1, q3, Builtin.lenOf, hz, hnew']
  ·obtain ⟨a, n, c⟩ := s
   simp only at ha hroom hcap hbound hfit hx hAt
   subst ha
   have hst := (hw.at_ hi)
   simp only [tok] at hst
   obtain ⟨vs, hvl, hst⟩ := hst.ofRoom
   have hnl : news.length ≤ vs.length := by
    rw [hvl, hy.1]; exact Nat.mul_le_mul_right _ (by omega)
   obtain ⟨w', hr, hst'⟩ := run_storeCells (P := P) news vs 0 0 w hst h1 (by omega)
   rw [putAt_zero hnl] at hst'
   have hst2 := hst'.split
   obtain ⟨g1, g2, g3⟩ := hst2.freeze
   have g4 := g3.toRoom
   refine ⟨⟨some ⟨b, o, none⟩, n + s2.len, c⟩, m.addCells b (o + n * ei.size) news, w', ?_, g1, ?_, .inr ⟨b, o, rfl⟩, rfl, hroom, .inr ⟨b, o, rfl, ?_⟩⟩
   ·have hr' : (storeCells ((⟨b, o, none⟩ : Addr).add (n * ei.size)) news).run P w = .ok () w' := by rw [addr_add]; exact hr
    simp only [Sl.v] at hnew
    simp [Builtin.append_, run_underlying hu, run_underlying hu2, sizeOf, typeInfo, q1, q3, Builtin.lenOf, hroom, hnew, hr']
   ·have e1 : Item.room b (o + n * ei.size + news.length) (List.drop news.length vs).length = tok ⟨some ⟨b, o, none⟩, n + s2.len, c⟩ ei.size := by
     simp only [tok, List.length_drop, hvl, hy.1]
     congr 1
     ·rw [Nat.add_mul]; omega
     ·rw [← Nat.sub_mul]; congr 1; omega
    rw [← e1]
    exact St.back hi g4
   ·refine ((hAt b o rfl).mono g1).append ?_
    rw [hx.1]
    exact g2
 ·
  have hlt : s.cap < s.len + s2.len := by omega
  have h48 : ¬ (Builtin.nextslicecap (s.len + s2.len) s.cap * ei.bytes > 281474976710656) := by
   have := growslice_fits hlt hfit
   omega
  have hold := run_first (P := P) (hx.drew)
  have hnew' := run_first (P := P) (hy.drew)
  obtain ⟨nc, hnc, hge⟩ : ∃ nc, nc = (Question.appendCap (s.len + s2.len) s.cap e).cut (w.tape w.drawn (.appendCap (s.len + s2.len) s.cap e)) ∧ s.len + s2.len ≤ nc := ⟨_, rfl, by simp [Question.cut]⟩
  have hst := hw.drew.allocCells ((⟨xs⟩ : Array Value) ++ (⟨news⟩ : Array Value) ++ Builtin.zeroCells ei.zero.cells (nc - (s.len + s2.len))) e
  have hl1 : ((⟨xs⟩ : Array Value) ++ (⟨news⟩ : Array Value) ++ Builtin.zeroCells ei.zero.cells (nc - (s.len + s2.len))).toList = (xs ++ news) ++ (Builtin.zeroCells ei.zero.cells (nc - (s.len + s2.len))).toList := by simp
  rw [hl1] at hst
  obtain ⟨g1, g2, g3⟩ := hst.split.freeze
  have g4 := g3.toRoom
  have hxl : (xs ++ news).length = (s.len + s2.len) * ei.size := by rw [List.length_append, hx.1, hy.1, Nat.add_mul]
  refine ⟨⟨some ⟨w.heap.size, 0, none⟩, s.len + s2.len, nc⟩, _, w.drew.alloc (.cells ((⟨xs⟩ : Array Value) ++ (⟨news⟩ : Array Value) ++ Builtin.zeroCells ei.zero.cells (nc - (s.len + s2.len))) e), ?_, g1, ?_, .inr ⟨_, _, rfl⟩, rfl, hge, .inr ⟨_, _, rfl, g2⟩⟩
  ·simp only [Sl.v] at hold hnew'
   have hb0 : ei.bytes ≠ 0 := by omega
   have hmax : ¬ (9223372036854775807 < (s.len : Int) + (s2.len : Int)) := by omega
   simp [Builtin.append_, run_underlying hu, run_underlying hu2, sizeOf, typeInfo, zeroValue, q1, q3, q4, q5, Builtin.lenOf, hroom, hold, hnew', h48, hmax, Question.forced, newRow, ← hnc, IntKind.max, IntKind.signed, IntKind.bits, hb0]
   congr 2
   apply Array.ext'
   simp
  ·have e1 : Item.room w.heap.size (0 + (xs ++ news).length) (Builtin.zeroCells ei.zero.cells (nc - (s.len + s2.len))).toList.length = tok ⟨some ⟨w.heap.size, 0, none⟩, s.len + s2.len, nc⟩ ei.size := by
    simp only [tok, hxl, Array.length_toList, size_zeroCells, hzs]
   rw [← e1]
   have hsub : (Item.room w.heap.size (0 + (xs ++ news).length) (Builtin.zeroCells ei.zero.cells (nc - (s.len + s2.len))).toList.length :: L.eraseIdx i).Sublist (Item.room w.heap.size (0 + (xs ++ news).length) (Builtin.zeroCells ei.zero.cells (nc - (s.len + s2.len))).toList.length :: L) :=
    List.Sublist.cons_cons _ (List.eraseIdx_sublist L i)
   exact St.back hi (g4.sub hsub)
def Tab.okElem {P : Program} (T : Tab P) (t t2 : TypeId) (size bytes : Nat) : Bool :=
 match T.elem t, T.elem t2 with
 | some (_, ei), some (_, _) => Nat.beq ei.size size && (Nat.beq ei.bytes bytes && (Nat.blt 0 bytes && match cellsF ei.zero with
  | some l => Nat.beq l.length size
  | none => false))
 | _, _ => false
theorem okElem_get {T : Tab P} {t t2 : TypeId} {size bytes : Nat} (h : T.okElem t t2 size bytes = true) :
  ∃ e e2 ei ei2, T.elem t = some (e, ei) ∧ T.elem t2 = some (e2, ei2) ∧ ei.size = size ∧ ei.bytes = bytes ∧ 0 < bytes ∧ ei.zero.cells.size = ei.size := by
 unfold Tab.okElem at h
 split at h
 ·rename_i e ei e2 ei2 h1 h2
  simp only [Bool.and_eq_true] at h
  obtain ⟨a1, a2, a3, a4⟩ := h
  split at a4
  ·rename_i l hl
   have := cellsF_eq hl
   refine ⟨e, e2, ei, ei2, h1, h2, Nat.eq_of_beq_eq_true a1, Nat.eq_of_beq_eq_true a2, by simpa [Nat.blt_eq] using a3, ?_⟩
   rw [this, Nat.eq_of_beq_eq_true a1]
   simpa using Nat.eq_of_beq_eq_true a4
  ·cases a4
 ·cases h
theorem OT.append {H α : Type} (T : Tab P) (r : R H α) (i : Nat) {s s2 : Sl} {l l2 : List α} {x y : Operand} {t t2 : TypeId} {d : Nat} (hs : SlRep r m s l) (hown : Own s) (hs2 : SlRep r m s2 l2)
  (ho : o.op = .call ⟨.builtin .append, ⟨[x, y]⟩, ⟨[t, t2]⟩⟩) (hd : o.dst = some d) (hN : Nat.blt d N = true) (hx : ev ρ x = some s.v) (hy : ev ρ y = some s2.v) (hT : T.okElem t t2 r.size r.bytes = true)
  (hi : L[i]? = some (tok s r.size)) (hfit : (l.length + l2.length) * r.bytes ≤ 140737488355328)
  (hK : ∀ s' m', m ≤ m' → SlRep r m' s' (l ++ l2) → Own s' → K ((d, s'.v) :: ρ) m' (L.set i (tok s' r.size))) : OT P N o ρ D m L Q K := by
 obtain ⟨e, e2, ei, ei2, q1, q2, q3, q4, q5, q6⟩ := okElem_get hT
 intro a w ha
 obtain ⟨hl, h1, h2, h3, h4⟩ := hs.src ha.st
 obtain ⟨hl2, k1, k2, k3, k4⟩ := hs2.src ha.st
 have hb : 0 < ei.bytes := by omega
 obtain ⟨s', m', w', hr, g1, g2, g3, g4, g5, g6⟩ := run_append (P := P) (ty := o.type) T q1 q2 ha.st (by rw [q3]; exact hi) hown (by rw [q3]; exact h2) (by rw [q3]; exact k2) (fun hz => (k3 hz).1) (encs_one r hl2) q6 hs.cap hb
  (by rw [hs.len, hs2.len, q4]; exact hfit) h4
 have he : (execOp a.eval o).run P w = .ok (.value s'.v) w' := by
  simp only [execOp, ho, resolve, invoke, builtin, Sem.run_bind, Sem.run_pure, Result.andThen_ok, List.map_toArray, List.map_cons, List.map_nil, ha.env.eval hx, ha.env.eval hy]
  simp only [List.map_toArray, List.map_cons, List.map_nil, ha.env.eval hx, ha.env.eval hy, hr, Result.andThen_ok]
 have hrep : SlRep r m' s' (l ++ l2) := by
  refine ⟨by rw [g4, hs.len, hs2.len]; simp, g5, by rw [g4, hs.len, hs2.len]; exact hfit, hl ++ hl2, (h1.mono fun _ _ => r.mono g1).append (k1.mono fun _ _ => r.mono g1), ?_⟩
  rcases g6 with ⟨e1, e2, e3⟩ | ⟨b, off, e1, e2⟩
  ·left
   have hz : s'.len = 0 := by
    rcases g3 with e | ⟨b, off, e⟩
    ·rw [e]
    ·rw [e1] at e; cases e
   refine ⟨List.eq_nil_of_length_eq_zero ?_, fun _ => e3⟩
   have j1 := hs.len
   have j2 := hs2.len
   rw [List.length_append]; omega
  ·right
   exact ⟨b, off, e1, by rw [encs_append]; exact e2⟩
 simp only [Oper.wp, he, Oper.upon]
 rw [hd]
 have hp := ha.put hN s'.v
 rw [q3] at g2
 exact ⟨_, _, _, ⟨hp.size, hp.env, hp.defers, g2⟩, hK s' m' g1 hrep g3⟩
end
end Go.Sep

