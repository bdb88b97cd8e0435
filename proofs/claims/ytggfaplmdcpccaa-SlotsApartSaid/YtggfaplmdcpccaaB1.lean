/-
  The table of the types, and which functions are entered. Written by program (gentab.py).
-/
import Derived.Test.YtggfaplmdcpccaaProg
import Derived.KernelRfl
import Derived.Test.YtggfaplmdcpccaaB0
set_option linter.unusedVariables false
namespace Go.Sep
open Go.Proofs
noncomputable def tiOf (i d : TypeInfo) : TI := ⟨d.desc, i.size, i.bytes, match i.zero with | some z => z | none => undef⟩
def GoodTI (P : Program) (t : TypeId) (i : TI) : Prop := ∃ info, P.info? t = some info ∧ P.underlying t = some i.u ∧ info.size = i.size ∧ info.bytes = i.bytes ∧ info.zero = some i.zero
theorem goodTI {P : Program} {t : TypeId} {i d : TypeInfo} (h1 : P.info? t = some i) (h2 : P.underlying t = some d.desc) (h3 : i.zero.isSome = true) : GoodTI P t (tiOf i d) := by
  refine ⟨i, h1, h2, rfl, rfl, ?_⟩
  cases hz : i.zero with
  | none => rw [hz] at h3; cases h3
  | some z => simp [tiOf, hz]
def getT : List (Nat × TI) → Nat → Option TI
  | [], _ => none
  | (k, i) :: r, t => bif Nat.beq k t then some i else getT r t
def AllT (P : Program) : List (Nat × TI) → Prop
  | [] => True
  | (k, i) :: r => GoodTI P k i ∧ AllT P r
theorem getT_ok {P : Program} : ∀ {l : List (Nat × TI)}, AllT P l → ∀ t i, getT l t = some i → GoodTI P t i
  | [], _, t, i, h => by cases h
  | (k, x) :: r, hl, t, i, h => by
    simp only [getT] at h
    cases hb : Nat.beq k t with
    | true =>
      have : k = t := Nat.eq_of_beq_eq_true hb
      subst this
      simp only [hb, cond_true, Option.some.injEq] at h
      subst h
      exact hl.1
    | false => simp only [hb, cond_false] at h; exact getT_ok hl.2 t i h
noncomputable def tbl : List (Nat × TI) := [(3, tiOf Try.t3 Try.t3),
  (1, tiOf Try.t1 Try.t1),
  (4, tiOf Try.t4 Try.t4),
  (2, tiOf Try.t2 Try.t2),
  (5, tiOf Try.t5 Try.t5),
  (24, tiOf Try.t24 Try.t24),
  (56, tiOf Try.t56 Try.t56),
  (58, tiOf Try.t58 Try.t57),
  (7, tiOf Try.t7 Try.t7),
  (22, tiOf Try.t22 Try.t22),
  (29, tiOf Try.t29 Try.t28),
  (25, tiOf Try.t25 Try.t3),
  (61, tiOf Try.t61 Try.t61),
  (9, tiOf Try.t9 Try.t9),
  (76, tiOf Try.t76 Try.t76),
  (43, tiOf Try.t43 Try.t43),
  (45, tiOf Try.t45 Try.t44),
  (68, tiOf Try.t68 Try.t67),
  (51, tiOf Try.t51 Try.t50),
  (46, tiOf Try.t46 Try.t24),
  (12, tiOf Try.t12 Try.t12),
  (15, tiOf Try.t15 Try.t15),
  (20, tiOf Try.t20 Try.t20),
  (13, tiOf Try.t13 Try.t13),
  (53, tiOf Try.t53 Try.t53),
  (92, tiOf Try.t92 Try.t92),
  (93, tiOf Try.t93 Try.t92),
  (48, tiOf Try.t48 Try.t47),
  (79, tiOf Try.t79 Try.t79),
  (82, tiOf Try.t82 Try.t3),
  (97, tiOf Try.t97 Try.t97),
  (16, tiOf Try.t16 Try.t16),
  (55, tiOf Try.t55 Try.t55),
  (27, tiOf Try.t27 Try.t27),
  (30, tiOf Try.t30 Try.t30),
  (33, tiOf Try.t33 Try.t33),
  (49, tiOf Try.t49 Try.t49),
  (90, tiOf Try.t90 Try.t90),
  (26, tiOf Try.t26 Try.t26),
  (36, tiOf Try.t36 Try.t36),
  (74, tiOf Try.t74 Try.t74),
  (81, tiOf Try.t81 Try.t81),
  (99, tiOf Try.t99 Try.t99),
  (102, tiOf Try.t102 Try.t102),
  (17, tiOf Try.t17 Try.t17),
  (32, tiOf Try.t32 Try.t32),
  (37, tiOf Try.t37 Try.t37),
  (64, tiOf Try.t64 Try.t64),
  (18, tiOf Try.t18 Try.t18),
  (35, tiOf Try.t35 Try.t35),
  (54, tiOf Try.t54 Try.t54),
  (23, tiOf Try.t23 Try.t23),
  (52, tiOf Try.t52 Try.t52),
  (69, tiOf Try.t69 Try.t69),
  (71, tiOf Try.t71 Try.t71),
  (80, tiOf Try.t80 Try.t80),
  (94, tiOf Try.t94 Try.t94),
  (101, tiOf Try.t101 Try.t101),
  (31, tiOf Try.t31 Try.t31),
  (41, tiOf Try.t41 Try.t41),
  (42, tiOf Try.t42 Try.t42),
  (70, tiOf Try.t70 Try.t70),
  (73, tiOf Try.t73 Try.t73),
  (96, tiOf Try.t96 Try.t96),
  (21, tiOf Try.t21 Try.t21),
  (34, tiOf Try.t34 Try.t34),
  (38, tiOf Try.t38 Try.t38),
  (39, tiOf Try.t39 Try.t39),
  (40, tiOf Try.t40 Try.t40),
  (50, tiOf Try.t50 Try.t50),
  (60, tiOf Try.t60 Try.t60),
  (63, tiOf Try.t63 Try.t63),
  (65, tiOf Try.t65 Try.t65),
  (66, tiOf Try.t66 Try.t66),
  (75, tiOf Try.t75 Try.t75),
  (78, tiOf Try.t78 Try.t78),
  (84, tiOf Try.t84 Try.t84),
  (86, tiOf Try.t86 Try.t86),
  (89, tiOf Try.t89 Try.t89),
  (98, tiOf Try.t98 Try.t98),
  (100, tiOf Try.t100 Try.t100),
  (28, tiOf Try.t28 Try.t28),
  (57, tiOf Try.t57 Try.t57),
  (59, tiOf Try.t59 Try.t59),
  (62, tiOf Try.t62 Try.t62),
  (72, tiOf Try.t72 Try.t72),
  (77, tiOf Try.t77 Try.t77),
  (83, tiOf Try.t83 Try.t83),
  (85, tiOf Try.t85 Try.t85),
  (88, tiOf Try.t88 Try.t88),
  (91, tiOf Try.t91 Try.t91),
  (95, tiOf Try.t95 Try.t95),
  (44, tiOf Try.t44 Try.t44),
  (47, tiOf Try.t47 Try.t47),
  (87, tiOf Try.t87 Try.t87),
  (111, tiOf Try.t111 Try.t111),
  (114, tiOf Try.t114 Try.t114),
  (67, tiOf Try.t67 Try.t67),
  (103, tiOf Try.t103 Try.t103),
  (105, tiOf Try.t105 Try.t105),
  (106, tiOf Try.t106 Try.t106),
  (110, tiOf Try.t110 Try.t110),
  (116, tiOf Try.t116 Try.t116)]
theorem good3 : GoodTI Try.prog 3 (tiOf Try.t3 Try.t3) := goodTI (by kernel_rfl) (by kernel_rfl) (by kernel_rfl)
theorem good1 : GoodTI Try.prog 1 (tiOf Try.t1 Try.t1) := goodTI (by kernel_rfl) (by kernel_rfl) (by kernel_rfl)
theorem good4 : GoodTI Try.prog 4 (tiOf Try.t4 Try.t4) := goodTI (by kernel_rfl) (by kernel_rfl) (by kernel_rfl)
theorem good2 : GoodTI Try.prog 2 (tiOf Try.t2 Try.t2) := goodTI (by kernel_rfl) (by kernel_rfl) (by kernel_rfl)
theorem good5 : GoodTI Try.prog 5 (tiOf Try.t5 Try.t5) := goodTI (by kernel_rfl) (by kernel_rfl) (by kernel_rfl)
theorem good24 : GoodTI Try.prog 24 (tiOf Try.t24 Try.t24) := goodTI (by kernel_rfl) (by kernel_rfl) (by kernel_rfl)
theorem good56 : GoodTI Try.prog 56 (tiOf Try.t56 Try.t56) := goodTI (by kernel_rfl) (by kernel_rfl) (by kernel_rfl)
theorem good58 : GoodTI Try.prog 58 (tiOf Try.t58 Try.t57) := goodTI (by kernel_rfl) (by kernel_rfl) (by kernel_rfl)
theorem good7 : GoodTI Try.prog 7 (tiOf Try.t7 Try.t7) := goodTI (by kernel_rfl) (by kernel_rfl) (by kernel_rfl)
theorem good22 : GoodTI Try.prog 22 (tiOf Try.t22 Try.t22) := goodTI (by kernel_rfl) (by kernel_rfl) (by kernel_rfl)
theorem good29 : GoodTI Try.prog 29 (tiOf Try.t29 Try.t28) := goodTI (by kernel_rfl) (by kernel_rfl) (by kernel_rfl)
theorem good25 : GoodTI Try.prog 25 (tiOf Try.t25 Try.t3) := goodTI (by kernel_rfl) (by kernel_rfl) (by kernel_rfl)
theorem good61 : GoodTI Try.prog 61 (tiOf Try.t61 Try.t61) := goodTI (by kernel_rfl) (by kernel_rfl) (by kernel_rfl)
theorem good9 : GoodTI Try.prog 9 (tiOf Try.t9 Try.t9) := goodTI (by kernel_rfl) (by kernel_rfl) (by kernel_rfl)
theorem good76 : GoodTI Try.prog 76 (tiOf Try.t76 Try.t76) := goodTI (by kernel_rfl) (by kernel_rfl) (by kernel_rfl)
theorem good43 : GoodTI Try.prog 43 (tiOf Try.t43 Try.t43) := goodTI (by kernel_rfl) (by kernel_rfl) (by kernel_rfl)
theorem good45 : GoodTI Try.prog 45 (tiOf Try.t45 Try.t44) := goodTI (by kernel_rfl) (by kernel_rfl) (by kernel_rfl)
theorem good68 : GoodTI Try.prog 68 (tiOf Try.t68 Try.t67) := goodTI (by kernel_rfl) (by kernel_rfl) (by kernel_rfl)
theorem good51 : GoodTI Try.prog 51 (tiOf Try.t51 Try.t50) := goodTI (by kernel_rfl) (by kernel_rfl) (by kernel_rfl)
theorem good46 : GoodTI Try.prog 46 (tiOf Try.t46 Try.t24) := goodTI (by kernel_rfl) (by kernel_rfl) (by kernel_rfl)
theorem good12 : GoodTI Try.prog 12 (tiOf Try.t12 Try.t12) := goodTI (by kernel_rfl) (by kernel_rfl) (by kernel_rfl)
theorem good15 : GoodTI Try.prog 15 (tiOf Try.t15 Try.t15) := goodTI (by kernel_rfl) (by kernel_rfl) (by kernel_rfl)
theorem good20 : GoodTI Try.prog 20 (tiOf Try.t20 Try.t20) := goodTI (by kernel_rfl) (by kernel_rfl) (by kernel_rfl)
theorem good13 : GoodTI Try.prog 13 (tiOf Try.t13 Try.t13) := goodTI (by kernel_rfl) (by kernel_rfl) (by kernel_rfl)
theorem good53 : GoodTI Try.prog 53 (tiOf Try.t53 Try.t53) := goodTI (by kernel_rfl) (by kernel_rfl) (by kernel_rfl)
theorem good92 : GoodTI Try.prog 92 (tiOf Try.t92 Try.t92) := goodTI (by kernel_rfl) (by kernel_rfl) (by kernel_rfl)
theorem good93 : GoodTI Try.prog 93 (tiOf Try.t93 Try.t92) := goodTI (by kernel_rfl) (by kernel_rfl) (by kernel_rfl)
theorem good48 : GoodTI Try.prog 48 (tiOf Try.t48 Try.t47) := goodTI (by kernel_rfl) (by kernel_rfl) (by kernel_rfl)
theorem good79 : GoodTI Try.prog 79 (tiOf Try.t79 Try.t79) := goodTI (by kernel_rfl) (by kernel_rfl) (by kernel_rfl)
theorem good82 : GoodTI Try.prog 82 (tiOf Try.t82 Try.t3) := goodTI (by kernel_rfl) (by kernel_rfl) (by kernel_rfl)
theorem good97 : GoodTI Try.prog 97 (tiOf Try.t97 Try.t97) := goodTI (by kernel_rfl) (by kernel_rfl) (by kernel_rfl)
theorem good16 : GoodTI Try.prog 16 (tiOf Try.t16 Try.t16) := goodTI (by kernel_rfl) (by kernel_rfl) (by kernel_rfl)
theorem good55 : GoodTI Try.prog 55 (tiOf Try.t55 Try.t55) := goodTI (by kernel_rfl) (by kernel_rfl) (by kernel_rfl)
theorem good27 : GoodTI Try.prog 27 (tiOf Try.t27 Try.t27) := goodTI (by kernel_rfl) (by kernel_rfl) (by kernel_rfl)
theorem good30 : GoodTI Try.prog 30 (tiOf Try.t30 Try.t30) := goodTI (by kernel_rfl) (by kernel_rfl) (by kernel_rfl)
theorem good33 : GoodTI Try.prog 33 (tiOf Try.t33 Try.t33) := goodTI (by kernel_rfl) (by kernel_rfl) (by kernel_rfl)
theorem good49 : GoodTI Try.prog 49 (tiOf Try.t49 Try.t49) := goodTI (by kernel_rfl) (by kernel_rfl) (by kernel_rfl)
theorem good90 : GoodTI Try.prog 90 (tiOf Try.t90 Try.t90) := goodTI (by kernel_rfl) (by kernel_rfl) (by kernel_rfl)
theorem good26 : GoodTI Try.prog 26 (tiOf Try.t26 Try.t26) := goodTI (by kernel_rfl) (by kernel_rfl) (by kernel_rfl)
theorem good36 : GoodTI Try.prog 36 (tiOf Try.t36 Try.t36) := goodTI (by kernel_rfl) (by kernel_rfl) (by kernel_rfl)
theorem good74 : GoodTI Try.prog 74 (tiOf Try.t74 Try.t74) := goodTI (by kernel_rfl) (by kernel_rfl) (by kernel_rfl)
theorem good81 : GoodTI Try.prog 81 (tiOf Try.t81 Try.t81) := goodTI (by kernel_rfl) (by kernel_rfl) (by kernel_rfl)
theorem good99 : GoodTI Try.prog 99 (tiOf Try.t99 Try.t99) := goodTI (by kernel_rfl) (by kernel_rfl) (by kernel_rfl)
theorem good102 : GoodTI Try.prog 102 (tiOf Try.t102 Try.t102) := goodTI (by kernel_rfl) (by kernel_rfl) (by kernel_rfl)
theorem good17 : GoodTI Try.prog 17 (tiOf Try.t17 Try.t17) := goodTI (by kernel_rfl) (by kernel_rfl) (by kernel_rfl)
theorem good32 : GoodTI Try.prog 32 (tiOf Try.t32 Try.t32) := goodTI (by kernel_rfl) (by kernel_rfl) (by kernel_rfl)
theorem good37 : GoodTI Try.prog 37 (tiOf Try.t37 Try.t37) := goodTI (by kernel_rfl) (by kernel_rfl) (by kernel_rfl)
theorem good64 : GoodTI Try.prog 64 (tiOf Try.t64 Try.t64) := goodTI (by kernel_rfl) (by kernel_rfl) (by kernel_rfl)
theorem good18 : GoodTI Try.prog 18 (tiOf Try.t18 Try.t18) := goodTI (by kernel_rfl) (by kernel_rfl) (by kernel_rfl)
theorem good35 : GoodTI Try.prog 35 (tiOf Try.t35 Try.t35) := goodTI (by kernel_rfl) (by kernel_rfl) (by kernel_rfl)
theorem good54 : GoodTI Try.prog 54 (tiOf Try.t54 Try.t54) := goodTI (by kernel_rfl) (by kernel_rfl) (by kernel_rfl)
theorem good23 : GoodTI Try.prog 23 (tiOf Try.t23 Try.t23) := goodTI (by kernel_rfl) (by kernel_rfl) (by kernel_rfl)
theorem good52 : GoodTI Try.prog 52 (tiOf Try.t52 Try.t52) := goodTI (by kernel_rfl) (by kernel_rfl) (by kernel_rfl)
theorem good69 : GoodTI Try.prog 69 (tiOf Try.t69 Try.t69) := goodTI (by kernel_rfl) (by kernel_rfl) (by kernel_rfl)
theorem good71 : GoodTI Try.prog 71 (tiOf Try.t71 Try.t71) := goodTI (by kernel_rfl) (by kernel_rfl) (by kernel_rfl)
theorem good80 : GoodTI Try.prog 80 (tiOf Try.t80 Try.t80) := goodTI (by kernel_rfl) (by kernel_rfl) (by kernel_rfl)
theorem good94 : GoodTI Try.prog 94 (tiOf Try.t94 Try.t94) := goodTI (by kernel_rfl) (by kernel_rfl) (by kernel_rfl)
theorem good101 : GoodTI Try.prog 101 (tiOf Try.t101 Try.t101) := goodTI (by kernel_rfl) (by kernel_rfl) (by kernel_rfl)
theorem good31 : GoodTI Try.prog 31 (tiOf Try.t31 Try.t31) := goodTI (by kernel_rfl) (by kernel_rfl) (by kernel_rfl)
theorem good41 : GoodTI Try.prog 41 (tiOf Try.t41 Try.t41) := goodTI (by kernel_rfl) (by kernel_rfl) (by kernel_rfl)
theorem good42 : GoodTI Try.prog 42 (tiOf Try.t42 Try.t42) := goodTI (by kernel_rfl) (by kernel_rfl) (by kernel_rfl)
theorem good70 : GoodTI Try.prog 70 (tiOf Try.t70 Try.t70) := goodTI (by kernel_rfl) (by kernel_rfl) (by kernel_rfl)
theorem good73 : GoodTI Try.prog 73 (tiOf Try.t73 Try.t73) := goodTI (by kernel_rfl) (by kernel_rfl) (by kernel_rfl)
theorem good96 : GoodTI Try.prog 96 (tiOf Try.t96 Try.t96) := goodTI (by kernel_rfl) (by kernel_rfl) (by kernel_rfl)
theorem good21 : GoodTI Try.prog 21 (tiOf Try.t21 Try.t21) := goodTI (by kernel_rfl) (by kernel_rfl) (by kernel_rfl)
theorem good34 : GoodTI Try.prog 34 (tiOf Try.t34 Try.t34) := goodTI (by kernel_rfl) (by kernel_rfl) (by kernel_rfl)
theorem good38 : GoodTI Try.prog 38 (tiOf Try.t38 Try.t38) := goodTI (by kernel_rfl) (by kernel_rfl) (by kernel_rfl)
theorem good39 : GoodTI Try.prog 39 (tiOf Try.t39 Try.t39) := goodTI (by kernel_rfl) (by kernel_rfl) (by kernel_rfl)
theorem good40 : GoodTI Try.prog 40 (tiOf Try.t40 Try.t40) := goodTI (by kernel_rfl) (by kernel_rfl) (by kernel_rfl)
theorem good50 : GoodTI Try.prog 50 (tiOf Try.t50 Try.t50) := goodTI (by kernel_rfl) (by kernel_rfl) (by kernel_rfl)
theorem good60 : GoodTI Try.prog 60 (tiOf Try.t60 Try.t60) := goodTI (by kernel_rfl) (by kernel_rfl) (by kernel_rfl)
theorem good63 : GoodTI Try.prog 63 (tiOf Try.t63 Try.t63) := goodTI (by kernel_rfl) (by kernel_rfl) (by kernel_rfl)
theorem good65 : GoodTI Try.prog 65 (tiOf Try.t65 Try.t65) := goodTI (by kernel_rfl) (by kernel_rfl) (by kernel_rfl)
theorem good66 : GoodTI Try.prog 66 (tiOf Try.t66 Try.t66) := goodTI (by kernel_rfl) (by kernel_rfl) (by kernel_rfl)
theorem good75 : GoodTI Try.prog 75 (tiOf Try.t75 Try.t75) := goodTI (by kernel_rfl) (by kernel_rfl) (by kernel_rfl)
theorem good78 : GoodTI Try.prog 78 (tiOf Try.t78 Try.t78) := goodTI (by kernel_rfl) (by kernel_rfl) (by kernel_rfl)
theorem good84 : GoodTI Try.prog 84 (tiOf Try.t84 Try.t84) := goodTI (by kernel_rfl) (by kernel_rfl) (by kernel_rfl)
theorem good86 : GoodTI Try.prog 86 (tiOf Try.t86 Try.t86) := goodTI (by kernel_rfl) (by kernel_rfl) (by kernel_rfl)
theorem good89 : GoodTI Try.prog 89 (tiOf Try.t89 Try.t89) := goodTI (by kernel_rfl) (by kernel_rfl) (by kernel_rfl)
theorem good98 : GoodTI Try.prog 98 (tiOf Try.t98 Try.t98) := goodTI (by kernel_rfl) (by kernel_rfl) (by kernel_rfl)
theorem good100 : GoodTI Try.prog 100 (tiOf Try.t100 Try.t100) := goodTI (by kernel_rfl) (by kernel_rfl) (by kernel_rfl)
theorem good28 : GoodTI Try.prog 28 (tiOf Try.t28 Try.t28) := goodTI (by kernel_rfl) (by kernel_rfl) (by kernel_rfl)
theorem good57 : GoodTI Try.prog 57 (tiOf Try.t57 Try.t57) := goodTI (by kernel_rfl) (by kernel_rfl) (by kernel_rfl)
theorem good59 : GoodTI Try.prog 59 (tiOf Try.t59 Try.t59) := goodTI (by kernel_rfl) (by kernel_rfl) (by kernel_rfl)
theorem good62 : GoodTI Try.prog 62 (tiOf Try.t62 Try.t62) := goodTI (by kernel_rfl) (by kernel_rfl) (by kernel_rfl)
theorem good72 : GoodTI Try.prog 72 (tiOf Try.t72 Try.t72) := goodTI (by kernel_rfl) (by kernel_rfl) (by kernel_rfl)
theorem good77 : GoodTI Try.prog 77 (tiOf Try.t77 Try.t77) := goodTI (by kernel_rfl) (by kernel_rfl) (by kernel_rfl)
theorem good83 : GoodTI Try.prog 83 (tiOf Try.t83 Try.t83) := goodTI (by kernel_rfl) (by kernel_rfl) (by kernel_rfl)
theorem good85 : GoodTI Try.prog 85 (tiOf Try.t85 Try.t85) := goodTI (by kernel_rfl) (by kernel_rfl) (by kernel_rfl)
theorem good88 : GoodTI Try.prog 88 (tiOf Try.t88 Try.t88) := goodTI (by kernel_rfl) (by kernel_rfl) (by kernel_rfl)
theorem good91 : GoodTI Try.prog 91 (tiOf Try.t91 Try.t91) := goodTI (by kernel_rfl) (by kernel_rfl) (by kernel_rfl)
theorem good95 : GoodTI Try.prog 95 (tiOf Try.t95 Try.t95) := goodTI (by kernel_rfl) (by kernel_rfl) (by kernel_rfl)
theorem good44 : GoodTI Try.prog 44 (tiOf Try.t44 Try.t44) := goodTI (by kernel_rfl) (by kernel_rfl) (by kernel_rfl)
theorem good47 : GoodTI Try.prog 47 (tiOf Try.t47 Try.t47) := goodTI (by kernel_rfl) (by kernel_rfl) (by kernel_rfl)
theorem good87 : GoodTI Try.prog 87 (tiOf Try.t87 Try.t87) := goodTI (by kernel_rfl) (by kernel_rfl) (by kernel_rfl)
theorem good111 : GoodTI Try.prog 111 (tiOf Try.t111 Try.t111) := goodTI (by kernel_rfl) (by kernel_rfl) (by kernel_rfl)
theorem good114 : GoodTI Try.prog 114 (tiOf Try.t114 Try.t114) := goodTI (by kernel_rfl) (by kernel_rfl) (by kernel_rfl)
theorem good67 : GoodTI Try.prog 67 (tiOf Try.t67 Try.t67) := goodTI (by kernel_rfl) (by kernel_rfl) (by kernel_rfl)
theorem good103 : GoodTI Try.prog 103 (tiOf Try.t103 Try.t103) := goodTI (by kernel_rfl) (by kernel_rfl) (by kernel_rfl)
theorem good105 : GoodTI Try.prog 105 (tiOf Try.t105 Try.t105) := goodTI (by kernel_rfl) (by kernel_rfl) (by kernel_rfl)
theorem good106 : GoodTI Try.prog 106 (tiOf Try.t106 Try.t106) := goodTI (by kernel_rfl) (by kernel_rfl) (by kernel_rfl)
theorem good110 : GoodTI Try.prog 110 (tiOf Try.t110 Try.t110) := goodTI (by kernel_rfl) (by kernel_rfl) (by kernel_rfl)
theorem good116 : GoodTI Try.prog 116 (tiOf Try.t116 Try.t116) := goodTI (by kernel_rfl) (by kernel_rfl) (by kernel_rfl)
theorem tbl_ok : AllT Try.prog tbl := ⟨good3, good1, good4, good2, good5, good24, good56, good58, good7, good22, good29, good25, good61, good9, good76, good43, good45, good68, good51, good46, good12, good15, good20, good13, good53, good92, good93, good48, good79, good82, good97, good16, good55, good27, good30, good33, good49, good90, good26, good36, good74, good81, good99, good102, good17, good32, good37, good64, good18, good35, good54, good23, good52, good69, good71, good80, good94, good101, good31, good41, good42, good70, good73, good96, good21, good34, good38, good39, good40, good50, good60, good63, good65, good66, good75, good78, good84, good86, good89, good98, good100, good28, good57, good59, good62, good72, good77, good83, good85, good88, good91, good95, good44, good47, good87, good111, good114, good67, good103, good105, good106, good110, good116, trivial⟩
def fieldsIn (P : Program) (d : TypeDesc) : Bool := match d with | .struct fs => fs.toList.all fun f => (P.info? f.type).isSome | _ => true
def AllF (P : Program) : List (Nat × TI) → Bool
  | [] => true
  | (_, i) :: r => fieldsIn P i.u && AllF P r
theorem getT_mem : ∀ {l : List (Nat × TI)} {P : Program}, AllF P l = true → ∀ t i, getT l t = some i → fieldsIn P i.u = true
  | [], _, _, t, i, h => by cases h
  | (k, x) :: r, P, hl, t, i, h => by
    simp only [AllF, Bool.and_eq_true] at hl
    simp only [getT] at h
    cases hb : Nat.beq k t with
    | true => simp only [hb, cond_true, Option.some.injEq] at h; subst h; exact hl.1
    | false => simp only [hb, cond_false] at h; exact getT_mem hl.2 t i h
theorem fields_ok {P : Program} {d : TypeDesc} (h : fieldsIn P d = true) : ∀ fs, d = .struct fs → ∀ f ∈ fs.toList, ∃ j, P.info? f.type = some j := by
  intro fs hd f hf
  subst hd
  have := List.all_eq_true.1 h f hf
  exact Option.isSome_iff_exists.1 this
noncomputable def tab : Tab Try.prog := ⟨getT tbl, getT_ok tbl_ok, fun t i h => fields_ok (getT_mem (by kernel_rfl) t i h)⟩
theorem mixed : Try.prog.follows .mixedOrders = true := by kernel_rfl
theorem goes3 : Goes Try.prog 3 := Goes.mk' Try.func3 (by kernel_rfl) (by kernel_rfl)
theorem goes4 : Goes Try.prog 4 := Goes.mk' Try.func4 (by kernel_rfl) (by kernel_rfl)
theorem goes5 : Goes Try.prog 5 := Goes.mk' Try.func5 (by kernel_rfl) (by kernel_rfl)
theorem goes6 : Goes Try.prog 6 := Goes.mk' Try.func6 (by kernel_rfl) (by kernel_rfl)
theorem goes7 : Goes Try.prog 7 := Goes.mk' Try.func7 (by kernel_rfl) (by kernel_rfl)
theorem goes8 : Goes Try.prog 8 := Goes.mk' Try.func8 (by kernel_rfl) (by kernel_rfl)
theorem goes9 : Goes Try.prog 9 := Goes.mk' Try.func9 (by kernel_rfl) (by kernel_rfl)
theorem goes10 : Goes Try.prog 10 := Goes.mk' Try.func10 (by kernel_rfl) (by kernel_rfl)
theorem goes11 : Goes Try.prog 11 := Goes.mk' Try.func11 (by kernel_rfl) (by kernel_rfl)
theorem goes12 : Goes Try.prog 12 := Goes.mk' Try.func12 (by kernel_rfl) (by kernel_rfl)
theorem goes13 : Goes Try.prog 13 := Goes.mk' Try.func13 (by kernel_rfl) (by kernel_rfl)
theorem goes14 : Goes Try.prog 14 := Goes.mk' Try.func14 (by kernel_rfl) (by kernel_rfl)
theorem goes15 : Goes Try.prog 15 := Goes.mk' Try.func15 (by kernel_rfl) (by kernel_rfl)
theorem goes16 : Goes Try.prog 16 := Goes.mk' Try.func16 (by kernel_rfl) (by kernel_rfl)
theorem goes17 : Goes Try.prog 17 := Goes.mk' Try.func17 (by kernel_rfl) (by kernel_rfl)
theorem goes18 : Goes Try.prog 18 := Goes.mk' Try.func18 (by kernel_rfl) (by kernel_rfl)
theorem goes19 : Goes Try.prog 19 := Goes.mk' Try.func19 (by kernel_rfl) (by kernel_rfl)
theorem goes20 : Goes Try.prog 20 := Goes.mk' Try.func20 (by kernel_rfl) (by kernel_rfl)
theorem goes21 : Goes Try.prog 21 := Goes.mk' Try.func21 (by kernel_rfl) (by kernel_rfl)
theorem goes22 : Goes Try.prog 22 := Goes.mk' Try.func22 (by kernel_rfl) (by kernel_rfl)
theorem goes23 : Goes Try.prog 23 := Goes.mk' Try.func23 (by kernel_rfl) (by kernel_rfl)
theorem goes24 : Goes Try.prog 24 := Goes.mk' Try.func24 (by kernel_rfl) (by kernel_rfl)
theorem goes25 : Goes Try.prog 25 := Goes.mk' Try.func25 (by kernel_rfl) (by kernel_rfl)
theorem goes26 : Goes Try.prog 26 := Goes.mk' Try.func26 (by kernel_rfl) (by kernel_rfl)
theorem goes27 : Goes Try.prog 27 := Goes.mk' Try.func27 (by kernel_rfl) (by kernel_rfl)
theorem goes28 : Goes Try.prog 28 := Goes.mk' Try.func28 (by kernel_rfl) (by kernel_rfl)
theorem goes29 : Goes Try.prog 29 := Goes.mk' Try.func29 (by kernel_rfl) (by kernel_rfl)
theorem goes30 : Goes Try.prog 30 := Goes.mk' Try.func30 (by kernel_rfl) (by kernel_rfl)
theorem goes31 : Goes Try.prog 31 := Goes.mk' Try.func31 (by kernel_rfl) (by kernel_rfl)
theorem goes32 : Goes Try.prog 32 := Goes.mk' Try.func32 (by kernel_rfl) (by kernel_rfl)
theorem goes33 : Goes Try.prog 33 := Goes.mk' Try.func33 (by kernel_rfl) (by kernel_rfl)
theorem goes34 : Goes Try.prog 34 := Goes.mk' Try.func34 (by kernel_rfl) (by kernel_rfl)
theorem goes35 : Goes Try.prog 35 := Goes.mk' Try.func35 (by kernel_rfl) (by kernel_rfl)
theorem goes36 : Goes Try.prog 36 := Goes.mk' Try.func36 (by kernel_rfl) (by kernel_rfl)
theorem goes37 : Goes Try.prog 37 := Goes.mk' Try.func37 (by kernel_rfl) (by kernel_rfl)
theorem goes38 : Goes Try.prog 38 := Goes.mk' Try.func38 (by kernel_rfl) (by kernel_rfl)
theorem goes39 : Goes Try.prog 39 := Goes.mk' Try.func39 (by kernel_rfl) (by kernel_rfl)
theorem goes40 : Goes Try.prog 40 := Goes.mk' Try.func40 (by kernel_rfl) (by kernel_rfl)
theorem goes41 : Goes Try.prog 41 := Goes.mk' Try.func41 (by kernel_rfl) (by kernel_rfl)
theorem goes42 : Goes Try.prog 42 := Goes.mk' Try.func42 (by kernel_rfl) (by kernel_rfl)
theorem goes43 : Goes Try.prog 43 := Goes.mk' Try.func43 (by kernel_rfl) (by kernel_rfl)
theorem goes44 : Goes Try.prog 44 := Goes.mk' Try.func44 (by kernel_rfl) (by kernel_rfl)
theorem goes45 : Goes Try.prog 45 := Goes.mk' Try.func45 (by kernel_rfl) (by kernel_rfl)
theorem goes46 : Goes Try.prog 46 := Goes.mk' Try.func46 (by kernel_rfl) (by kernel_rfl)
theorem goes47 : Goes Try.prog 47 := Goes.mk' Try.func47 (by kernel_rfl) (by kernel_rfl)
theorem goes48 : Goes Try.prog 48 := Goes.mk' Try.func48 (by kernel_rfl) (by kernel_rfl)
theorem goes49 : Goes Try.prog 49 := Goes.mk' Try.func49 (by kernel_rfl) (by kernel_rfl)
theorem goes50 : Goes Try.prog 50 := Goes.mk' Try.func50 (by kernel_rfl) (by kernel_rfl)
theorem goes51 : Goes Try.prog 51 := Goes.mk' Try.func51 (by kernel_rfl) (by kernel_rfl)
theorem goes52 : Goes Try.prog 52 := Goes.mk' Try.func52 (by kernel_rfl) (by kernel_rfl)
theorem goes53 : Goes Try.prog 53 := Goes.mk' Try.func53 (by kernel_rfl) (by kernel_rfl)
theorem goes54 : Goes Try.prog 54 := Goes.mk' Try.func54 (by kernel_rfl) (by kernel_rfl)
theorem goes71 : Goes Try.prog 71 := Goes.mk' Try.func71 (by kernel_rfl) (by kernel_rfl)
theorem goes72 : Goes Try.prog 72 := Goes.mk' Try.func72 (by kernel_rfl) (by kernel_rfl)
theorem goes73 : Goes Try.prog 73 := Goes.mk' Try.func73 (by kernel_rfl) (by kernel_rfl)
theorem goes74 : Goes Try.prog 74 := Goes.mk' Try.func74 (by kernel_rfl) (by kernel_rfl)
theorem goes75 : Goes Try.prog 75 := Goes.mk' Try.func75 (by kernel_rfl) (by kernel_rfl)
theorem goes76 : Goes Try.prog 76 := Goes.mk' Try.func76 (by kernel_rfl) (by kernel_rfl)
theorem goes77 : Goes Try.prog 77 := Goes.mk' Try.func77 (by kernel_rfl) (by kernel_rfl)
theorem goes78 : Goes Try.prog 78 := Goes.mk' Try.func78 (by kernel_rfl) (by kernel_rfl)
end Go.Sep

/-
  Data that is read: representations (R), slices (SlRep), indexing.
-/
set_option linter.unusedVariables false
set_option linter.unusedSimpArgs false
namespace Go.Sep

/-- A kind of data: handles (what the cells hold), data, what ties them. -/
structure R (H α : Type) where
  size : Nat
  bytes : Nat
  enc : H → List Value
  rep : Mem → H → α → Prop
  enc_len : ∀ h, (enc h).length = size
  one : ∀ h, allOne (enc h) = true
  mono : ∀ {m m' : Mem} {h : H} {a : α}, m ≤ m' → rep m h a → rep m' h a

structure Sl where
  a : Option Addr
  len : Nat
  cap : Nat

@[reducible] def Sl.v (s : Sl) : Value := .slice s.a s.len s.cap

def All2 {H α : Type} (r : H → α → Prop) : List H → List α → Prop
  | [], [] => True
  | h :: hs, a :: as1 => r h a ∧ All2 r hs as1
  | _, _ => False

theorem All2.length {H α : Type} {r : H → α → Prop} : ∀ {hs : List H} {as1 : List α}, All2 r hs as1 → hs.length = as1.length
  | [], [], _ => rfl
  | h :: hs, a :: as1, h2 => by simp [All2.length h2.2]
  | [], _ :: _, h => h.elim
  | _ :: _, [], h => h.elim
theorem All2.mono {H α : Type} {r r' : H → α → Prop} (hr : ∀ h a, r h a → r' h a) : ∀ {hs : List H} {as1 : List α}, All2 r hs as1 → All2 r' hs as1
  | [], [], _ => trivial
  | h :: hs, a :: as1, h2 => ⟨hr _ _ h2.1, All2.mono hr h2.2⟩
  | [], _ :: _, h => h.elim
  | _ :: _, [], h => h.elim
theorem All2.append {H α : Type} {r : H → α → Prop} : ∀ {hs : List H} {as1 : List α} {hs' : List H} {as1' : List α}, All2 r hs as1 → All2 r hs' as1' → All2 r (hs ++ hs') (as1 ++ as1')
  | [], [], _, _, _, h => h
  | h :: hs, a :: as1, _, _, h2, h3 => ⟨h2.1, All2.append h2.2 h3⟩
  | [], _ :: _, _, _, h, _ => h.elim
  | _ :: _, [], _, _, h, _ => h.elim
theorem All2.get {H α : Type} {r : H → α → Prop} : ∀ {hs : List H} {as1 : List α}, All2 r hs as1 → ∀ {k : Nat} {a : α}, as1[k]? = some a → ∃ h, hs[k]? = some h ∧ r h a
  | [], [], _, k, a, hk => by simp at hk
  | h :: hs, a :: as1, h2, 0, b, hk => by simp at hk; subst hk; exact ⟨h, by simp, h2.1⟩
  | h :: hs, a :: as1, h2, k + 1, b, hk => by
    rw [List.getElem?_cons_succ] at hk ⊢
    exact All2.get h2.2 hk
  | [], _ :: _, h, _, _, _ => h.elim
  | _ :: _, [], h, _, _, _ => h.elim
theorem All2.take {H α : Type} {r : H → α → Prop} : ∀ (k : Nat) {hs : List H} {as1 : List α}, All2 r hs as1 → All2 r (hs.take k) (as1.take k)
  | 0, hs, as1, _ => by simp [All2]
  | k + 1, [], [], _ => trivial
  | k + 1, h :: hs, a :: as1, h2 => ⟨h2.1, All2.take k h2.2⟩
  | _ + 1, [], _ :: _, h => h.elim
  | _ + 1, _ :: _, [], h => h.elim
theorem All2.drop {H α : Type} {r : H → α → Prop} : ∀ (k : Nat) {hs : List H} {as1 : List α}, All2 r hs as1 → All2 r (hs.drop k) (as1.drop k)
  | 0, hs, as1, h => h
  | k + 1, [], [], _ => trivial
  | k + 1, h :: hs, a :: as1, h2 => All2.drop k h2.2
  | _ + 1, [], _ :: _, h => h.elim
  | _ + 1, _ :: _, [], h => h.elim

/-- the cells of a row of handles -/
def encs {H α : Type} (r : R H α) (hs : List H) : List Value := hs.flatMap r.enc

theorem encs_len {H α : Type} (r : R H α) : ∀ hs : List H, (encs r hs).length = hs.length * r.size
  | [] => by simp [encs]
  | h :: hs => by
    have := encs_len r hs
    simp only [encs, List.flatMap_cons, List.length_append, r.enc_len, List.length_cons] at this ⊢
    rw [this, Nat.add_mul]; omega

theorem encs_one {H α : Type} (r : R H α) : ∀ hs : List H, allOne (encs r hs) = true
  | [] => rfl
  | h :: hs => by
    have := encs_one r hs
    have h1 := r.one h
    simp only [encs, List.flatMap_cons] at this ⊢
    generalize r.enc h = l at h1
    induction l with
    | nil => exact this
    | cons v l ih => simp only [allOne, Bool.and_eq_true, List.cons_append] at h1 ⊢; exact ⟨h1.1, ih h1.2⟩

theorem encs_append {H α : Type} (r : R H α) (a b : List H) : encs r (a ++ b) = encs r a ++ encs r b := by simp [encs]

theorem encs_get {H α : Type} (r : R H α) : ∀ {hs : List H} {k : Nat} {h : H}, hs[k]? = some h → ∀ (j : Nat) (v : Value), (r.enc h)[j]? = some v → (encs r hs)[k * r.size + j]? = some v
  | [], k, h, hk, _, _, _ => by simp at hk
  | x :: hs, 0, h, hk, j, v, hv => by
    simp at hk; subst hk
    have hj := (List.getElem?_eq_some_iff.1 hv).1
    simp only [encs, List.flatMap_cons, Nat.zero_mul, Nat.zero_add]
    rw [List.getElem?_append_left hj]; exact hv
  | x :: hs, k + 1, h, hk, j, v, hv => by
    rw [List.getElem?_cons_succ] at hk
    have ih := encs_get r hk j v hv
    simp only [encs, List.flatMap_cons] at ih ⊢
    rw [List.getElem?_append_right (by rw [r.enc_len, Nat.add_mul]; omega), r.enc_len, show (k + 1) * r.size + j - r.size = k * r.size + j by rw [Nat.add_mul]; omega]
    exact ih

/-- the slice s reads as1 l -/
structure SlRep {H α : Type} (r : R H α) (m : Mem) (s : Sl) (l : List α) : Prop where
  len : s.len = l.length
  cap : s.len ≤ s.cap
  fit : s.len * r.bytes ≤ 140737488355328
  cells : ∃ hs, All2 (r.rep m) hs l ∧ ((l = [] ∧ (s.a = none → s.cap = 0)) ∨ ∃ b o, s.a = some ⟨b, o, none⟩ ∧ At m b o (encs r hs))

theorem SlRep.mono {H α : Type} {r : R H α} {m m' : Mem} {s : Sl} {l : List α} (h : SlRep r m s l) (hm : m ≤ m') : SlRep r m' s l := by
  obtain ⟨hs, h1, h2⟩ := h.cells
  refine ⟨h.len, h.cap, h.fit, hs, h1.mono fun _ _ => r.mono hm, ?_⟩
  rcases h2 with h2 | ⟨b, o, h3, h4⟩
  · exact .inl h2
  · exact .inr ⟨b, o, h3, h4.mono hm⟩

theorem SlRep.small {H α : Type} {r : R H α} {m : Mem} {s : Sl} {l : List α} (h : SlRep r m s l) (hb : Nat.blt 0 r.bytes = true) : l.length ≤ 140737488355328 := by
  have h1 : 0 < r.bytes := by simpa [Nat.blt_eq] using hb
  have := h.fit
  rw [← h.len]
  exact Nat.le_trans (Nat.le_mul_of_pos_right _ h1) this

theorem SlRep.nil {H α : Type} (r : R H α) (m : Mem) : SlRep r m ⟨none, 0, 0⟩ ([] : List α) :=
  ⟨rfl, Nat.le_refl _, by simp, [], trivial, .inl ⟨rfl, fun _ => rfl⟩⟩

/-- an element of a slice: where it lies, what it is -/
theorem SlRep.elem {H α : Type} {r : R H α} {m : Mem} {s : Sl} {l : List α} (h : SlRep r m s l) {k : Nat} {a : α} (hk : l[k]? = some a) :
    ∃ b o hd, s.a = some ⟨b, o, none⟩ ∧ r.rep m hd a ∧ At m b (o + k * r.size) (r.enc hd) := by
  obtain ⟨hs, h1, h2⟩ := h.cells
  obtain ⟨hd, h3, h4⟩ := h1.get hk
  rcases h2 with ⟨h2, _⟩ | ⟨b, o, h5, h6⟩
  · subst h2; simp at hk
  · refine ⟨b, o, hd, h5, h4, fun j v hv => ?_⟩
    rw [Nat.add_assoc]
    exact h6 _ _ (encs_get r h3 j v hv)

/-! the plain kinds -/
def rInt : R Int Int where
  size := 1
  bytes := 8
  enc n := [.int .i64 n]
  rep _ h a := h = a
  enc_len _ := rfl
  one _ := rfl
  mono _ h := h
def rBool : R Bool Bool where
  size := 1
  bytes := 1
  enc n := [.bool n]
  rep _ h a := h = a
  enc_len _ := rfl
  one _ := rfl
  mono _ h := h
abbrev Str := List UInt8
@[reducible] def strV (s : Str) : Value := .string ⟨⟨s⟩⟩
def rStr : R Str Str where
  size := 1
  bytes := 16
  enc s := [strV s]
  rep _ h a := h = a
  enc_len _ := rfl
  one _ := rfl
  mono _ h := h
def rSl {H α : Type} (r : R H α) : R Sl (List α) where
  size := 1
  bytes := 24
  enc s := [s.v]
  rep m s l := SlRep r m s l
  enc_len _ := rfl
  one _ := rfl
  mono hm h := h.mono hm

section
variable {P : Program} {N : Nat} {ρ : Env} {D : List Deferred} {m : Mem} {L : List Item} {Q : EPost} {full : List Oper} {o : Oper} {K : Env → Mem → List Item → Prop}

def Tab.elem {P : Program} (T : Tab P) (t : TypeId) : Option (TypeId × TI) :=
  match T.get t with
  | some ⟨.slice e, _, _, _⟩ => match T.get e with
    | some i => some (e, i)
    | none => none
  | _ => none

theorem elem_get {T : Tab P} {t e : TypeId} {i : TI} (h : T.elem t = some (e, i)) : ∃ ti, T.get t = some ti ∧ ti.u = .slice e ∧ T.get e = some i := by
  unfold Tab.elem at h
  split at h
  · rename_i e' a b c hg
    split at h
    · rename_i j hj
      simp only [Option.some.injEq, Prod.mk.injEq] at h
      obtain ⟨rfl, rfl⟩ := h
      exact ⟨_, hg, rfl, hj⟩
    · cases h
  · cases h

def Tab.esize {P : Program} (T : Tab P) (t : TypeId) : Option Nat :=
  match T.elem t with
  | some (_, i) => some i.size
  | none => none

theorem esize_get {T : Tab P} {t : TypeId} {n : Nat} (h : T.esize t = some n) : ∃ e i, T.elem t = some (e, i) ∧ i.size = n := by
  unfold Tab.esize at h
  split at h
  · rename_i e i he
    simp only [Option.some.injEq] at h
    exact ⟨e, i, he, h⟩
  · cases h

theorem run_indexAddr (T : Tab P) {t : TypeId} {n sz len cap : Nat} {ad : Addr} {i : Int} {k : IntKind} {w : World} (he : T.esize t = some sz) (h0 : 0 ≤ i) (h1 : i < len) :
    (Instr.indexAt t (.slice (some ad) len cap) (.int k i)).run P w = .ok (.pointer (some (ad.add (i.toNat * sz)))) w := by
  obtain ⟨e, ei, h2, h3⟩ := esize_get he
  obtain ⟨ti, h4, h5, h6⟩ := elem_get h2
  have hu := T.run_underlying w h4
  rw [h5] at hu
  simp only [Instr.indexAt, Sem.run_bind, asIntOf, Sem.run_pure, Result.andThen_ok, hu]
  rw [if_pos ⟨h0, h1⟩]
  simp only [Sem.run_bind, T.run_sizeOf w h6, Result.andThen_ok, Sem.run_pure, h3]

/-- xs[k] of a slice that is read: a pointer at cells that are known -/
theorem OT.index {H α : Type} (T : Tab P) (r : R H α) {s : Sl} {l : List α} (k : Nat) {x y : Operand} {t : TypeId} {d : Nat} {a : α} (hs : SlRep r m s l)
    (ho : o.op = .indexAddr t x y) (hd : o.dst = some d) (hN : Nat.blt d N = true) (hx : ev ρ x = some s.v) {iv : Int} (hy : ev ρ y = some (.int .i64 iv)) (hik : iv = (k : Int)) (hsz : T.esize t = some r.size) (hk : l[k]? = some a)
    (hK : ∀ b i hd', r.rep m hd' a → At m b i (r.enc hd') → K ((d, .pointer (some ⟨b, i, none⟩)) :: ρ) m L) : OT P N o ρ D m L Q K := by
  subst hik
  obtain ⟨b, i, hd', h1, h2, h3⟩ := hs.elem hk
  have hlt : k < s.len := by rw [hs.len]; exact (List.getElem?_eq_some_iff.1 hk).1
  refine OT.run hd hN (fun ac w ha => ⟨w, ?_, ha.st⟩) (hK b (i + k * r.size) hd' h2 h3)
  have hx' := ha.env.eval hx
  simp only [Sl.v, h1] at hx'
  have := run_indexAddr (P := P) T (n := 0) (len := s.len) (cap := s.cap) (ad := ⟨b, i, none⟩) (k := .i64) (w := w) hsz (Int.natCast_nonneg k) (by omega : (k : Int) < s.len)
  rw [addr_add, Int.toNat_natCast] at this
  simp only [execOp, ho, hx', ha.env.eval hy, Sem.run_bind, this, Result.andThen_ok, Sem.run_pure]

/-- xs[k] of a slice whose address is known -/
theorem OT.indexP (T : Tab P) (k : Nat) {x y : Operand} {t : TypeId} {d b i n c sz : Nat}
    (ho : o.op = .indexAddr t x y) (hd : o.dst = some d) (hN : Nat.blt d N = true) (hx : ev ρ x = some (.slice (some ⟨b, i, none⟩) n c)) {iv : Int} (hy : ev ρ y = some (.int .i64 iv)) (hik : iv = (k : Int)) (hsz : T.esize t = some sz) (hk : k < n)
    (hK : K ((d, .pointer (some ⟨b, i + k * sz, none⟩)) :: ρ) m L) : OT P N o ρ D m L Q K := by
  subst hik
  refine OT.run hd hN (fun ac w ha => ⟨w, ?_, ha.st⟩) hK
  have := run_indexAddr (P := P) T (n := 0) (cap := c) (ad := ⟨b, i, none⟩) (k := .i64) (w := w) hsz (Int.natCast_nonneg k) (by omega : (k : Int) < n)
  rw [addr_add, Int.toNat_natCast] at this
  simp only [execOp, ho, ha.env.eval hx, ha.env.eval hy, Sem.run_bind, this, Result.andThen_ok, Sem.run_pure]
end
end Go.Sep

/-
  Slices that the call itself makes: append (what is appended stays known for ever; the room behind it is owned), make, literals.
-/
set_option linter.unusedVariables false
set_option linter.unusedSimpArgs false
namespace Go.Sep

/-- the room behind a growing slice -/
def tok (s : Sl) (size : Nat) : Item :=
  match s.a with
  | none => .room 0 0 0
  | some a => .room a.block (a.off + s.len * size) ((s.cap - s.len) * size)

/-- may it grow? -/
def Own (s : Sl) : Prop := s = ⟨none, 0, 0⟩ ∨ ∃ b o, s.a = some ⟨b, o, none⟩

/-- the cells behind a slice value -/
def Src (w : World) (s : Sl) (size : Nat) (news : List Value) : Prop :=
  news.length = s.len * size ∧ (s.len = 0 ∨ ∃ b o, s.a = some ⟨b, o, none⟩ ∧ Cells w b o news)

theorem Src.drew {w : World} {s : Sl} {size : Nat} {news : List Value} (h : Src w s size news) : Src w.drew s size news := h

theorem run_first {P : Program} {w : World} {s : Sl} {size : Nat} {news : List Value} (h : Src w s size news) : (Builtin.firstCells size s.len s.v).run P w = .ok ⟨news⟩ w := by
  obtain ⟨h1, h2⟩ := h
  obtain ⟨a, n, c⟩ := s
  simp only at h1 h2
  cases a with
  | none =>
    rcases h2 with h2 | ⟨b, o, h3, _⟩
    · subst h2
      have : news = [] := List.eq_nil_of_length_eq_zero (by omega)
      subst this
      rfl
    · cases h3
  | some a =>
    simp only [Sl.v, Builtin.firstCells]
    rw [← h1]
    refine run_loadCells_list w a news fun j v hv => ?_
    rcases h2 with h2 | ⟨b, o, h3, h4⟩
    · subst h2
      have : news = [] := List.eq_nil_of_length_eq_zero (by omega)
      subst this
      simp at hv
    · cases h3
      rw [addr_add]
      exact h4 j v hv

theorem At.append {m : Mem} {b o : Nat} {xs ys : List Value} (h : At m b o xs) (h2 : At m b (o + xs.length) ys) : At m b o (xs ++ ys) := by
  intro j v hv
  rcases Nat.lt_or_ge j xs.length with hj | hj
  · rw [List.getElem?_append_left hj] at hv; exact h j v hv
  · rw [List.getElem?_append_right hj] at hv
    have := h2 _ v hv
    rwa [show o + xs.length + (j - xs.length) = o + j by omega] at this
theorem At.nil (m : Mem) (b o : Nat) : At m b o [] := fun j v hv => by simp at hv

theorem SlRep.src {H α : Type} {r : R H α} {m : Mem} {w : World} {L : List Item} {s : Sl} {l : List α} (h : SlRep r m s l) (hw : St m w L) :
    ∃ hs, All2 (r.rep m) hs l ∧ Src w s r.size (encs r hs) ∧ (s.a = none → s.len = 0 ∧ s.cap = 0) ∧ (∀ b o, s.a = some ⟨b, o, none⟩ → At m b o (encs r hs)) := by
  obtain ⟨hs, h1, h2⟩ := h.cells
  refine ⟨hs, h1, ⟨by rw [encs_len, h1.length, h.len], ?_⟩, ?_, ?_⟩
  · rcases h2 with ⟨h2, _⟩ | ⟨b, o, h3, h4⟩
    · left; rw [h.len, h2]; rfl
    · exact .inr ⟨b, o, h3, hw.at_cells h4⟩
  · intro ha
    rcases h2 with ⟨h2, h5⟩ | ⟨b, o, h3, h4⟩
    · exact ⟨by rw [h.len, h2]; rfl, h5 ha⟩
    · rw [ha] at h3; cases h3
  · intro b o ha
    rcases h2 with ⟨h2, h5⟩ | ⟨b', o', h3, h4⟩
    · subst h2
      have : hs = [] := List.eq_nil_of_length_eq_zero (by rw [h1.length]; rfl)
      subst this
      exact At.nil _ _ _
    · rw [ha] at h3
      cases h3
      exact h4

theorem putAt_front : ∀ (cs vs : List Value), cs.length ≤ vs.length → ∀ (pre : List Value), putAt (pre ++ vs) pre.length cs = pre ++ cs ++ vs.drop cs.length
  | [], vs, _, pre => by simp [putAt]
  | c :: cs, [], h, pre => by simp at h
  | c :: cs, v :: vs, h, pre => by
    simp only [putAt]
    have e : (pre ++ v :: vs).set pre.length c = (pre ++ [c]) ++ vs := by simp
    rw [e]
    have := putAt_front cs vs (by simpa using h) (pre ++ [c])
    simp only [List.length_append, List.length_cons, List.length_nil, Nat.zero_add] at this
    rw [this]
    simp

theorem set_same {L : List Item} {i : Nat} {x : Item} (h : L[i]? = some x) : L.set i x = L := by
  obtain ⟨hi, he⟩ := List.getElem?_eq_some_iff.1 h
  subst he
  exact List.set_getElem_self hi

theorem putAt_zero {cs vs : List Value} (h : cs.length ≤ vs.length) : putAt vs 0 cs = cs ++ vs.drop cs.length := by
  have := putAt_front cs vs h []
  simpa using this

section
variable {P : Program} {N : Nat} {ρ : Env} {D : List Deferred} {m : Mem} {L : List Item} {Q : EPost} {full : List Oper} {o : Oper} {K : Env → Mem → List Item → Prop}

theorem nozeros {T : Tab P} {t2 e2 : TypeId} {ei2 : TI} (h : T.elem t2 = some (e2, ei2)) (w : World) {α : Type} (f : Bool → Sem α) :
    ((do let u ← underlying t2; f (u matches .int _)) : Sem α).run P w = (f false).run P w := by
  obtain ⟨ti, h4, h5, h6⟩ := elem_get h
  have hu := T.run_underlying w h4
  rw [h5] at hu
  simp only [Sem.run_bind, hu, Result.andThen_ok]

/-- what append does -/
theorem run_append (T : Tab P) {t t2 e e2 ty : TypeId} {ei ei2 : TI} {w : World} {s s2 : Sl} {xs news : List Value} {i : Nat} (he : T.elem t = some (e, ei)) (he2 : T.elem t2 = some (e2, ei2))
    (hw : St m w L) (hi : L[i]? = some (tok s ei.size)) (ho : Own s) (hx : Src w s ei.size xs) (hy : Src w s2 ei.size news) (hn : s2.a = none → s2.len = 0) (h1 : allOne news = true) (hzs : ei.zero.cells.size = ei.size) (hcap : s.len ≤ s.cap)
    (hb : 0 < ei.bytes) (hfit : (s.len + s2.len) * ei.bytes ≤ 140737488355328) (hAt : ∀ b o, s.a = some ⟨b, o, none⟩ → At m b o xs) :
    ∃ s' m' w', (Builtin.append_ #[t, t2] ty #[s.v, s2.v]).run P w = .ok s'.v w' ∧ m ≤ m' ∧ St m' w' (L.set i (tok s' ei.size)) ∧ Own s' ∧ s'.len = s.len + s2.len ∧ s'.len ≤ s'.cap ∧
      ((s'.a = none ∧ xs ++ news = [] ∧ s'.cap = 0) ∨ ∃ b o, s'.a = some ⟨b, o, none⟩ ∧ At m' b o (xs ++ news)) := by
  obtain ⟨ti, h4, h5, h6⟩ := elem_get he
  obtain ⟨ti2, k4, k5, k6⟩ := elem_get he2
  obtain ⟨_, _, hu, _⟩ := T.ok t ti h4
  rw [h5] at hu
  obtain ⟨_, _, hu2, _⟩ := T.ok t2 ti2 k4
  rw [k5] at hu2
  obtain ⟨info, q1, q2, q3, q4, q5⟩ := T.ok e ei h6
  have hnew := run_first (P := P) hy
  have hbound : s.len + s2.len ≤ 140737488355328 := Nat.le_trans (Nat.le_mul_of_pos_right _ hb) hfit
  by_cases hroom : s.len + s2.len ≤ s.cap
  · -- there is room
    rcases ho with hnil | ⟨b, o, ha⟩
    · subst hnil
      simp only at hroom
      have hz : s2.len = 0 := by omega
      have hxs : xs = [] := List.eq_nil_of_length_eq_zero (by have := hx.1; simpa using this)
      have hns : news = [] := List.eq_nil_of_length_eq_zero (by have := hy.1; rw [hz] at this; simpa using this)
      subst hxs; subst hns
      refine ⟨⟨none, 0, 0⟩, m, w, ?_, m.le_refl, by rw [set_same hi]; exact hw, .inl rfl, by simp [hz], by simp, .inl ⟨rfl, rfl, rfl⟩⟩
      have hnew' : (Builtin.firstCells ei.size 0 s2.v).run P w = .ok (⟨[]⟩ : Array Value) w := by rw [← hz]; exact hnew
      simp only [Sl.v] at hnew'
      simp [Builtin.append_, run_underlying hu, run_underlying hu2, sizeOf, typeInfo, q1, q3, Builtin.lenOf, hz, hnew']
    · obtain ⟨a, n, c⟩ := s
      simp only at ha hroom hcap hbound hfit hx hAt
      subst ha
      have hst := (hw.at_ hi)
      simp only [tok] at hst
      obtain ⟨vs, hvl, hst⟩ := hst.ofRoom
      have hnl : news.length ≤ vs.length := by
        rw [hvl, hy.1]; exact Nat.mul_le_mul_right _ (by omega)
      obtain ⟨w', hr, hst'⟩ := run_storeCells (P := P) news vs 0 0 w hst h1 (by omega)
      rw [putAt_zero hnl] at hst'
      have hst2 := hst'.split
      obtain ⟨g1, g2, g3⟩ := hst2.freeze
      have g4 := g3.toRoom
      refine ⟨⟨some ⟨b, o, none⟩, n + s2.len, c⟩, m.addCells b (o + n * ei.size) news, w', ?_, g1, ?_, .inr ⟨b, o, rfl⟩, rfl, hroom, .inr ⟨b, o, rfl, ?_⟩⟩
      · have hr' : (storeCells ((⟨b, o, none⟩ : Addr).add (n * ei.size)) news).run P w = .ok () w' := by rw [addr_add]; exact hr
        simp only [Sl.v] at hnew
        simp [Builtin.append_, run_underlying hu, run_underlying hu2, sizeOf, typeInfo, q1, q3, Builtin.lenOf, hroom, hnew, hr']
      · have e1 : Item.room b (o + n * ei.size + news.length) (List.drop news.length vs).length = tok ⟨some ⟨b, o, none⟩, n + s2.len, c⟩ ei.size := by
          simp only [tok, List.length_drop, hvl, hy.1]
          congr 1
          · rw [Nat.add_mul]; omega
          · rw [← Nat.sub_mul]; congr 1; omega
        rw [← e1]
        exact St.back hi g4
      · refine ((hAt b o rfl).mono g1).append ?_
        rw [hx.1]
        exact g2
  · -- it grows
    have hlt : s.cap < s.len + s2.len := by omega
    have h48 : ¬ (Builtin.nextslicecap (s.len + s2.len) s.cap * ei.bytes > 281474976710656) := by
      have := growslice_fits hlt hfit
      omega
    have hold := run_first (P := P) (hx.drew)
    have hnew' := run_first (P := P) (hy.drew)
    obtain ⟨nc, hnc, hge⟩ : ∃ nc, nc = (Question.appendCap (s.len + s2.len) s.cap e).cut (w.tape w.drawn (.appendCap (s.len + s2.len) s.cap e)) ∧ s.len + s2.len ≤ nc := ⟨_, rfl, by simp [Question.cut]⟩
    have hst := hw.drew.allocCells ((⟨xs⟩ : Array Value) ++ (⟨news⟩ : Array Value) ++ Builtin.zeroCells ei.zero.cells (nc - (s.len + s2.len))) e
    have hl1 : ((⟨xs⟩ : Array Value) ++ (⟨news⟩ : Array Value) ++ Builtin.zeroCells ei.zero.cells (nc - (s.len + s2.len))).toList = (xs ++ news) ++ (Builtin.zeroCells ei.zero.cells (nc - (s.len + s2.len))).toList := by simp
    rw [hl1] at hst
    obtain ⟨g1, g2, g3⟩ := hst.split.freeze
    have g4 := g3.toRoom
    have hxl : (xs ++ news).length = (s.len + s2.len) * ei.size := by rw [List.length_append, hx.1, hy.1, Nat.add_mul]
    refine ⟨⟨some ⟨w.heap.size, 0, none⟩, s.len + s2.len, nc⟩, _, w.drew.alloc (.cells ((⟨xs⟩ : Array Value) ++ (⟨news⟩ : Array Value) ++ Builtin.zeroCells ei.zero.cells (nc - (s.len + s2.len))) e), ?_, g1, ?_, .inr ⟨_, _, rfl⟩, rfl, hge, .inr ⟨_, _, rfl, g2⟩⟩
    · simp only [Sl.v] at hold hnew'
      have hb0 : ei.bytes ≠ 0 := by omega
      have hmax : ¬ (9223372036854775807 < (s.len : Int) + (s2.len : Int)) := by omega
      simp [Builtin.append_, run_underlying hu, run_underlying hu2, sizeOf, typeInfo, zeroValue, q1, q3, q4, q5, Builtin.lenOf, hroom, hold, hnew', h48, hmax, Question.forced, newRow, ← hnc, IntKind.max, IntKind.signed, IntKind.bits, hb0]
      congr 2
      apply Array.ext'
      simp
    · have e1 : Item.room w.heap.size (0 + (xs ++ news).length) (Builtin.zeroCells ei.zero.cells (nc - (s.len + s2.len))).toList.length = tok ⟨some ⟨w.heap.size, 0, none⟩, s.len + s2.len, nc⟩ ei.size := by
        simp only [tok, hxl, Array.length_toList, size_zeroCells, hzs]
      rw [← e1]
      have hsub : (Item.room w.heap.size (0 + (xs ++ news).length) (Builtin.zeroCells ei.zero.cells (nc - (s.len + s2.len))).toList.length :: L.eraseIdx i).Sublist (Item.room w.heap.size (0 + (xs ++ news).length) (Builtin.zeroCells ei.zero.cells (nc - (s.len + s2.len))).toList.length :: L) :=
        List.Sublist.cons_cons _ (List.eraseIdx_sublist L i)
      exact St.back hi (g4.sub hsub)

def Tab.okElem {P : Program} (T : Tab P) (t t2 : TypeId) (size bytes : Nat) : Bool :=
  match T.elem t, T.elem t2 with
  | some (_, ei), some (_, _) => Nat.beq ei.size size && (Nat.beq ei.bytes bytes && (Nat.blt 0 bytes && match cellsF ei.zero with
    | some l => Nat.beq l.length size
    | none => false))
  | _, _ => false

theorem okElem_get {T : Tab P} {t t2 : TypeId} {size bytes : Nat} (h : T.okElem t t2 size bytes = true) :
    ∃ e e2 ei ei2, T.elem t = some (e, ei) ∧ T.elem t2 = some (e2, ei2) ∧ ei.size = size ∧ ei.bytes = bytes ∧ 0 < bytes ∧ ei.zero.cells.size = ei.size := by
  unfold Tab.okElem at h
  split at h
  · rename_i e ei e2 ei2 h1 h2
    simp only [Bool.and_eq_true] at h
    obtain ⟨a1, a2, a3, a4⟩ := h
    split at a4
    · rename_i l hl
      have := cellsF_eq hl
      refine ⟨e, e2, ei, ei2, h1, h2, Nat.eq_of_beq_eq_true a1, Nat.eq_of_beq_eq_true a2, by simpa [Nat.blt_eq] using a3, ?_⟩
      rw [this, Nat.eq_of_beq_eq_true a1]
      simpa using Nat.eq_of_beq_eq_true a4
    · cases a4
  · cases h

/-- append(xs, ys...): xs may grow (its room is item i), ys is read -/
theorem OT.append {H α : Type} (T : Tab P) (r : R H α) (i : Nat) {s s2 : Sl} {l l2 : List α} {x y : Operand} {t t2 : TypeId} {d : Nat} (hs : SlRep r m s l) (hown : Own s) (hs2 : SlRep r m s2 l2)
    (ho : o.op = .call ⟨.builtin .append, ⟨[x, y]⟩, ⟨[t, t2]⟩⟩) (hd : o.dst = some d) (hN : Nat.blt d N = true) (hx : ev ρ x = some s.v) (hy : ev ρ y = some s2.v) (hT : T.okElem t t2 r.size r.bytes = true)
    (hi : L[i]? = some (tok s r.size)) (hfit : (l.length + l2.length) * r.bytes ≤ 140737488355328)
    (hK : ∀ s' m', m ≤ m' → SlRep r m' s' (l ++ l2) → Own s' → K ((d, s'.v) :: ρ) m' (L.set i (tok s' r.size))) : OT P N o ρ D m L Q K := by
  obtain ⟨e, e2, ei, ei2, q1, q2, q3, q4, q5, q6⟩ := okElem_get hT
  intro a w ha
  obtain ⟨hl, h1, h2, h3, h4⟩ := hs.src ha.st
  obtain ⟨hl2, k1, k2, k3, k4⟩ := hs2.src ha.st
  have hb : 0 < ei.bytes := by omega
  obtain ⟨s', m', w', hr, g1, g2, g3, g4, g5, g6⟩ := run_append (P := P) (ty := o.type) T q1 q2 ha.st (by rw [q3]; exact hi) hown (by rw [q3]; exact h2) (by rw [q3]; exact k2) (fun hz => (k3 hz).1) (encs_one r hl2) q6 hs.cap hb
    (by rw [hs.len, hs2.len, q4]; exact hfit) h4
  have he : (execOp a.eval o).run P w = .ok (.value s'.v) w' := by
    simp only [execOp, ho, resolve, invoke, builtin, Sem.run_bind, Sem.run_pure, Result.andThen_ok, List.map_toArray, List.map_cons, List.map_nil, ha.env.eval hx, ha.env.eval hy]
    simp only [List.map_toArray, List.map_cons, List.map_nil, ha.env.eval hx, ha.env.eval hy, hr, Result.andThen_ok]
  have hrep : SlRep r m' s' (l ++ l2) := by
    refine ⟨by rw [g4, hs.len, hs2.len]; simp, g5, by rw [g4, hs.len, hs2.len]; exact hfit, hl ++ hl2, (h1.mono fun _ _ => r.mono g1).append (k1.mono fun _ _ => r.mono g1), ?_⟩
    rcases g6 with ⟨e1, e2, e3⟩ | ⟨b, off, e1, e2⟩
    · left
      have hz : s'.len = 0 := by
        rcases g3 with e | ⟨b, off, e⟩
        · rw [e]
        · rw [e1] at e; cases e
      refine ⟨List.eq_nil_of_length_eq_zero ?_, fun _ => e3⟩
      have j1 := hs.len
      have j2 := hs2.len
      rw [List.length_append]; omega
    · right
      exact ⟨b, off, e1, by rw [encs_append]; exact e2⟩
  simp only [Oper.wp, he, Oper.upon]
  rw [hd]
  have hp := ha.put hN s'.v
  rw [q3] at g2
  exact ⟨_, _, _, ⟨hp.size, hp.env, hp.defers, g2⟩, hK s' m' g1 hrep g3⟩
end
end Go.Sep
