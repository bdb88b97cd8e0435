/-
  The table of the types, and which functions are entered. Written by program (gentab.py).
-/
import Derived.Test.YtlpcakplpnpaeaaProg
import Derived.KernelRfl
import Derived.Test.YtlpcakplpnpaeaaSepD
set_option linter.unusedVariables false
namespace Go.Sep
open Go.Proofs
noncomputable def tiOf (i d : TypeInfo) : TI := ⟨d.desc, i.size, i.bytes, match i.zero with | some z => z | none => undef⟩
def GoodTI (P : Program) (t : TypeId) (i : TI) : Prop := ∃ info, P.info? t = some info ∧ P.underlying t = some i.u ∧ info.size = i.size ∧ info.bytes = i.bytes ∧ info.zero = some i.zero
theorem goodTI {P : Program} {t : TypeId} {i d : TypeInfo} (h1 : P.info? t = some i) (h2 : P.underlying t = some d.desc) (h3 : i.zero.isSome = true) : GoodTI P t (tiOf i d) := by
  refine ⟨i, h1, h2, rfl, rfl, ?_⟩
  cases hz : i.zero with
  | none => rw [hz] at h3; cases h3
  | some z => simp [tiOf, hz]
def getT : List (Nat × TI) → Nat → Option TI
  | [], _ => none
  | (k, i) :: r, t => bif Nat.beq k t then some i else getT r t
def AllT (P : Program) : List (Nat × TI) → Prop
  | [] => True
  | (k, i) :: r => GoodTI P k i ∧ AllT P r
theorem getT_ok {P : Program} : ∀ {l : List (Nat × TI)}, AllT P l → ∀ t i, getT l t = some i → GoodTI P t i
  | [], _, t, i, h => by cases h
  | (k, x) :: r, hl, t, i, h => by
    simp only [getT] at h
    cases hb : Nat.beq k t with
    | true =>
      have : k = t := Nat.eq_of_beq_eq_true hb
      subst this
      simp only [hb, cond_true, Option.some.injEq] at h
      subst h
      exact hl.1
    | false => simp only [hb, cond_false] at h; exact getT_ok hl.2 t i h
noncomputable def tbl : List (Nat × TI) := [(1, tiOf Try.t1 Try.t1),
  (3, tiOf Try.t3 Try.t3),
  (4, tiOf Try.t4 Try.t4),
  (27, tiOf Try.t27 Try.t26),
  (2, tiOf Try.t2 Try.t2),
  (9, tiOf Try.t9 Try.t9),
  (24, tiOf Try.t24 Try.t23),
  (5, tiOf Try.t5 Try.t5),
  (35, tiOf Try.t35 Try.t35),
  (43, tiOf Try.t43 Try.t43),
  (45, tiOf Try.t45 Try.t44),
  (7, tiOf Try.t7 Try.t7),
  (60, tiOf Try.t60 Try.t59),
  (25, tiOf Try.t25 Try.t25),
  (42, tiOf Try.t42 Try.t41),
  (28, tiOf Try.t28 Try.t3),
  (55, tiOf Try.t55 Try.t55),
  (22, tiOf Try.t22 Try.t22),
  (101, tiOf Try.t101 Try.t101),
  (37, tiOf Try.t37 Try.t37),
  (32, tiOf Try.t32 Try.t32),
  (81, tiOf Try.t81 Try.t81),
  (105, tiOf Try.t105 Try.t105),
  (38, tiOf Try.t38 Try.t38),
  (33, tiOf Try.t33 Try.t33),
  (108, tiOf Try.t108 Try.t107),
  (12, tiOf Try.t12 Try.t12),
  (13, tiOf Try.t13 Try.t13),
  (97, tiOf Try.t97 Try.t33),
  (106, tiOf Try.t106 Try.t106),
  (34, tiOf Try.t34 Try.t34),
  (57, tiOf Try.t57 Try.t57),
  (36, tiOf Try.t36 Try.t36),
  (46, tiOf Try.t46 Try.t46),
  (56, tiOf Try.t56 Try.t56),
  (39, tiOf Try.t39 Try.t39),
  (49, tiOf Try.t49 Try.t49),
  (84, tiOf Try.t84 Try.t84),
  (114, tiOf Try.t114 Try.t114),
  (15, tiOf Try.t15 Try.t15),
  (71, tiOf Try.t71 Try.t71),
  (47, tiOf Try.t47 Try.t47),
  (48, tiOf Try.t48 Try.t48),
  (53, tiOf Try.t53 Try.t53),
  (86, tiOf Try.t86 Try.t84),
  (31, tiOf Try.t31 Try.t31),
  (40, tiOf Try.t40 Try.t40),
  (52, tiOf Try.t52 Try.t52),
  (54, tiOf Try.t54 Try.t54),
  (98, tiOf Try.t98 Try.t98),
  (20, tiOf Try.t20 Try.t20),
  (64, tiOf Try.t64 Try.t64),
  (68, tiOf Try.t68 Try.t68),
  (74, tiOf Try.t74 Try.t74),
  (26, tiOf Try.t26 Try.t26),
  (50, tiOf Try.t50 Try.t50),
  (82, tiOf Try.t82 Try.t82),
  (93, tiOf Try.t93 Try.t93),
  (95, tiOf Try.t95 Try.t95),
  (16, tiOf Try.t16 Try.t16),
  (41, tiOf Try.t41 Try.t41),
  (62, tiOf Try.t62 Try.t62),
  (72, tiOf Try.t72 Try.t72),
  (79, tiOf Try.t79 Try.t79),
  (102, tiOf Try.t102 Try.t102),
  (109, tiOf Try.t109 Try.t109),
  (118, tiOf Try.t118 Try.t118),
  (18, tiOf Try.t18 Try.t18),
  (44, tiOf Try.t44 Try.t44),
  (66, tiOf Try.t66 Try.t66),
  (73, tiOf Try.t73 Try.t73),
  (89, tiOf Try.t89 Try.t89),
  (100, tiOf Try.t100 Try.t100),
  (103, tiOf Try.t103 Try.t103),
  (107, tiOf Try.t107 Try.t107),
  (121, tiOf Try.t121 Try.t121),
  (30, tiOf Try.t30 Try.t30),
  (51, tiOf Try.t51 Try.t51),
  (63, tiOf Try.t63 Try.t63),
  (80, tiOf Try.t80 Try.t80),
  (29, tiOf Try.t29 Try.t29),
  (58, tiOf Try.t58 Try.t58),
  (65, tiOf Try.t65 Try.t65),
  (67, tiOf Try.t67 Try.t67),
  (69, tiOf Try.t69 Try.t69),
  (70, tiOf Try.t70 Try.t70),
  (78, tiOf Try.t78 Try.t78),
  (83, tiOf Try.t83 Try.t83),
  (92, tiOf Try.t92 Try.t92),
  (123, tiOf Try.t123 Try.t123),
  (76, tiOf Try.t76 Try.t76),
  (77, tiOf Try.t77 Try.t77),
  (85, tiOf Try.t85 Try.t85),
  (90, tiOf Try.t90 Try.t90),
  (94, tiOf Try.t94 Try.t94),
  (96, tiOf Try.t96 Try.t96),
  (99, tiOf Try.t99 Try.t99),
  (111, tiOf Try.t111 Try.t110),
  (113, tiOf Try.t113 Try.t113),
  (120, tiOf Try.t120 Try.t120),
  (125, tiOf Try.t125 Try.t125),
  (21, tiOf Try.t21 Try.t21),
  (61, tiOf Try.t61 Try.t61),
  (75, tiOf Try.t75 Try.t75),
  (88, tiOf Try.t88 Try.t88),
  (91, tiOf Try.t91 Try.t91),
  (104, tiOf Try.t104 Try.t104),
  (112, tiOf Try.t112 Try.t112),
  (115, tiOf Try.t115 Try.t115),
  (119, tiOf Try.t119 Try.t119),
  (122, tiOf Try.t122 Try.t122),
  (124, tiOf Try.t124 Try.t124),
  (23, tiOf Try.t23 Try.t23),
  (87, tiOf Try.t87 Try.t87),
  (110, tiOf Try.t110 Try.t110),
  (116, tiOf Try.t116 Try.t116),
  (117, tiOf Try.t117 Try.t117),
  (17, tiOf Try.t17 Try.t17),
  (131, tiOf Try.t131 Try.t131),
  (132, tiOf Try.t132 Try.t132),
  (135, tiOf Try.t135 Try.t135),
  (59, tiOf Try.t59 Try.t59),
  (126, tiOf Try.t126 Try.t126),
  (128, tiOf Try.t128 Try.t128),
  (129, tiOf Try.t129 Try.t129),
  (138, tiOf Try.t138 Try.t138)]
theorem good1 : GoodTI Try.prog 1 (tiOf Try.t1 Try.t1) := goodTI (by kernel_rfl) (by kernel_rfl) (by kernel_rfl)
theorem good3 : GoodTI Try.prog 3 (tiOf Try.t3 Try.t3) := goodTI (by kernel_rfl) (by kernel_rfl) (by kernel_rfl)
theorem good4 : GoodTI Try.prog 4 (tiOf Try.t4 Try.t4) := goodTI (by kernel_rfl) (by kernel_rfl) (by kernel_rfl)
theorem good27 : GoodTI Try.prog 27 (tiOf Try.t27 Try.t26) := goodTI (by kernel_rfl) (by kernel_rfl) (by kernel_rfl)
theorem good2 : GoodTI Try.prog 2 (tiOf Try.t2 Try.t2) := goodTI (by kernel_rfl) (by kernel_rfl) (by kernel_rfl)
theorem good9 : GoodTI Try.prog 9 (tiOf Try.t9 Try.t9) := goodTI (by kernel_rfl) (by kernel_rfl) (by kernel_rfl)
theorem good24 : GoodTI Try.prog 24 (tiOf Try.t24 Try.t23) := goodTI (by kernel_rfl) (by kernel_rfl) (by kernel_rfl)
theorem good5 : GoodTI Try.prog 5 (tiOf Try.t5 Try.t5) := goodTI (by kernel_rfl) (by kernel_rfl) (by kernel_rfl)
theorem good35 : GoodTI Try.prog 35 (tiOf Try.t35 Try.t35) := goodTI (by kernel_rfl) (by kernel_rfl) (by kernel_rfl)
theorem good43 : GoodTI Try.prog 43 (tiOf Try.t43 Try.t43) := goodTI (by kernel_rfl) (by kernel_rfl) (by kernel_rfl)
theorem good45 : GoodTI Try.prog 45 (tiOf Try.t45 Try.t44) := goodTI (by kernel_rfl) (by kernel_rfl) (by kernel_rfl)
theorem good7 : GoodTI Try.prog 7 (tiOf Try.t7 Try.t7) := goodTI (by kernel_rfl) (by kernel_rfl) (by kernel_rfl)
theorem good60 : GoodTI Try.prog 60 (tiOf Try.t60 Try.t59) := goodTI (by kernel_rfl) (by kernel_rfl) (by kernel_rfl)
theorem good25 : GoodTI Try.prog 25 (tiOf Try.t25 Try.t25) := goodTI (by kernel_rfl) (by kernel_rfl) (by kernel_rfl)
theorem good42 : GoodTI Try.prog 42 (tiOf Try.t42 Try.t41) := goodTI (by kernel_rfl) (by kernel_rfl) (by kernel_rfl)
theorem good28 : GoodTI Try.prog 28 (tiOf Try.t28 Try.t3) := goodTI (by kernel_rfl) (by kernel_rfl) (by kernel_rfl)
theorem good55 : GoodTI Try.prog 55 (tiOf Try.t55 Try.t55) := goodTI (by kernel_rfl) (by kernel_rfl) (by kernel_rfl)
theorem good22 : GoodTI Try.prog 22 (tiOf Try.t22 Try.t22) := goodTI (by kernel_rfl) (by kernel_rfl) (by kernel_rfl)
theorem good101 : GoodTI Try.prog 101 (tiOf Try.t101 Try.t101) := goodTI (by kernel_rfl) (by kernel_rfl) (by kernel_rfl)
theorem good37 : GoodTI Try.prog 37 (tiOf Try.t37 Try.t37) := goodTI (by kernel_rfl) (by kernel_rfl) (by kernel_rfl)
theorem good32 : GoodTI Try.prog 32 (tiOf Try.t32 Try.t32) := goodTI (by kernel_rfl) (by kernel_rfl) (by kernel_rfl)
theorem good81 : GoodTI Try.prog 81 (tiOf Try.t81 Try.t81) := goodTI (by kernel_rfl) (by kernel_rfl) (by kernel_rfl)
theorem good105 : GoodTI Try.prog 105 (tiOf Try.t105 Try.t105) := goodTI (by kernel_rfl) (by kernel_rfl) (by kernel_rfl)
theorem good38 : GoodTI Try.prog 38 (tiOf Try.t38 Try.t38) := goodTI (by kernel_rfl) (by kernel_rfl) (by kernel_rfl)
theorem good33 : GoodTI Try.prog 33 (tiOf Try.t33 Try.t33) := goodTI (by kernel_rfl) (by kernel_rfl) (by kernel_rfl)
theorem good108 : GoodTI Try.prog 108 (tiOf Try.t108 Try.t107) := goodTI (by kernel_rfl) (by kernel_rfl) (by kernel_rfl)
theorem good12 : GoodTI Try.prog 12 (tiOf Try.t12 Try.t12) := goodTI (by kernel_rfl) (by kernel_rfl) (by kernel_rfl)
theorem good13 : GoodTI Try.prog 13 (tiOf Try.t13 Try.t13) := goodTI (by kernel_rfl) (by kernel_rfl) (by kernel_rfl)
theorem good97 : GoodTI Try.prog 97 (tiOf Try.t97 Try.t33) := goodTI (by kernel_rfl) (by kernel_rfl) (by kernel_rfl)
theorem good106 : GoodTI Try.prog 106 (tiOf Try.t106 Try.t106) := goodTI (by kernel_rfl) (by kernel_rfl) (by kernel_rfl)
theorem good34 : GoodTI Try.prog 34 (tiOf Try.t34 Try.t34) := goodTI (by kernel_rfl) (by kernel_rfl) (by kernel_rfl)
theorem good57 : GoodTI Try.prog 57 (tiOf Try.t57 Try.t57) := goodTI (by kernel_rfl) (by kernel_rfl) (by kernel_rfl)
theorem good36 : GoodTI Try.prog 36 (tiOf Try.t36 Try.t36) := goodTI (by kernel_rfl) (by kernel_rfl) (by kernel_rfl)
theorem good46 : GoodTI Try.prog 46 (tiOf Try.t46 Try.t46) := goodTI (by kernel_rfl) (by kernel_rfl) (by kernel_rfl)
theorem good56 : GoodTI Try.prog 56 (tiOf Try.t56 Try.t56) := goodTI (by kernel_rfl) (by kernel_rfl) (by kernel_rfl)
theorem good39 : GoodTI Try.prog 39 (tiOf Try.t39 Try.t39) := goodTI (by kernel_rfl) (by kernel_rfl) (by kernel_rfl)
theorem good49 : GoodTI Try.prog 49 (tiOf Try.t49 Try.t49) := goodTI (by kernel_rfl) (by kernel_rfl) (by kernel_rfl)
theorem good84 : GoodTI Try.prog 84 (tiOf Try.t84 Try.t84) := goodTI (by kernel_rfl) (by kernel_rfl) (by kernel_rfl)
theorem good114 : GoodTI Try.prog 114 (tiOf Try.t114 Try.t114) := goodTI (by kernel_rfl) (by kernel_rfl) (by kernel_rfl)
theorem good15 : GoodTI Try.prog 15 (tiOf Try.t15 Try.t15) := goodTI (by kernel_rfl) (by kernel_rfl) (by kernel_rfl)
theorem good71 : GoodTI Try.prog 71 (tiOf Try.t71 Try.t71) := goodTI (by kernel_rfl) (by kernel_rfl) (by kernel_rfl)
theorem good47 : GoodTI Try.prog 47 (tiOf Try.t47 Try.t47) := goodTI (by kernel_rfl) (by kernel_rfl) (by kernel_rfl)
theorem good48 : GoodTI Try.prog 48 (tiOf Try.t48 Try.t48) := goodTI (by kernel_rfl) (by kernel_rfl) (by kernel_rfl)
theorem good53 : GoodTI Try.prog 53 (tiOf Try.t53 Try.t53) := goodTI (by kernel_rfl) (by kernel_rfl) (by kernel_rfl)
theorem good86 : GoodTI Try.prog 86 (tiOf Try.t86 Try.t84) := goodTI (by kernel_rfl) (by kernel_rfl) (by kernel_rfl)
theorem good31 : GoodTI Try.prog 31 (tiOf Try.t31 Try.t31) := goodTI (by kernel_rfl) (by kernel_rfl) (by kernel_rfl)
theorem good40 : GoodTI Try.prog 40 (tiOf Try.t40 Try.t40) := goodTI (by kernel_rfl) (by kernel_rfl) (by kernel_rfl)
theorem good52 : GoodTI Try.prog 52 (tiOf Try.t52 Try.t52) := goodTI (by kernel_rfl) (by kernel_rfl) (by kernel_rfl)
theorem good54 : GoodTI Try.prog 54 (tiOf Try.t54 Try.t54) := goodTI (by kernel_rfl) (by kernel_rfl) (by kernel_rfl)
theorem good98 : GoodTI Try.prog 98 (tiOf Try.t98 Try.t98) := goodTI (by kernel_rfl) (by kernel_rfl) (by kernel_rfl)
theorem good20 : GoodTI Try.prog 20 (tiOf Try.t20 Try.t20) := goodTI (by kernel_rfl) (by kernel_rfl) (by kernel_rfl)
theorem good64 : GoodTI Try.prog 64 (tiOf Try.t64 Try.t64) := goodTI (by kernel_rfl) (by kernel_rfl) (by kernel_rfl)
theorem good68 : GoodTI Try.prog 68 (tiOf Try.t68 Try.t68) := goodTI (by kernel_rfl) (by kernel_rfl) (by kernel_rfl)
theorem good74 : GoodTI Try.prog 74 (tiOf Try.t74 Try.t74) := goodTI (by kernel_rfl) (by kernel_rfl) (by kernel_rfl)
theorem good26 : GoodTI Try.prog 26 (tiOf Try.t26 Try.t26) := goodTI (by kernel_rfl) (by kernel_rfl) (by kernel_rfl)
theorem good50 : GoodTI Try.prog 50 (tiOf Try.t50 Try.t50) := goodTI (by kernel_rfl) (by kernel_rfl) (by kernel_rfl)
theorem good82 : GoodTI Try.prog 82 (tiOf Try.t82 Try.t82) := goodTI (by kernel_rfl) (by kernel_rfl) (by kernel_rfl)
theorem good93 : GoodTI Try.prog 93 (tiOf Try.t93 Try.t93) := goodTI (by kernel_rfl) (by kernel_rfl) (by kernel_rfl)
theorem good95 : GoodTI Try.prog 95 (tiOf Try.t95 Try.t95) := goodTI (by kernel_rfl) (by kernel_rfl) (by kernel_rfl)
theorem good16 : GoodTI Try.prog 16 (tiOf Try.t16 Try.t16) := goodTI (by kernel_rfl) (by kernel_rfl) (by kernel_rfl)
theorem good41 : GoodTI Try.prog 41 (tiOf Try.t41 Try.t41) := goodTI (by kernel_rfl) (by kernel_rfl) (by kernel_rfl)
theorem good62 : GoodTI Try.prog 62 (tiOf Try.t62 Try.t62) := goodTI (by kernel_rfl) (by kernel_rfl) (by kernel_rfl)
theorem good72 : GoodTI Try.prog 72 (tiOf Try.t72 Try.t72) := goodTI (by kernel_rfl) (by kernel_rfl) (by kernel_rfl)
theorem good79 : GoodTI Try.prog 79 (tiOf Try.t79 Try.t79) := goodTI (by kernel_rfl) (by kernel_rfl) (by kernel_rfl)
theorem good102 : GoodTI Try.prog 102 (tiOf Try.t102 Try.t102) := goodTI (by kernel_rfl) (by kernel_rfl) (by kernel_rfl)
theorem good109 : GoodTI Try.prog 109 (tiOf Try.t109 Try.t109) := goodTI (by kernel_rfl) (by kernel_rfl) (by kernel_rfl)
theorem good118 : GoodTI Try.prog 118 (tiOf Try.t118 Try.t118) := goodTI (by kernel_rfl) (by kernel_rfl) (by kernel_rfl)
theorem good18 : GoodTI Try.prog 18 (tiOf Try.t18 Try.t18) := goodTI (by kernel_rfl) (by kernel_rfl) (by kernel_rfl)
theorem good44 : GoodTI Try.prog 44 (tiOf Try.t44 Try.t44) := goodTI (by kernel_rfl) (by kernel_rfl) (by kernel_rfl)
theorem good66 : GoodTI Try.prog 66 (tiOf Try.t66 Try.t66) := goodTI (by kernel_rfl) (by kernel_rfl) (by kernel_rfl)
theorem good73 : GoodTI Try.prog 73 (tiOf Try.t73 Try.t73) := goodTI (by kernel_rfl) (by kernel_rfl) (by kernel_rfl)
theorem good89 : GoodTI Try.prog 89 (tiOf Try.t89 Try.t89) := goodTI (by kernel_rfl) (by kernel_rfl) (by kernel_rfl)
theorem good100 : GoodTI Try.prog 100 (tiOf Try.t100 Try.t100) := goodTI (by kernel_rfl) (by kernel_rfl) (by kernel_rfl)
theorem good103 : GoodTI Try.prog 103 (tiOf Try.t103 Try.t103) := goodTI (by kernel_rfl) (by kernel_rfl) (by kernel_rfl)
theorem good107 : GoodTI Try.prog 107 (tiOf Try.t107 Try.t107) := goodTI (by kernel_rfl) (by kernel_rfl) (by kernel_rfl)
theorem good121 : GoodTI Try.prog 121 (tiOf Try.t121 Try.t121) := goodTI (by kernel_rfl) (by kernel_rfl) (by kernel_rfl)
theorem good30 : GoodTI Try.prog 30 (tiOf Try.t30 Try.t30) := goodTI (by kernel_rfl) (by kernel_rfl) (by kernel_rfl)
theorem good51 : GoodTI Try.prog 51 (tiOf Try.t51 Try.t51) := goodTI (by kernel_rfl) (by kernel_rfl) (by kernel_rfl)
theorem good63 : GoodTI Try.prog 63 (tiOf Try.t63 Try.t63) := goodTI (by kernel_rfl) (by kernel_rfl) (by kernel_rfl)
theorem good80 : GoodTI Try.prog 80 (tiOf Try.t80 Try.t80) := goodTI (by kernel_rfl) (by kernel_rfl) (by kernel_rfl)
theorem good29 : GoodTI Try.prog 29 (tiOf Try.t29 Try.t29) := goodTI (by kernel_rfl) (by kernel_rfl) (by kernel_rfl)
theorem good58 : GoodTI Try.prog 58 (tiOf Try.t58 Try.t58) := goodTI (by kernel_rfl) (by kernel_rfl) (by kernel_rfl)
theorem good65 : GoodTI Try.prog 65 (tiOf Try.t65 Try.t65) := goodTI (by kernel_rfl) (by kernel_rfl) (by kernel_rfl)
theorem good67 : GoodTI Try.prog 67 (tiOf Try.t67 Try.t67) := goodTI (by kernel_rfl) (by kernel_rfl) (by kernel_rfl)
theorem good69 : GoodTI Try.prog 69 (tiOf Try.t69 Try.t69) := goodTI (by kernel_rfl) (by kernel_rfl) (by kernel_rfl)
theorem good70 : GoodTI Try.prog 70 (tiOf Try.t70 Try.t70) := goodTI (by kernel_rfl) (by kernel_rfl) (by kernel_rfl)
theorem good78 : GoodTI Try.prog 78 (tiOf Try.t78 Try.t78) := goodTI (by kernel_rfl) (by kernel_rfl) (by kernel_rfl)
theorem good83 : GoodTI Try.prog 83 (tiOf Try.t83 Try.t83) := goodTI (by kernel_rfl) (by kernel_rfl) (by kernel_rfl)
theorem good92 : GoodTI Try.prog 92 (tiOf Try.t92 Try.t92) := goodTI (by kernel_rfl) (by kernel_rfl) (by kernel_rfl)
theorem good123 : GoodTI Try.prog 123 (tiOf Try.t123 Try.t123) := goodTI (by kernel_rfl) (by kernel_rfl) (by kernel_rfl)
theorem good76 : GoodTI Try.prog 76 (tiOf Try.t76 Try.t76) := goodTI (by kernel_rfl) (by kernel_rfl) (by kernel_rfl)
theorem good77 : GoodTI Try.prog 77 (tiOf Try.t77 Try.t77) := goodTI (by kernel_rfl) (by kernel_rfl) (by kernel_rfl)
theorem good85 : GoodTI Try.prog 85 (tiOf Try.t85 Try.t85) := goodTI (by kernel_rfl) (by kernel_rfl) (by kernel_rfl)
theorem good90 : GoodTI Try.prog 90 (tiOf Try.t90 Try.t90) := goodTI (by kernel_rfl) (by kernel_rfl) (by kernel_rfl)
theorem good94 : GoodTI Try.prog 94 (tiOf Try.t94 Try.t94) := goodTI (by kernel_rfl) (by kernel_rfl) (by kernel_rfl)
theorem good96 : GoodTI Try.prog 96 (tiOf Try.t96 Try.t96) := goodTI (by kernel_rfl) (by kernel_rfl) (by kernel_rfl)
theorem good99 : GoodTI Try.prog 99 (tiOf Try.t99 Try.t99) := goodTI (by kernel_rfl) (by kernel_rfl) (by kernel_rfl)
theorem good111 : GoodTI Try.prog 111 (tiOf Try.t111 Try.t110) := goodTI (by kernel_rfl) (by kernel_rfl) (by kernel_rfl)
theorem good113 : GoodTI Try.prog 113 (tiOf Try.t113 Try.t113) := goodTI (by kernel_rfl) (by kernel_rfl) (by kernel_rfl)
theorem good120 : GoodTI Try.prog 120 (tiOf Try.t120 Try.t120) := goodTI (by kernel_rfl) (by kernel_rfl) (by kernel_rfl)
theorem good125 : GoodTI Try.prog 125 (tiOf Try.t125 Try.t125) := goodTI (by kernel_rfl) (by kernel_rfl) (by kernel_rfl)
theorem good21 : GoodTI Try.prog 21 (tiOf Try.t21 Try.t21) := goodTI (by kernel_rfl) (by kernel_rfl) (by kernel_rfl)
theorem good61 : GoodTI Try.prog 61 (tiOf Try.t61 Try.t61) := goodTI (by kernel_rfl) (by kernel_rfl) (by kernel_rfl)
theorem good75 : GoodTI Try.prog 75 (tiOf Try.t75 Try.t75) := goodTI (by kernel_rfl) (by kernel_rfl) (by kernel_rfl)
theorem good88 : GoodTI Try.prog 88 (tiOf Try.t88 Try.t88) := goodTI (by kernel_rfl) (by kernel_rfl) (by kernel_rfl)
theorem good91 : GoodTI Try.prog 91 (tiOf Try.t91 Try.t91) := goodTI (by kernel_rfl) (by kernel_rfl) (by kernel_rfl)
theorem good104 : GoodTI Try.prog 104 (tiOf Try.t104 Try.t104) := goodTI (by kernel_rfl) (by kernel_rfl) (by kernel_rfl)
theorem good112 : GoodTI Try.prog 112 (tiOf Try.t112 Try.t112) := goodTI (by kernel_rfl) (by kernel_rfl) (by kernel_rfl)
theorem good115 : GoodTI Try.prog 115 (tiOf Try.t115 Try.t115) := goodTI (by kernel_rfl) (by kernel_rfl) (by kernel_rfl)
theorem good119 : GoodTI Try.prog 119 (tiOf Try.t119 Try.t119) := goodTI (by kernel_rfl) (by kernel_rfl) (by kernel_rfl)
theorem good122 : GoodTI Try.prog 122 (tiOf Try.t122 Try.t122) := goodTI (by kernel_rfl) (by kernel_rfl) (by kernel_rfl)
theorem good124 : GoodTI Try.prog 124 (tiOf Try.t124 Try.t124) := goodTI (by kernel_rfl) (by kernel_rfl) (by kernel_rfl)
theorem good23 : GoodTI Try.prog 23 (tiOf Try.t23 Try.t23) := goodTI (by kernel_rfl) (by kernel_rfl) (by kernel_rfl)
theorem good87 : GoodTI Try.prog 87 (tiOf Try.t87 Try.t87) := goodTI (by kernel_rfl) (by kernel_rfl) (by kernel_rfl)
theorem good110 : GoodTI Try.prog 110 (tiOf Try.t110 Try.t110) := goodTI (by kernel_rfl) (by kernel_rfl) (by kernel_rfl)
theorem good116 : GoodTI Try.prog 116 (tiOf Try.t116 Try.t116) := goodTI (by kernel_rfl) (by kernel_rfl) (by kernel_rfl)
theorem good117 : GoodTI Try.prog 117 (tiOf Try.t117 Try.t117) := goodTI (by kernel_rfl) (by kernel_rfl) (by kernel_rfl)
theorem good17 : GoodTI Try.prog 17 (tiOf Try.t17 Try.t17) := goodTI (by kernel_rfl) (by kernel_rfl) (by kernel_rfl)
theorem good131 : GoodTI Try.prog 131 (tiOf Try.t131 Try.t131) := goodTI (by kernel_rfl) (by kernel_rfl) (by kernel_rfl)
theorem good132 : GoodTI Try.prog 132 (tiOf Try.t132 Try.t132) := goodTI (by kernel_rfl) (by kernel_rfl) (by kernel_rfl)
theorem good135 : GoodTI Try.prog 135 (tiOf Try.t135 Try.t135) := goodTI (by kernel_rfl) (by kernel_rfl) (by kernel_rfl)
theorem good59 : GoodTI Try.prog 59 (tiOf Try.t59 Try.t59) := goodTI (by kernel_rfl) (by kernel_rfl) (by kernel_rfl)
theorem good126 : GoodTI Try.prog 126 (tiOf Try.t126 Try.t126) := goodTI (by kernel_rfl) (by kernel_rfl) (by kernel_rfl)
theorem good128 : GoodTI Try.prog 128 (tiOf Try.t128 Try.t128) := goodTI (by kernel_rfl) (by kernel_rfl) (by kernel_rfl)
theorem good129 : GoodTI Try.prog 129 (tiOf Try.t129 Try.t129) := goodTI (by kernel_rfl) (by kernel_rfl) (by kernel_rfl)
theorem good138 : GoodTI Try.prog 138 (tiOf Try.t138 Try.t138) := goodTI (by kernel_rfl) (by kernel_rfl) (by kernel_rfl)
theorem tbl_ok : AllT Try.prog tbl := ⟨good1, good3, good4, good27, good2, good9, good24, good5, good35, good43, good45, good7, good60, good25, good42, good28, good55, good22, good101, good37, good32, good81, good105, good38, good33, good108, good12, good13, good97, good106, good34, good57, good36, good46, good56, good39, good49, good84, good114, good15, good71, good47, good48, good53, good86, good31, good40, good52, good54, good98, good20, good64, good68, good74, good26, good50, good82, good93, good95, good16, good41, good62, good72, good79, good102, good109, good118, good18, good44, good66, good73, good89, good100, good103, good107, good121, good30, good51, good63, good80, good29, good58, good65, good67, good69, good70, good78, good83, good92, good123, good76, good77, good85, good90, good94, good96, good99, good111, good113, good120, good125, good21, good61, good75, good88, good91, good104, good112, good115, good119, good122, good124, good23, good87, good110, good116, good117, good17, good131, good132, good135, good59, good126, good128, good129, good138, trivial⟩
def fieldsIn (P : Program) (d : TypeDesc) : Bool := match d with | .struct fs => fs.toList.all fun f => (P.info? f.type).isSome | _ => true
def AllF (P : Program) : List (Nat × TI) → Bool
  | [] => true
  | (_, i) :: r => fieldsIn P i.u && AllF P r
theorem getT_mem : ∀ {l : List (Nat × TI)} {P : Program}, AllF P l = true → ∀ t i, getT l t = some i → fieldsIn P i.u = true
  | [], _, _, t, i, h => by cases h
  | (k, x) :: r, P, hl, t, i, h => by
    simp only [AllF, Bool.and_eq_true] at hl
    simp only [getT] at h
    cases hb : Nat.beq k t with
    | true => simp only [hb, cond_true, Option.some.injEq] at h; subst h; exact hl.1
    | false => simp only [hb, cond_false] at h; exact getT_mem hl.2 t i h
theorem fields_ok {P : Program} {d : TypeDesc} (h : fieldsIn P d = true) : ∀ fs, d = .struct fs → ∀ f ∈ fs.toList, ∃ j, P.info? f.type = some j := by
  intro fs hd f hf
  subst hd
  have := List.all_eq_true.1 h f hf
  exact Option.isSome_iff_exists.1 this
noncomputable def tab : Tab Try.prog := ⟨getT tbl, getT_ok tbl_ok, fun t i h => fields_ok (getT_mem (by kernel_rfl) t i h)⟩
theorem mixed : Try.prog.follows .mixedOrders = true := by kernel_rfl
theorem goes3 : Goes Try.prog 3 := Goes.mk' Try.func3 (by kernel_rfl) (by kernel_rfl)
theorem goes4 : Goes Try.prog 4 := Goes.mk' Try.func4 (by kernel_rfl) (by kernel_rfl)
theorem goes5 : Goes Try.prog 5 := Goes.mk' Try.func5 (by kernel_rfl) (by kernel_rfl)
theorem goes6 : Goes Try.prog 6 := Goes.mk' Try.func6 (by kernel_rfl) (by kernel_rfl)
theorem goes7 : Goes Try.prog 7 := Goes.mk' Try.func7 (by kernel_rfl) (by kernel_rfl)
theorem goes8 : Goes Try.prog 8 := Goes.mk' Try.func8 (by kernel_rfl) (by kernel_rfl)
theorem goes9 : Goes Try.prog 9 := Goes.mk' Try.func9 (by kernel_rfl) (by kernel_rfl)
theorem goes10 : Goes Try.prog 10 := Goes.mk' Try.func10 (by kernel_rfl) (by kernel_rfl)
theorem goes11 : Goes Try.prog 11 := Goes.mk' Try.func11 (by kernel_rfl) (by kernel_rfl)
theorem goes12 : Goes Try.prog 12 := Goes.mk' Try.func12 (by kernel_rfl) (by kernel_rfl)
theorem goes13 : Goes Try.prog 13 := Goes.mk' Try.func13 (by kernel_rfl) (by kernel_rfl)
theorem goes14 : Goes Try.prog 14 := Goes.mk' Try.func14 (by kernel_rfl) (by kernel_rfl)
theorem goes15 : Goes Try.prog 15 := Goes.mk' Try.func15 (by kernel_rfl) (by kernel_rfl)
theorem goes16 : Goes Try.prog 16 := Goes.mk' Try.func16 (by kernel_rfl) (by kernel_rfl)
theorem goes17 : Goes Try.prog 17 := Goes.mk' Try.func17 (by kernel_rfl) (by kernel_rfl)
theorem goes18 : Goes Try.prog 18 := Goes.mk' Try.func18 (by kernel_rfl) (by kernel_rfl)
theorem goes19 : Goes Try.prog 19 := Goes.mk' Try.func19 (by kernel_rfl) (by kernel_rfl)
theorem goes20 : Goes Try.prog 20 := Goes.mk' Try.func20 (by kernel_rfl) (by kernel_rfl)
theorem goes21 : Goes Try.prog 21 := Goes.mk' Try.func21 (by kernel_rfl) (by kernel_rfl)
theorem goes22 : Goes Try.prog 22 := Goes.mk' Try.func22 (by kernel_rfl) (by kernel_rfl)
theorem goes23 : Goes Try.prog 23 := Goes.mk' Try.func23 (by kernel_rfl) (by kernel_rfl)
theorem goes24 : Goes Try.prog 24 := Goes.mk' Try.func24 (by kernel_rfl) (by kernel_rfl)
theorem goes25 : Goes Try.prog 25 := Goes.mk' Try.func25 (by kernel_rfl) (by kernel_rfl)
theorem goes26 : Goes Try.prog 26 := Goes.mk' Try.func26 (by kernel_rfl) (by kernel_rfl)
theorem goes27 : Goes Try.prog 27 := Goes.mk' Try.func27 (by kernel_rfl) (by kernel_rfl)
theorem goes28 : Goes Try.prog 28 := Goes.mk' Try.func28 (by kernel_rfl) (by kernel_rfl)
theorem goes29 : Goes Try.prog 29 := Goes.mk' Try.func29 (by kernel_rfl) (by kernel_rfl)
theorem goes30 : Goes Try.prog 30 := Goes.mk' Try.func30 (by kernel_rfl) (by kernel_rfl)
theorem goes31 : Goes Try.prog 31 := Goes.mk' Try.func31 (by kernel_rfl) (by kernel_rfl)
theorem goes32 : Goes Try.prog 32 := Goes.mk' Try.func32 (by kernel_rfl) (by kernel_rfl)
theorem goes33 : Goes Try.prog 33 := Goes.mk' Try.func33 (by kernel_rfl) (by kernel_rfl)
theorem goes34 : Goes Try.prog 34 := Goes.mk' Try.func34 (by kernel_rfl) (by kernel_rfl)
theorem goes35 : Goes Try.prog 35 := Goes.mk' Try.func35 (by kernel_rfl) (by kernel_rfl)
theorem goes36 : Goes Try.prog 36 := Goes.mk' Try.func36 (by kernel_rfl) (by kernel_rfl)
theorem goes37 : Goes Try.prog 37 := Goes.mk' Try.func37 (by kernel_rfl) (by kernel_rfl)
theorem goes38 : Goes Try.prog 38 := Goes.mk' Try.func38 (by kernel_rfl) (by kernel_rfl)
theorem goes39 : Goes Try.prog 39 := Goes.mk' Try.func39 (by kernel_rfl) (by kernel_rfl)
theorem goes40 : Goes Try.prog 40 := Goes.mk' Try.func40 (by kernel_rfl) (by kernel_rfl)
theorem goes41 : Goes Try.prog 41 := Goes.mk' Try.func41 (by kernel_rfl) (by kernel_rfl)
theorem goes42 : Goes Try.prog 42 := Goes.mk' Try.func42 (by kernel_rfl) (by kernel_rfl)
theorem goes43 : Goes Try.prog 43 := Goes.mk' Try.func43 (by kernel_rfl) (by kernel_rfl)
theorem goes44 : Goes Try.prog 44 := Goes.mk' Try.func44 (by kernel_rfl) (by kernel_rfl)
theorem goes45 : Goes Try.prog 45 := Goes.mk' Try.func45 (by kernel_rfl) (by kernel_rfl)
theorem goes46 : Goes Try.prog 46 := Goes.mk' Try.func46 (by kernel_rfl) (by kernel_rfl)
theorem goes47 : Goes Try.prog 47 := Goes.mk' Try.func47 (by kernel_rfl) (by kernel_rfl)
theorem goes48 : Goes Try.prog 48 := Goes.mk' Try.func48 (by kernel_rfl) (by kernel_rfl)
theorem goes49 : Goes Try.prog 49 := Goes.mk' Try.func49 (by kernel_rfl) (by kernel_rfl)
theorem goes50 : Goes Try.prog 50 := Goes.mk' Try.func50 (by kernel_rfl) (by kernel_rfl)
theorem goes51 : Goes Try.prog 51 := Goes.mk' Try.func51 (by kernel_rfl) (by kernel_rfl)
theorem goes52 : Goes Try.prog 52 := Goes.mk' Try.func52 (by kernel_rfl) (by kernel_rfl)
theorem goes53 : Goes Try.prog 53 := Goes.mk' Try.func53 (by kernel_rfl) (by kernel_rfl)
theorem goes54 : Goes Try.prog 54 := Goes.mk' Try.func54 (by kernel_rfl) (by kernel_rfl)
theorem goes55 : Goes Try.prog 55 := Goes.mk' Try.func55 (by kernel_rfl) (by kernel_rfl)
theorem goes56 : Goes Try.prog 56 := Goes.mk' Try.func56 (by kernel_rfl) (by kernel_rfl)
theorem goes57 : Goes Try.prog 57 := Goes.mk' Try.func57 (by kernel_rfl) (by kernel_rfl)
theorem goes58 : Goes Try.prog 58 := Goes.mk' Try.func58 (by kernel_rfl) (by kernel_rfl)
theorem goes59 : Goes Try.prog 59 := Goes.mk' Try.func59 (by kernel_rfl) (by kernel_rfl)
theorem goes60 : Goes Try.prog 60 := Goes.mk' Try.func60 (by kernel_rfl) (by kernel_rfl)
theorem goes61 : Goes Try.prog 61 := Goes.mk' Try.func61 (by kernel_rfl) (by kernel_rfl)
theorem goes62 : Goes Try.prog 62 := Goes.mk' Try.func62 (by kernel_rfl) (by kernel_rfl)
theorem goes63 : Goes Try.prog 63 := Goes.mk' Try.func63 (by kernel_rfl) (by kernel_rfl)
theorem goes64 : Goes Try.prog 64 := Goes.mk' Try.func64 (by kernel_rfl) (by kernel_rfl)
theorem goes65 : Goes Try.prog 65 := Goes.mk' Try.func65 (by kernel_rfl) (by kernel_rfl)
theorem goes66 : Goes Try.prog 66 := Goes.mk' Try.func66 (by kernel_rfl) (by kernel_rfl)
theorem goes67 : Goes Try.prog 67 := Goes.mk' Try.func67 (by kernel_rfl) (by kernel_rfl)
theorem goes68 : Goes Try.prog 68 := Goes.mk' Try.func68 (by kernel_rfl) (by kernel_rfl)
theorem goes69 : Goes Try.prog 69 := Goes.mk' Try.func69 (by kernel_rfl) (by kernel_rfl)
theorem goes70 : Goes Try.prog 70 := Goes.mk' Try.func70 (by kernel_rfl) (by kernel_rfl)
theorem goes71 : Goes Try.prog 71 := Goes.mk' Try.func71 (by kernel_rfl) (by kernel_rfl)
theorem goes72 : Goes Try.prog 72 := Goes.mk' Try.func72 (by kernel_rfl) (by kernel_rfl)
theorem goes73 : Goes Try.prog 73 := Goes.mk' Try.func73 (by kernel_rfl) (by kernel_rfl)
theorem goes74 : Goes Try.prog 74 := Goes.mk' Try.func74 (by kernel_rfl) (by kernel_rfl)
theorem goes75 : Goes Try.prog 75 := Goes.mk' Try.func75 (by kernel_rfl) (by kernel_rfl)
theorem goes76 : Goes Try.prog 76 := Goes.mk' Try.func76 (by kernel_rfl) (by kernel_rfl)
theorem goes77 : Goes Try.prog 77 := Goes.mk' Try.func77 (by kernel_rfl) (by kernel_rfl)
theorem goes78 : Goes Try.prog 78 := Goes.mk' Try.func78 (by kernel_rfl) (by kernel_rfl)
theorem goes79 : Goes Try.prog 79 := Goes.mk' Try.func79 (by kernel_rfl) (by kernel_rfl)
theorem goes80 : Goes Try.prog 80 := Goes.mk' Try.func80 (by kernel_rfl) (by kernel_rfl)
theorem goes81 : Goes Try.prog 81 := Goes.mk' Try.func81 (by kernel_rfl) (by kernel_rfl)
theorem goes82 : Goes Try.prog 82 := Goes.mk' Try.func82 (by kernel_rfl) (by kernel_rfl)
theorem goes83 : Goes Try.prog 83 := Goes.mk' Try.func83 (by kernel_rfl) (by kernel_rfl)
theorem goes84 : Goes Try.prog 84 := Goes.mk' Try.func84 (by kernel_rfl) (by kernel_rfl)
theorem goes85 : Goes Try.prog 85 := Goes.mk' Try.func85 (by kernel_rfl) (by kernel_rfl)
theorem goes86 : Goes Try.prog 86 := Goes.mk' Try.func86 (by kernel_rfl) (by kernel_rfl)
theorem goes87 : Goes Try.prog 87 := Goes.mk' Try.func87 (by kernel_rfl) (by kernel_rfl)
theorem goes88 : Goes Try.prog 88 := Goes.mk' Try.func88 (by kernel_rfl) (by kernel_rfl)
theorem goes89 : Goes Try.prog 89 := Goes.mk' Try.func89 (by kernel_rfl) (by kernel_rfl)
theorem goes90 : Goes Try.prog 90 := Goes.mk' Try.func90 (by kernel_rfl) (by kernel_rfl)
theorem goes91 : Goes Try.prog 91 := Goes.mk' Try.func91 (by kernel_rfl) (by kernel_rfl)
theorem goes92 : Goes Try.prog 92 := Goes.mk' Try.func92 (by kernel_rfl) (by kernel_rfl)
theorem goes93 : Goes Try.prog 93 := Goes.mk' Try.func93 (by kernel_rfl) (by kernel_rfl)
theorem goes94 : Goes Try.prog 94 := Goes.mk' Try.func94 (by kernel_rfl) (by kernel_rfl)
theorem goes95 : Goes Try.prog 95 := Goes.mk' Try.func95 (by kernel_rfl) (by kernel_rfl)
theorem goes96 : Goes Try.prog 96 := Goes.mk' Try.func96 (by kernel_rfl) (by kernel_rfl)
theorem goes97 : Goes Try.prog 97 := Goes.mk' Try.func97 (by kernel_rfl) (by kernel_rfl)
theorem goes98 : Goes Try.prog 98 := Goes.mk' Try.func98 (by kernel_rfl) (by kernel_rfl)
theorem goes99 : Goes Try.prog 99 := Goes.mk' Try.func99 (by kernel_rfl) (by kernel_rfl)
theorem goes100 : Goes Try.prog 100 := Goes.mk' Try.func100 (by kernel_rfl) (by kernel_rfl)
theorem goes101 : Goes Try.prog 101 := Goes.mk' Try.func101 (by kernel_rfl) (by kernel_rfl)
theorem goes102 : Goes Try.prog 102 := Goes.mk' Try.func102 (by kernel_rfl) (by kernel_rfl)
theorem goes103 : Goes Try.prog 103 := Goes.mk' Try.func103 (by kernel_rfl) (by kernel_rfl)
theorem goes104 : Goes Try.prog 104 := Goes.mk' Try.func104 (by kernel_rfl) (by kernel_rfl)
theorem goes105 : Goes Try.prog 105 := Goes.mk' Try.func105 (by kernel_rfl) (by kernel_rfl)
theorem goes106 : Goes Try.prog 106 := Goes.mk' Try.func106 (by kernel_rfl) (by kernel_rfl)
theorem goes107 : Goes Try.prog 107 := Goes.mk' Try.func107 (by kernel_rfl) (by kernel_rfl)
theorem goes108 : Goes Try.prog 108 := Goes.mk' Try.func108 (by kernel_rfl) (by kernel_rfl)
theorem goes109 : Goes Try.prog 109 := Goes.mk' Try.func109 (by kernel_rfl) (by kernel_rfl)
theorem goes110 : Goes Try.prog 110 := Goes.mk' Try.func110 (by kernel_rfl) (by kernel_rfl)
theorem goes111 : Goes Try.prog 111 := Goes.mk' Try.func111 (by kernel_rfl) (by kernel_rfl)
theorem goes112 : Goes Try.prog 112 := Goes.mk' Try.func112 (by kernel_rfl) (by kernel_rfl)
theorem goes113 : Goes Try.prog 113 := Goes.mk' Try.func113 (by kernel_rfl) (by kernel_rfl)
theorem goes114 : Goes Try.prog 114 := Goes.mk' Try.func114 (by kernel_rfl) (by kernel_rfl)
theorem goes115 : Goes Try.prog 115 := Goes.mk' Try.func115 (by kernel_rfl) (by kernel_rfl)
theorem goes116 : Goes Try.prog 116 := Goes.mk' Try.func116 (by kernel_rfl) (by kernel_rfl)
theorem goes117 : Goes Try.prog 117 := Goes.mk' Try.func117 (by kernel_rfl) (by kernel_rfl)
theorem goes118 : Goes Try.prog 118 := Goes.mk' Try.func118 (by kernel_rfl) (by kernel_rfl)
theorem goes119 : Goes Try.prog 119 := Goes.mk' Try.func119 (by kernel_rfl) (by kernel_rfl)
theorem goes120 : Goes Try.prog 120 := Goes.mk' Try.func120 (by kernel_rfl) (by kernel_rfl)
theorem goes121 : Goes Try.prog 121 := Goes.mk' Try.func121 (by kernel_rfl) (by kernel_rfl)
theorem goes122 : Goes Try.prog 122 := Goes.mk' Try.func122 (by kernel_rfl) (by kernel_rfl)
theorem goes123 : Goes Try.prog 123 := Goes.mk' Try.func123 (by kernel_rfl) (by kernel_rfl)
end Go.Sep
