/-
  The table of the types, and which functions are entered. Written by program (gentab.py).
-/
import Derived.Test.YtnbimbgapgginaaProg
import Derived.KernelRfl
import Derived.Test.YtnbimbgapgginaaB1
set_option linter.unusedVariables false
namespace Go.Sep
open Go.Proofs
noncomputable def tiOf (i d : TypeInfo) : TI := ⟨d.desc, i.size, i.bytes, match i.zero with | some z => z | none => undef⟩
def GoodTI (P : Program) (t : TypeId) (i : TI) : Prop := ∃ info, P.info? t = some info ∧ P.underlying t = some i.u ∧ info.size = i.size ∧ info.bytes = i.bytes ∧ info.zero = some i.zero
theorem goodTI {P : Program} {t : TypeId} {i d : TypeInfo} (h1 : P.info? t = some i) (h2 : P.underlying t = some d.desc) (h3 : i.zero.isSome = true) : GoodTI P t (tiOf i d) := by
  refine ⟨i, h1, h2, rfl, rfl, ?_⟩
  cases hz : i.zero with
  | none => rw [hz] at h3; cases h3
  | some z => simp [tiOf, hz]
def getT : List (Nat × TI) → Nat → Option TI
  | [], _ => none
  | (k, i) :: r, t => bif Nat.beq k t then some i else getT r t
def AllT (P : Program) : List (Nat × TI) → Prop
  | [] => True
  | (k, i) :: r => GoodTI P k i ∧ AllT P r
theorem getT_ok {P : Program} : ∀ {l : List (Nat × TI)}, AllT P l → ∀ t i, getT l t = some i → GoodTI P t i
  | [], _, t, i, h => by cases h
  | (k, x) :: r, hl, t, i, h => by
    simp only [getT] at h
    cases hb : Nat.beq k t with
    | true =>
      have : k = t := Nat.eq_of_beq_eq_true hb
      subst this
      simp only [hb, cond_true, Option.some.injEq] at h
      subst h
      exact hl.1
    | false => simp only [hb, cond_false] at h; exact getT_ok hl.2 t i h
noncomputable def tbl : List (Nat × TI) := [(1, tiOf Try.t1 Try.t1),
  (3, tiOf Try.t3 Try.t3),
  (4, tiOf Try.t4 Try.t4),
  (2, tiOf Try.t2 Try.t2),
  (27, tiOf Try.t27 Try.t27),
  (26, tiOf Try.t26 Try.t25),
  (39, tiOf Try.t39 Try.t38),
  (28, tiOf Try.t28 Try.t3),
  (5, tiOf Try.t5 Try.t5),
  (9, tiOf Try.t9 Try.t9),
  (7, tiOf Try.t7 Try.t7),
  (59, tiOf Try.t59 Try.t59),
  (44, tiOf Try.t44 Try.t43),
  (42, tiOf Try.t42 Try.t42),
  (52, tiOf Try.t52 Try.t51),
  (71, tiOf Try.t71 Try.t71),
  (50, tiOf Try.t50 Try.t49),
  (74, tiOf Try.t74 Try.t73),
  (63, tiOf Try.t63 Try.t62),
  (40, tiOf Try.t40 Try.t40),
  (24, tiOf Try.t24 Try.t24),
  (12, tiOf Try.t12 Try.t12),
  (13, tiOf Try.t13 Try.t13),
  (36, tiOf Try.t36 Try.t36),
  (15, tiOf Try.t15 Try.t15),
  (23, tiOf Try.t23 Try.t23),
  (16, tiOf Try.t16 Try.t16),
  (17, tiOf Try.t17 Try.t17),
  (45, tiOf Try.t45 Try.t45),
  (29, tiOf Try.t29 Try.t29),
  (76, tiOf Try.t76 Try.t76),
  (46, tiOf Try.t46 Try.t46),
  (82, tiOf Try.t82 Try.t82),
  (20, tiOf Try.t20 Try.t20),
  (22, tiOf Try.t22 Try.t22),
  (34, tiOf Try.t34 Try.t34),
  (75, tiOf Try.t75 Try.t75),
  (31, tiOf Try.t31 Try.t31),
  (54, tiOf Try.t54 Try.t54),
  (100, tiOf Try.t100 Try.t100),
  (33, tiOf Try.t33 Try.t33),
  (55, tiOf Try.t55 Try.t55),
  (77, tiOf Try.t77 Try.t77),
  (35, tiOf Try.t35 Try.t35),
  (53, tiOf Try.t53 Try.t53),
  (58, tiOf Try.t58 Try.t58),
  (97, tiOf Try.t97 Try.t97),
  (32, tiOf Try.t32 Try.t32),
  (78, tiOf Try.t78 Try.t78),
  (18, tiOf Try.t18 Try.t18),
  (37, tiOf Try.t37 Try.t37),
  (70, tiOf Try.t70 Try.t70),
  (81, tiOf Try.t81 Try.t81),
  (88, tiOf Try.t88 Try.t88),
  (91, tiOf Try.t91 Try.t91),
  (96, tiOf Try.t96 Try.t96),
  (30, tiOf Try.t30 Try.t30),
  (60, tiOf Try.t60 Try.t60),
  (61, tiOf Try.t61 Try.t61),
  (65, tiOf Try.t65 Try.t65),
  (69, tiOf Try.t69 Try.t69),
  (95, tiOf Try.t95 Try.t95),
  (99, tiOf Try.t99 Try.t99),
  (43, tiOf Try.t43 Try.t43),
  (48, tiOf Try.t48 Try.t48),
  (56, tiOf Try.t56 Try.t56),
  (64, tiOf Try.t64 Try.t64),
  (66, tiOf Try.t66 Try.t66),
  (67, tiOf Try.t67 Try.t67),
  (68, tiOf Try.t68 Try.t68),
  (83, tiOf Try.t83 Try.t83),
  (85, tiOf Try.t85 Try.t85),
  (92, tiOf Try.t92 Try.t92),
  (94, tiOf Try.t94 Try.t94),
  (109, tiOf Try.t109 Try.t109),
  (21, tiOf Try.t21 Try.t21),
  (25, tiOf Try.t25 Try.t25),
  (41, tiOf Try.t41 Try.t41),
  (47, tiOf Try.t47 Try.t47),
  (57, tiOf Try.t57 Try.t57),
  (72, tiOf Try.t72 Try.t72),
  (80, tiOf Try.t80 Try.t80),
  (84, tiOf Try.t84 Try.t84),
  (87, tiOf Try.t87 Try.t87),
  (89, tiOf Try.t89 Try.t89),
  (90, tiOf Try.t90 Try.t90),
  (93, tiOf Try.t93 Try.t93),
  (98, tiOf Try.t98 Try.t98),
  (38, tiOf Try.t38 Try.t38),
  (49, tiOf Try.t49 Try.t49),
  (51, tiOf Try.t51 Try.t51),
  (73, tiOf Try.t73 Try.t73),
  (79, tiOf Try.t79 Try.t79),
  (86, tiOf Try.t86 Try.t86),
  (103, tiOf Try.t103 Try.t103),
  (104, tiOf Try.t104 Try.t104),
  (110, tiOf Try.t110 Try.t110),
  (62, tiOf Try.t62 Try.t62),
  (101, tiOf Try.t101 Try.t101),
  (106, tiOf Try.t106 Try.t106),
  (113, tiOf Try.t113 Try.t113),
  (115, tiOf Try.t115 Try.t115)]
theorem good1 : GoodTI Try.prog 1 (tiOf Try.t1 Try.t1) := goodTI (by kernel_rfl) (by kernel_rfl) (by kernel_rfl)
theorem good3 : GoodTI Try.prog 3 (tiOf Try.t3 Try.t3) := goodTI (by kernel_rfl) (by kernel_rfl) (by kernel_rfl)
theorem good4 : GoodTI Try.prog 4 (tiOf Try.t4 Try.t4) := goodTI (by kernel_rfl) (by kernel_rfl) (by kernel_rfl)
theorem good2 : GoodTI Try.prog 2 (tiOf Try.t2 Try.t2) := goodTI (by kernel_rfl) (by kernel_rfl) (by kernel_rfl)
theorem good27 : GoodTI Try.prog 27 (tiOf Try.t27 Try.t27) := goodTI (by kernel_rfl) (by kernel_rfl) (by kernel_rfl)
theorem good26 : GoodTI Try.prog 26 (tiOf Try.t26 Try.t25) := goodTI (by kernel_rfl) (by kernel_rfl) (by kernel_rfl)
theorem good39 : GoodTI Try.prog 39 (tiOf Try.t39 Try.t38) := goodTI (by kernel_rfl) (by kernel_rfl) (by kernel_rfl)
theorem good28 : GoodTI Try.prog 28 (tiOf Try.t28 Try.t3) := goodTI (by kernel_rfl) (by kernel_rfl) (by kernel_rfl)
theorem good5 : GoodTI Try.prog 5 (tiOf Try.t5 Try.t5) := goodTI (by kernel_rfl) (by kernel_rfl) (by kernel_rfl)
theorem good9 : GoodTI Try.prog 9 (tiOf Try.t9 Try.t9) := goodTI (by kernel_rfl) (by kernel_rfl) (by kernel_rfl)
theorem good7 : GoodTI Try.prog 7 (tiOf Try.t7 Try.t7) := goodTI (by kernel_rfl) (by kernel_rfl) (by kernel_rfl)
theorem good59 : GoodTI Try.prog 59 (tiOf Try.t59 Try.t59) := goodTI (by kernel_rfl) (by kernel_rfl) (by kernel_rfl)
theorem good44 : GoodTI Try.prog 44 (tiOf Try.t44 Try.t43) := goodTI (by kernel_rfl) (by kernel_rfl) (by kernel_rfl)
theorem good42 : GoodTI Try.prog 42 (tiOf Try.t42 Try.t42) := goodTI (by kernel_rfl) (by kernel_rfl) (by kernel_rfl)
theorem good52 : GoodTI Try.prog 52 (tiOf Try.t52 Try.t51) := goodTI (by kernel_rfl) (by kernel_rfl) (by kernel_rfl)
theorem good71 : GoodTI Try.prog 71 (tiOf Try.t71 Try.t71) := goodTI (by kernel_rfl) (by kernel_rfl) (by kernel_rfl)
theorem good50 : GoodTI Try.prog 50 (tiOf Try.t50 Try.t49) := goodTI (by kernel_rfl) (by kernel_rfl) (by kernel_rfl)
theorem good74 : GoodTI Try.prog 74 (tiOf Try.t74 Try.t73) := goodTI (by kernel_rfl) (by kernel_rfl) (by kernel_rfl)
theorem good63 : GoodTI Try.prog 63 (tiOf Try.t63 Try.t62) := goodTI (by kernel_rfl) (by kernel_rfl) (by kernel_rfl)
theorem good40 : GoodTI Try.prog 40 (tiOf Try.t40 Try.t40) := goodTI (by kernel_rfl) (by kernel_rfl) (by kernel_rfl)
theorem good24 : GoodTI Try.prog 24 (tiOf Try.t24 Try.t24) := goodTI (by kernel_rfl) (by kernel_rfl) (by kernel_rfl)
theorem good12 : GoodTI Try.prog 12 (tiOf Try.t12 Try.t12) := goodTI (by kernel_rfl) (by kernel_rfl) (by kernel_rfl)
theorem good13 : GoodTI Try.prog 13 (tiOf Try.t13 Try.t13) := goodTI (by kernel_rfl) (by kernel_rfl) (by kernel_rfl)
theorem good36 : GoodTI Try.prog 36 (tiOf Try.t36 Try.t36) := goodTI (by kernel_rfl) (by kernel_rfl) (by kernel_rfl)
theorem good15 : GoodTI Try.prog 15 (tiOf Try.t15 Try.t15) := goodTI (by kernel_rfl) (by kernel_rfl) (by kernel_rfl)
theorem good23 : GoodTI Try.prog 23 (tiOf Try.t23 Try.t23) := goodTI (by kernel_rfl) (by kernel_rfl) (by kernel_rfl)
theorem good16 : GoodTI Try.prog 16 (tiOf Try.t16 Try.t16) := goodTI (by kernel_rfl) (by kernel_rfl) (by kernel_rfl)
theorem good17 : GoodTI Try.prog 17 (tiOf Try.t17 Try.t17) := goodTI (by kernel_rfl) (by kernel_rfl) (by kernel_rfl)
theorem good45 : GoodTI Try.prog 45 (tiOf Try.t45 Try.t45) := goodTI (by kernel_rfl) (by kernel_rfl) (by kernel_rfl)
theorem good29 : GoodTI Try.prog 29 (tiOf Try.t29 Try.t29) := goodTI (by kernel_rfl) (by kernel_rfl) (by kernel_rfl)
theorem good76 : GoodTI Try.prog 76 (tiOf Try.t76 Try.t76) := goodTI (by kernel_rfl) (by kernel_rfl) (by kernel_rfl)
theorem good46 : GoodTI Try.prog 46 (tiOf Try.t46 Try.t46) := goodTI (by kernel_rfl) (by kernel_rfl) (by kernel_rfl)
theorem good82 : GoodTI Try.prog 82 (tiOf Try.t82 Try.t82) := goodTI (by kernel_rfl) (by kernel_rfl) (by kernel_rfl)
theorem good20 : GoodTI Try.prog 20 (tiOf Try.t20 Try.t20) := goodTI (by kernel_rfl) (by kernel_rfl) (by kernel_rfl)
theorem good22 : GoodTI Try.prog 22 (tiOf Try.t22 Try.t22) := goodTI (by kernel_rfl) (by kernel_rfl) (by kernel_rfl)
theorem good34 : GoodTI Try.prog 34 (tiOf Try.t34 Try.t34) := goodTI (by kernel_rfl) (by kernel_rfl) (by kernel_rfl)
theorem good75 : GoodTI Try.prog 75 (tiOf Try.t75 Try.t75) := goodTI (by kernel_rfl) (by kernel_rfl) (by kernel_rfl)
theorem good31 : GoodTI Try.prog 31 (tiOf Try.t31 Try.t31) := goodTI (by kernel_rfl) (by kernel_rfl) (by kernel_rfl)
theorem good54 : GoodTI Try.prog 54 (tiOf Try.t54 Try.t54) := goodTI (by kernel_rfl) (by kernel_rfl) (by kernel_rfl)
theorem good100 : GoodTI Try.prog 100 (tiOf Try.t100 Try.t100) := goodTI (by kernel_rfl) (by kernel_rfl) (by kernel_rfl)
theorem good33 : GoodTI Try.prog 33 (tiOf Try.t33 Try.t33) := goodTI (by kernel_rfl) (by kernel_rfl) (by kernel_rfl)
theorem good55 : GoodTI Try.prog 55 (tiOf Try.t55 Try.t55) := goodTI (by kernel_rfl) (by kernel_rfl) (by kernel_rfl)
theorem good77 : GoodTI Try.prog 77 (tiOf Try.t77 Try.t77) := goodTI (by kernel_rfl) (by kernel_rfl) (by kernel_rfl)
theorem good35 : GoodTI Try.prog 35 (tiOf Try.t35 Try.t35) := goodTI (by kernel_rfl) (by kernel_rfl) (by kernel_rfl)
theorem good53 : GoodTI Try.prog 53 (tiOf Try.t53 Try.t53) := goodTI (by kernel_rfl) (by kernel_rfl) (by kernel_rfl)
theorem good58 : GoodTI Try.prog 58 (tiOf Try.t58 Try.t58) := goodTI (by kernel_rfl) (by kernel_rfl) (by kernel_rfl)
theorem good97 : GoodTI Try.prog 97 (tiOf Try.t97 Try.t97) := goodTI (by kernel_rfl) (by kernel_rfl) (by kernel_rfl)
theorem good32 : GoodTI Try.prog 32 (tiOf Try.t32 Try.t32) := goodTI (by kernel_rfl) (by kernel_rfl) (by kernel_rfl)
theorem good78 : GoodTI Try.prog 78 (tiOf Try.t78 Try.t78) := goodTI (by kernel_rfl) (by kernel_rfl) (by kernel_rfl)
theorem good18 : GoodTI Try.prog 18 (tiOf Try.t18 Try.t18) := goodTI (by kernel_rfl) (by kernel_rfl) (by kernel_rfl)
theorem good37 : GoodTI Try.prog 37 (tiOf Try.t37 Try.t37) := goodTI (by kernel_rfl) (by kernel_rfl) (by kernel_rfl)
theorem good70 : GoodTI Try.prog 70 (tiOf Try.t70 Try.t70) := goodTI (by kernel_rfl) (by kernel_rfl) (by kernel_rfl)
theorem good81 : GoodTI Try.prog 81 (tiOf Try.t81 Try.t81) := goodTI (by kernel_rfl) (by kernel_rfl) (by kernel_rfl)
theorem good88 : GoodTI Try.prog 88 (tiOf Try.t88 Try.t88) := goodTI (by kernel_rfl) (by kernel_rfl) (by kernel_rfl)
theorem good91 : GoodTI Try.prog 91 (tiOf Try.t91 Try.t91) := goodTI (by kernel_rfl) (by kernel_rfl) (by kernel_rfl)
theorem good96 : GoodTI Try.prog 96 (tiOf Try.t96 Try.t96) := goodTI (by kernel_rfl) (by kernel_rfl) (by kernel_rfl)
theorem good30 : GoodTI Try.prog 30 (tiOf Try.t30 Try.t30) := goodTI (by kernel_rfl) (by kernel_rfl) (by kernel_rfl)
theorem good60 : GoodTI Try.prog 60 (tiOf Try.t60 Try.t60) := goodTI (by kernel_rfl) (by kernel_rfl) (by kernel_rfl)
theorem good61 : GoodTI Try.prog 61 (tiOf Try.t61 Try.t61) := goodTI (by kernel_rfl) (by kernel_rfl) (by kernel_rfl)
theorem good65 : GoodTI Try.prog 65 (tiOf Try.t65 Try.t65) := goodTI (by kernel_rfl) (by kernel_rfl) (by kernel_rfl)
theorem good69 : GoodTI Try.prog 69 (tiOf Try.t69 Try.t69) := goodTI (by kernel_rfl) (by kernel_rfl) (by kernel_rfl)
theorem good95 : GoodTI Try.prog 95 (tiOf Try.t95 Try.t95) := goodTI (by kernel_rfl) (by kernel_rfl) (by kernel_rfl)
theorem good99 : GoodTI Try.prog 99 (tiOf Try.t99 Try.t99) := goodTI (by kernel_rfl) (by kernel_rfl) (by kernel_rfl)
theorem good43 : GoodTI Try.prog 43 (tiOf Try.t43 Try.t43) := goodTI (by kernel_rfl) (by kernel_rfl) (by kernel_rfl)
theorem good48 : GoodTI Try.prog 48 (tiOf Try.t48 Try.t48) := goodTI (by kernel_rfl) (by kernel_rfl) (by kernel_rfl)
theorem good56 : GoodTI Try.prog 56 (tiOf Try.t56 Try.t56) := goodTI (by kernel_rfl) (by kernel_rfl) (by kernel_rfl)
theorem good64 : GoodTI Try.prog 64 (tiOf Try.t64 Try.t64) := goodTI (by kernel_rfl) (by kernel_rfl) (by kernel_rfl)
theorem good66 : GoodTI Try.prog 66 (tiOf Try.t66 Try.t66) := goodTI (by kernel_rfl) (by kernel_rfl) (by kernel_rfl)
theorem good67 : GoodTI Try.prog 67 (tiOf Try.t67 Try.t67) := goodTI (by kernel_rfl) (by kernel_rfl) (by kernel_rfl)
theorem good68 : GoodTI Try.prog 68 (tiOf Try.t68 Try.t68) := goodTI (by kernel_rfl) (by kernel_rfl) (by kernel_rfl)
theorem good83 : GoodTI Try.prog 83 (tiOf Try.t83 Try.t83) := goodTI (by kernel_rfl) (by kernel_rfl) (by kernel_rfl)
theorem good85 : GoodTI Try.prog 85 (tiOf Try.t85 Try.t85) := goodTI (by kernel_rfl) (by kernel_rfl) (by kernel_rfl)
theorem good92 : GoodTI Try.prog 92 (tiOf Try.t92 Try.t92) := goodTI (by kernel_rfl) (by kernel_rfl) (by kernel_rfl)
theorem good94 : GoodTI Try.prog 94 (tiOf Try.t94 Try.t94) := goodTI (by kernel_rfl) (by kernel_rfl) (by kernel_rfl)
theorem good109 : GoodTI Try.prog 109 (tiOf Try.t109 Try.t109) := goodTI (by kernel_rfl) (by kernel_rfl) (by kernel_rfl)
theorem good21 : GoodTI Try.prog 21 (tiOf Try.t21 Try.t21) := goodTI (by kernel_rfl) (by kernel_rfl) (by kernel_rfl)
theorem good25 : GoodTI Try.prog 25 (tiOf Try.t25 Try.t25) := goodTI (by kernel_rfl) (by kernel_rfl) (by kernel_rfl)
theorem good41 : GoodTI Try.prog 41 (tiOf Try.t41 Try.t41) := goodTI (by kernel_rfl) (by kernel_rfl) (by kernel_rfl)
theorem good47 : GoodTI Try.prog 47 (tiOf Try.t47 Try.t47) := goodTI (by kernel_rfl) (by kernel_rfl) (by kernel_rfl)
theorem good57 : GoodTI Try.prog 57 (tiOf Try.t57 Try.t57) := goodTI (by kernel_rfl) (by kernel_rfl) (by kernel_rfl)
theorem good72 : GoodTI Try.prog 72 (tiOf Try.t72 Try.t72) := goodTI (by kernel_rfl) (by kernel_rfl) (by kernel_rfl)
theorem good80 : GoodTI Try.prog 80 (tiOf Try.t80 Try.t80) := goodTI (by kernel_rfl) (by kernel_rfl) (by kernel_rfl)
theorem good84 : GoodTI Try.prog 84 (tiOf Try.t84 Try.t84) := goodTI (by kernel_rfl) (by kernel_rfl) (by kernel_rfl)
theorem good87 : GoodTI Try.prog 87 (tiOf Try.t87 Try.t87) := goodTI (by kernel_rfl) (by kernel_rfl) (by kernel_rfl)
theorem good89 : GoodTI Try.prog 89 (tiOf Try.t89 Try.t89) := goodTI (by kernel_rfl) (by kernel_rfl) (by kernel_rfl)
theorem good90 : GoodTI Try.prog 90 (tiOf Try.t90 Try.t90) := goodTI (by kernel_rfl) (by kernel_rfl) (by kernel_rfl)
theorem good93 : GoodTI Try.prog 93 (tiOf Try.t93 Try.t93) := goodTI (by kernel_rfl) (by kernel_rfl) (by kernel_rfl)
theorem good98 : GoodTI Try.prog 98 (tiOf Try.t98 Try.t98) := goodTI (by kernel_rfl) (by kernel_rfl) (by kernel_rfl)
theorem good38 : GoodTI Try.prog 38 (tiOf Try.t38 Try.t38) := goodTI (by kernel_rfl) (by kernel_rfl) (by kernel_rfl)
theorem good49 : GoodTI Try.prog 49 (tiOf Try.t49 Try.t49) := goodTI (by kernel_rfl) (by kernel_rfl) (by kernel_rfl)
theorem good51 : GoodTI Try.prog 51 (tiOf Try.t51 Try.t51) := goodTI (by kernel_rfl) (by kernel_rfl) (by kernel_rfl)
theorem good73 : GoodTI Try.prog 73 (tiOf Try.t73 Try.t73) := goodTI (by kernel_rfl) (by kernel_rfl) (by kernel_rfl)
theorem good79 : GoodTI Try.prog 79 (tiOf Try.t79 Try.t79) := goodTI (by kernel_rfl) (by kernel_rfl) (by kernel_rfl)
theorem good86 : GoodTI Try.prog 86 (tiOf Try.t86 Try.t86) := goodTI (by kernel_rfl) (by kernel_rfl) (by kernel_rfl)
theorem good103 : GoodTI Try.prog 103 (tiOf Try.t103 Try.t103) := goodTI (by kernel_rfl) (by kernel_rfl) (by kernel_rfl)
theorem good104 : GoodTI Try.prog 104 (tiOf Try.t104 Try.t104) := goodTI (by kernel_rfl) (by kernel_rfl) (by kernel_rfl)
theorem good110 : GoodTI Try.prog 110 (tiOf Try.t110 Try.t110) := goodTI (by kernel_rfl) (by kernel_rfl) (by kernel_rfl)
theorem good62 : GoodTI Try.prog 62 (tiOf Try.t62 Try.t62) := goodTI (by kernel_rfl) (by kernel_rfl) (by kernel_rfl)
theorem good101 : GoodTI Try.prog 101 (tiOf Try.t101 Try.t101) := goodTI (by kernel_rfl) (by kernel_rfl) (by kernel_rfl)
theorem good106 : GoodTI Try.prog 106 (tiOf Try.t106 Try.t106) := goodTI (by kernel_rfl) (by kernel_rfl) (by kernel_rfl)
theorem good113 : GoodTI Try.prog 113 (tiOf Try.t113 Try.t113) := goodTI (by kernel_rfl) (by kernel_rfl) (by kernel_rfl)
theorem good115 : GoodTI Try.prog 115 (tiOf Try.t115 Try.t115) := goodTI (by kernel_rfl) (by kernel_rfl) (by kernel_rfl)
theorem tbl_ok : AllT Try.prog tbl := ⟨good1, good3, good4, good2, good27, good26, good39, good28, good5, good9, good7, good59, good44, good42, good52, good71, good50, good74, good63, good40, good24, good12, good13, good36, good15, good23, good16, good17, good45, good29, good76, good46, good82, good20, good22, good34, good75, good31, good54, good100, good33, good55, good77, good35, good53, good58, good97, good32, good78, good18, good37, good70, good81, good88, good91, good96, good30, good60, good61, good65, good69, good95, good99, good43, good48, good56, good64, good66, good67, good68, good83, good85, good92, good94, good109, good21, good25, good41, good47, good57, good72, good80, good84, good87, good89, good90, good93, good98, good38, good49, good51, good73, good79, good86, good103, good104, good110, good62, good101, good106, good113, good115, trivial⟩
def fieldsIn (P : Program) (d : TypeDesc) : Bool := match d with | .struct fs => fs.toList.all fun f => (P.info? f.type).isSome | _ => true
def AllF (P : Program) : List (Nat × TI) → Bool
  | [] => true
  | (_, i) :: r => fieldsIn P i.u && AllF P r
theorem getT_mem : ∀ {l : List (Nat × TI)} {P : Program}, AllF P l = true → ∀ t i, getT l t = some i → fieldsIn P i.u = true
  | [], _, _, t, i, h => by cases h
  | (k, x) :: r, P, hl, t, i, h => by
    simp only [AllF, Bool.and_eq_true] at hl
    simp only [getT] at h
    cases hb : Nat.beq k t with
    | true => simp only [hb, cond_true, Option.some.injEq] at h; subst h; exact hl.1
    | false => simp only [hb, cond_false] at h; exact getT_mem hl.2 t i h
theorem fields_ok {P : Program} {d : TypeDesc} (h : fieldsIn P d = true) : ∀ fs, d = .struct fs → ∀ f ∈ fs.toList, ∃ j, P.info? f.type = some j := by
  intro fs hd f hf
  subst hd
  have := List.all_eq_true.1 h f hf
  exact Option.isSome_iff_exists.1 this
noncomputable def tab : Tab Try.prog := ⟨getT tbl, getT_ok tbl_ok, fun t i h => fields_ok (getT_mem (by kernel_rfl) t i h)⟩
theorem mixed : Try.prog.follows .mixedOrders = true := by kernel_rfl
theorem goes3 : Goes Try.prog 3 := Goes.mk' Try.func3 (by kernel_rfl) (by kernel_rfl)
theorem goes4 : Goes Try.prog 4 := Goes.mk' Try.func4 (by kernel_rfl) (by kernel_rfl)
theorem goes5 : Goes Try.prog 5 := Goes.mk' Try.func5 (by kernel_rfl) (by kernel_rfl)
theorem goes6 : Goes Try.prog 6 := Goes.mk' Try.func6 (by kernel_rfl) (by kernel_rfl)
theorem goes7 : Goes Try.prog 7 := Goes.mk' Try.func7 (by kernel_rfl) (by kernel_rfl)
theorem goes8 : Goes Try.prog 8 := Goes.mk' Try.func8 (by kernel_rfl) (by kernel_rfl)
theorem goes9 : Goes Try.prog 9 := Goes.mk' Try.func9 (by kernel_rfl) (by kernel_rfl)
theorem goes10 : Goes Try.prog 10 := Goes.mk' Try.func10 (by kernel_rfl) (by kernel_rfl)
theorem goes11 : Goes Try.prog 11 := Goes.mk' Try.func11 (by kernel_rfl) (by kernel_rfl)
theorem goes12 : Goes Try.prog 12 := Goes.mk' Try.func12 (by kernel_rfl) (by kernel_rfl)
theorem goes13 : Goes Try.prog 13 := Goes.mk' Try.func13 (by kernel_rfl) (by kernel_rfl)
theorem goes14 : Goes Try.prog 14 := Goes.mk' Try.func14 (by kernel_rfl) (by kernel_rfl)
theorem goes15 : Goes Try.prog 15 := Goes.mk' Try.func15 (by kernel_rfl) (by kernel_rfl)
theorem goes16 : Goes Try.prog 16 := Goes.mk' Try.func16 (by kernel_rfl) (by kernel_rfl)
theorem goes17 : Goes Try.prog 17 := Goes.mk' Try.func17 (by kernel_rfl) (by kernel_rfl)
theorem goes18 : Goes Try.prog 18 := Goes.mk' Try.func18 (by kernel_rfl) (by kernel_rfl)
theorem goes19 : Goes Try.prog 19 := Goes.mk' Try.func19 (by kernel_rfl) (by kernel_rfl)
theorem goes20 : Goes Try.prog 20 := Goes.mk' Try.func20 (by kernel_rfl) (by kernel_rfl)
theorem goes21 : Goes Try.prog 21 := Goes.mk' Try.func21 (by kernel_rfl) (by kernel_rfl)
theorem goes22 : Goes Try.prog 22 := Goes.mk' Try.func22 (by kernel_rfl) (by kernel_rfl)
theorem goes23 : Goes Try.prog 23 := Goes.mk' Try.func23 (by kernel_rfl) (by kernel_rfl)
theorem goes24 : Goes Try.prog 24 := Goes.mk' Try.func24 (by kernel_rfl) (by kernel_rfl)
theorem goes25 : Goes Try.prog 25 := Goes.mk' Try.func25 (by kernel_rfl) (by kernel_rfl)
theorem goes26 : Goes Try.prog 26 := Goes.mk' Try.func26 (by kernel_rfl) (by kernel_rfl)
theorem goes27 : Goes Try.prog 27 := Goes.mk' Try.func27 (by kernel_rfl) (by kernel_rfl)
theorem goes28 : Goes Try.prog 28 := Goes.mk' Try.func28 (by kernel_rfl) (by kernel_rfl)
theorem goes29 : Goes Try.prog 29 := Goes.mk' Try.func29 (by kernel_rfl) (by kernel_rfl)
theorem goes30 : Goes Try.prog 30 := Goes.mk' Try.func30 (by kernel_rfl) (by kernel_rfl)
theorem goes31 : Goes Try.prog 31 := Goes.mk' Try.func31 (by kernel_rfl) (by kernel_rfl)
theorem goes32 : Goes Try.prog 32 := Goes.mk' Try.func32 (by kernel_rfl) (by kernel_rfl)
theorem goes33 : Goes Try.prog 33 := Goes.mk' Try.func33 (by kernel_rfl) (by kernel_rfl)
theorem goes34 : Goes Try.prog 34 := Goes.mk' Try.func34 (by kernel_rfl) (by kernel_rfl)
theorem goes35 : Goes Try.prog 35 := Goes.mk' Try.func35 (by kernel_rfl) (by kernel_rfl)
theorem goes36 : Goes Try.prog 36 := Goes.mk' Try.func36 (by kernel_rfl) (by kernel_rfl)
theorem goes37 : Goes Try.prog 37 := Goes.mk' Try.func37 (by kernel_rfl) (by kernel_rfl)
theorem goes38 : Goes Try.prog 38 := Goes.mk' Try.func38 (by kernel_rfl) (by kernel_rfl)
theorem goes39 : Goes Try.prog 39 := Goes.mk' Try.func39 (by kernel_rfl) (by kernel_rfl)
theorem goes40 : Goes Try.prog 40 := Goes.mk' Try.func40 (by kernel_rfl) (by kernel_rfl)
theorem goes41 : Goes Try.prog 41 := Goes.mk' Try.func41 (by kernel_rfl) (by kernel_rfl)
theorem goes42 : Goes Try.prog 42 := Goes.mk' Try.func42 (by kernel_rfl) (by kernel_rfl)
theorem goes43 : Goes Try.prog 43 := Goes.mk' Try.func43 (by kernel_rfl) (by kernel_rfl)
theorem goes44 : Goes Try.prog 44 := Goes.mk' Try.func44 (by kernel_rfl) (by kernel_rfl)
theorem goes45 : Goes Try.prog 45 := Goes.mk' Try.func45 (by kernel_rfl) (by kernel_rfl)
theorem goes46 : Goes Try.prog 46 := Goes.mk' Try.func46 (by kernel_rfl) (by kernel_rfl)
theorem goes48 : Goes Try.prog 48 := Goes.mk' Try.func48 (by kernel_rfl) (by kernel_rfl)
theorem goes49 : Goes Try.prog 49 := Goes.mk' Try.func49 (by kernel_rfl) (by kernel_rfl)
theorem goes50 : Goes Try.prog 50 := Goes.mk' Try.func50 (by kernel_rfl) (by kernel_rfl)
theorem goes51 : Goes Try.prog 51 := Goes.mk' Try.func51 (by kernel_rfl) (by kernel_rfl)
theorem goes52 : Goes Try.prog 52 := Goes.mk' Try.func52 (by kernel_rfl) (by kernel_rfl)
theorem goes53 : Goes Try.prog 53 := Goes.mk' Try.func53 (by kernel_rfl) (by kernel_rfl)
theorem goes70 : Goes Try.prog 70 := Goes.mk' Try.func70 (by kernel_rfl) (by kernel_rfl)
theorem goes71 : Goes Try.prog 71 := Goes.mk' Try.func71 (by kernel_rfl) (by kernel_rfl)
theorem goes72 : Goes Try.prog 72 := Goes.mk' Try.func72 (by kernel_rfl) (by kernel_rfl)
theorem goes73 : Goes Try.prog 73 := Goes.mk' Try.func73 (by kernel_rfl) (by kernel_rfl)
end Go.Sep

/-
  Small things about growing slices, and contracts that make something.
-/
set_option linter.unusedVariables false
set_option linter.unusedSimpArgs false
namespace Go.Sep

/-- a room of no size is at hand -/
theorem St.room0 {m : Mem} {w : World} {L : List Item} (h : St m w L) (b off : Nat) : St m w (.room b off 0 :: L) := by
  refine h.ofItems (fun y hy => ?_) (fun y hy => ?_) (List.pairwise_cons.2 ⟨fun y hy => .inl rfl, h.disj⟩)
  · rcases List.mem_cons.1 hy with rfl | hy
    · intro j hj; omega
    · exact h.items y hy
  · rcases List.mem_cons.1 hy with rfl | hy
    · exact ⟨fun hl => by simp [Item.len] at hl, fun j hj => by simp [Item.len] at hj, fun _ _ e => by cases e⟩
    · exact h.free y hy

/-- a contract that makes something: memory grows, the items are as1 they were -/
@[reducible] def Made (m : Mem) (L : List Item) (X : Value → Mem → Prop) : Value → Mem → List Item → Prop := fun r m' L' => m ≤ m' ∧ L = L' ∧ X r m'

section
variable {P : Program} {N : Nat} {ρ : Env} {D : List Deferred} {m : Mem} {L : List Item} {Q : EPost} {full : List Oper} {o : Oper} {K : Env → Mem → List Item → Prop}

theorem TC.room0 {c : Code} (b off : Nat) (h : TC P N c ρ D m (.room b off 0 :: L) Q) : TC P N c ρ D m L Q := fun a w ha => h a w ⟨ha.size, ha.env, ha.defers, ha.st.room0 b off⟩
theorem TO.room0 {l : List Oper} (b off : Nat) (h : TO P N ⟨full⟩ l ρ D m (.room b off 0 :: L) Q) : TO P N ⟨full⟩ l ρ D m L Q := fun a w ha => h a w ⟨ha.size, ha.env, ha.defers, ha.st.room0 b off⟩
theorem TC.grow0 {c : Code} {size : Nat} (h : TC P N c ρ D m (tok ⟨none, 0, 0⟩ size :: L) Q) : TC P N c ρ D m L Q := TC.room0 0 0 h
theorem TO.grow0 {l : List Oper} {size : Nat} (h : TO P N ⟨full⟩ l ρ D m (tok ⟨none, 0, 0⟩ size :: L) Q) : TO P N ⟨full⟩ l ρ D m L Q := TO.room0 0 0 h
theorem tok_lit (b size : Nat) : tok ⟨some ⟨b, 0, none⟩, 0, 0⟩ size = .room b 0 0 := by simp [tok]
theorem TC.growL {c : Code} (b size : Nat) (h : TC P N c ρ D m (tok ⟨some ⟨b, 0, none⟩, 0, 0⟩ size :: L) Q) : TC P N c ρ D m L Q := TC.room0 b 0 (by rw [tok_lit] at h; exact h)
theorem TO.growL {l : List Oper} (b size : Nat) (h : TO P N ⟨full⟩ l ρ D m (tok ⟨some ⟨b, 0, none⟩, 0, 0⟩ size :: L) Q) : TO P N ⟨full⟩ l ρ D m L Q := TO.room0 b 0 (by rw [tok_lit] at h; exact h)

theorem SlRep.lit0 {H α : Type} (r : R H α) (m : Mem) (b : Nat) : SlRep r m ⟨some ⟨b, 0, none⟩, 0, 0⟩ ([] : List α) :=
  ⟨rfl, Nat.le_refl _, by simp, [], trivial, .inl ⟨rfl, fun h => by cases h⟩⟩
theorem Own.lit (b n c : Nat) : Own ⟨some ⟨b, 0, none⟩, n, c⟩ := .inr ⟨b, 0, rfl⟩
theorem Own.nil : Own ⟨none, 0, 0⟩ := .inl rfl
end

theorem OT.perm {P : Program} {N : Nat} {ρ : Env} {D : List Deferred} {m : Mem} {L L' : List Item} {Q : EPost} {o : Oper} {K : Env → Mem → List Item → Prop} (hp : L.Perm L') (h : OT P N o ρ D m L' Q K) : OT P N o ρ D m L Q K :=
  fun a w ha => h a w ⟨ha.size, ha.env, ha.defers, ha.st.perm hp⟩

theorem perm_last {α : Type} {x : α} {l : List α} : (x :: l).Perm (l ++ [x]) := (List.perm_append_singleton x l).symm
theorem perm_first {α : Type} {x : α} {l : List α} : (l ++ [x]).Perm (x :: l) := List.perm_append_singleton x l
theorem perm_mid {α : Type} {x : α} {l l' : List α} : (x :: (l ++ l')).Perm (l ++ (x :: l')) := List.perm_middle.symm

/-- the state of a loop that grows one slice -/
structure Grow where
  k : Nat
  s : Sl
  m : Mem

theorem foldl_take {α β : Type} (f : β → α → β) (z : β) (l : List α) {k : Nat} (h : k < l.length) : (l.take (k + 1)).foldl f z = f ((l.take k).foldl f z) l[k] := by
  rw [List.take_succ_eq_append_getElem h, List.foldl_append]; rfl
end Go.Sep

/-
  Rows of one-cell elements that the call owns, written as1 a list and how it is put down; rows of rows that grow.
-/
set_option linter.unusedVariables false
set_option linter.unusedSimpArgs false
namespace Go.Sep

theorem load_one {P : Program} {T : Tab P} {t : TypeId} {n k : Nat} {cs : List Value} {v : Value} (ha : T.isAgg t = some (false, n)) (hv : cs[k]? = some v) : T.load t cs k = some v := by
  unfold Tab.load; rw [ha]; simp only [fo_eq]; exact hv

theorem map_get {α β : Type} (f : α → β) {xs : List α} {k : Nat} {x : α} (h : xs[k]? = some x) : (xs.map f)[k]? = some (f x) := by simp [h]

section
variable {P : Program} {N : Nat} {ρ : Env} {D : List Deferred} {m : Mem} {L : List Item} {Q : EPost} {full : List Oper} {o : Oper} {K : Env → Mem → List Item → Prop}
variable {ops : List Oper} {ts : List Nat} {fuel : Nat} {listed : List Bool} {Ls Lp : List Item}

theorem OT.loadM {α : Type} (T : Tab P) (i : Nat) (f : α → Value) {xs : List α} {x0 : α} {x : Operand} {t : TypeId} {b off k d n : Nat} (hxk : xs[k]? = some x0) (ho : o.op = .load t x) (hd : o.dst = some d) (hN : Nat.blt d N = true)
    (hx : ev ρ x = some (.pointer (some ⟨b, off + k * 1, none⟩))) (hi : L[i]? = some (.cells b off (xs.map f))) (ha : T.isAgg t = some (false, n)) (hK : K ((d, f x0) :: ρ) m L) : OT P N o ρ D m L Q K :=
  OT.loadL (k := k * 1) T i ho hd hN hx hi (load_one ha (by rw [Nat.mul_one]; exact map_get f hxk)) hK

theorem OT.storeM {α : Type} (T : Tab P) (i : Nat) (f : α → Value) {xs : List α} (x0 : α) {x y : Operand} {t : TypeId} {b off k : Nat} (ho : o.op = .store t x y) (hd : o.dst = none)
    (hx : ev ρ x = some (.pointer (some ⟨b, off + k * 1, none⟩))) (hy : ev ρ y = some (f x0)) (hv : cellsF (f x0) = some [f x0]) (hs : T.sizeOk t [f x0] = true) (hi : L[i]? = some (.cells b off (xs.map f))) (hk : k < xs.length)
    (hK : K ρ m (L.set i (.cells b off ((xs.set k x0).map f)))) : OT P N o ρ D m L Q K :=
  OT.storeG (k := k * 1) T i ho hd hx hy hv hs hi (by simp; omega) (by
    have e : putAt (xs.map f) (k * 1) [f x0] = (xs.set k x0).map f := by simp [putAt, List.map_set]
    rw [e]; exact hK)

theorem OT.makeM {α : Type} (T : Tab P) (f : α → Value) (x0 : α) (n : Nat) {t : TypeId} {d : Nat} {iv : Int} {x y : Operand} {e : TypeId} {ei : TI} (hiv : iv = (n : Int)) (ho : o.op = .makeSlice t x y) (hd : o.dst = some d) (hN : Nat.blt d N = true)
    (hx : ev ρ x = some (.int .i64 iv)) (hy : ev ρ y = some (.int .i64 iv)) (he : T.elem t = some (e, ei)) (hs : Nat.beq ei.size 1 = true) (hz : cellsF ei.zero = some [f x0]) (hfit : n * ei.bytes ≤ 281474976710656) (hb : Nat.blt 0 ei.bytes = true)
    (hK : ∀ b, K ((d, .slice (some ⟨b, 0, none⟩) n n) :: ρ) m (.cells b 0 ((List.replicate n x0).map f) :: L)) : OT P N o ρ D m L Q K := by
  subst hiv
  exact OT.make T ho hd hN hx hy he hs hz hfit hb (fun b => by have := hK b; rw [List.map_replicate] at this; exact this)

theorem DO.loadM {α : Type} (T : Tab P) (i : Nat) (j : Nat) (f : α → Value) {xs : List α} {x0 : α} {x : Operand} {t : TypeId} {o : Oper} {b off k d n : Nat} (hxk : xs[k]? = some x0) (hc : Calm Q) (hns : Region.noSelect ⟨ops⟩ = true) (hok : orderOk ops ts [i] listed = true)
    (hi : ops[i]? = some o) (hg : gv ops ρ o = some true) (ho : o.op = .load t x) (hd : o.dst = some d) (hN : Nat.blt d N = true)
    (hx : ev ρ x = some (.pointer (some ⟨b, off + k * 1, none⟩))) (hj : Ls[j]? = some (.cells b off (xs.map f))) (ha : T.isAgg t = some (false, n))
    (h : DO P N ops ts fuel (listed.set i true) ((d, f x0) :: ρ) D m Ls Lp Q) : DO P N ops ts (fuel + 1) listed ρ D m Ls Lp Q :=
  DO.loadL (k := k * 1) T i j hc hns hok hi hg ho hd hN hx hj (load_one ha (by rw [Nat.mul_one]; exact map_get f hxk)) h
end

/-! rows that grow -/
def toks (ss : List Sl) (size : Nat) : List Item := ss.map fun s => tok s size

theorem eraseIdx_map' {α β : Type} (f : α → β) : ∀ (l : List α) (k : Nat), (l.map f).eraseIdx k = (l.eraseIdx k).map f
  | [], k => by simp
  | x :: xs, 0 => by simp
  | x :: xs, k + 1 => by simp [eraseIdx_map' f xs k]

theorem toks_out {ss : List Sl} {size k : Nat} {s : Sl} (L : List Item) (h : ss[k]? = some s) : (toks ss size ++ L).Perm (tok s size :: (toks (ss.eraseIdx k) size ++ L)) := by
  have h1 : (toks ss size)[k]? = some (tok s size) := map_get _ h
  have h2 := perm_at h1
  have e : (toks ss size).eraseIdx k = toks (ss.eraseIdx k) size := eraseIdx_map' _ _ _
  rw [e] at h2
  exact h2.append_right L

theorem toks_in {ss : List Sl} {size k : Nat} {s : Sl} (L : List Item) (h : k < ss.length) : (tok s size :: (toks (ss.eraseIdx k) size ++ L)).Perm (toks (ss.set k s) size ++ L) := by
  have h2 := perm_back (L := toks ss size) (i := k) (by simpa [toks] using h) (tok s size)
  have e : (toks ss size).eraseIdx k = toks (ss.eraseIdx k) size := eraseIdx_map' _ _ _
  have e2 : (toks ss size).set k (tok s size) = toks (ss.set k s) size := by simp [toks, List.map_set]
  rw [e, e2] at h2
  exact h2.append_right L

/-- rows, each in a slice of its own that may grow -/
def OwnRows {H α : Type} (r : R H α) (m : Mem) : List Sl → List (List α) → Prop := All2 fun s l => Own s ∧ SlRep r m s l

theorem OwnRows.mono {H α : Type} {r : R H α} {m m' : Mem} {ss : List Sl} {ls : List (List α)} (h : OwnRows r m ss ls) (hm : m ≤ m') : OwnRows r m' ss ls := All2.mono (fun _ _ h => ⟨h.1, h.2.mono hm⟩) h

theorem All2.set {H α : Type} {r : H → α → Prop} : ∀ {hs : List H} {as1 : List α} (k : Nat) {h : H} {a : α}, All2 r hs as1 → r h a → All2 r (hs.set k h) (as1.set k a)
  | [], [], k, _, _, h1, _ => trivial
  | x :: xs, y :: ys, 0, _, _, h1, h2 => ⟨h2, h1.2⟩
  | x :: xs, y :: ys, k + 1, _, _, h1, h2 => ⟨h1.1, All2.set k h1.2 h2⟩

theorem OwnRows.rows {H α : Type} {r : R H α} {m : Mem} {ss : List Sl} {ls : List (List α)} (h : OwnRows r m ss ls) : All2 ((rSl r).rep m) ss ls := All2.mono (fun _ _ h => h.2) h

theorem OwnRows.empty {H α : Type} (r : R H α) (m : Mem) (n : Nat) : OwnRows r m (List.replicate n ⟨none, 0, 0⟩) (List.replicate n []) := by
  induction n with
  | zero => exact trivial
  | succ n ih => exact ⟨⟨Own.nil, SlRep.nil r m⟩, ih⟩

theorem St.toks0 {m : Mem} {w : World} {L : List Item} (h : St m w L) (n size : Nat) : St m w (toks (List.replicate n ⟨none, 0, 0⟩) size ++ L) := by
  induction n with
  | zero => exact h
  | succ n ih => exact ih.room0 0 0

section
variable {P : Program} {N : Nat} {ρ : Env} {D : List Deferred} {m : Mem} {L : List Item} {Q : EPost} {full : List Oper}
theorem TC.toks0 {c : Code} (n size : Nat) (h : TC P N c ρ D m (toks (List.replicate n ⟨none, 0, 0⟩) size ++ L) Q) : TC P N c ρ D m L Q := fun a w ha => h a w ⟨ha.size, ha.env, ha.defers, ha.st.toks0 n size⟩
theorem TO.toks0 {l : List Oper} (n size : Nat) (h : TO P N ⟨full⟩ l ρ D m (toks (List.replicate n ⟨none, 0, 0⟩) size ++ L) Q) : TO P N ⟨full⟩ l ρ D m L Q := fun a w ha => h a w ⟨ha.size, ha.env, ha.defers, ha.st.toks0 n size⟩
end

/-- a row of rows that is made and then left alone -/
theorem OwnRows.whole {H α : Type} {r : R H α} {m : Mem} {ss : List Sl} {ls : List (List α)} {b n : Nat} (h : OwnRows r m ss ls) (hA : At m b 0 (ss.map Sl.v)) (hn : n = ls.length) (hfit : n * 24 ≤ 140737488355328) :
    SlRep (rSl r) m ⟨some ⟨b, 0, none⟩, n, n⟩ ls := by
  refine ⟨hn, Nat.le_refl _, hfit, ss, h.rows, .inr ⟨b, 0, rfl, ?_⟩⟩
  have e : encs (rSl r) ss = ss.map Sl.v := by
    simp only [encs, rSl]
    clear h hA
    induction ss with
    | nil => rfl
    | cons x xs ih => simpa using ih
  rw [e]; exact hA

end Go.Sep

/-
  Slices that the call owns with all their room: stacks and queues of one-cell elements.
-/
set_option linter.unusedVariables false
set_option linter.unusedSimpArgs false
namespace Go.Sep

/-- the cells of an owned slice, its room too -/
def mcell (s : Sl) (vs : List Value) : Item := match s.a with
  | none => .cells 0 0 vs
  | some a => .cells a.block a.off vs

structure MS (s : Sl) (vs : List Value) : Prop where
  len : s.len ≤ s.cap
  all : vs.length = s.cap
  adr : (s = ⟨none, 0, 0⟩) ∨ ∃ b o, s.a = some ⟨b, o, none⟩

theorem MS.nil : MS ⟨none, 0, 0⟩ [] := ⟨Nat.le_refl _, rfl, .inl rfl⟩
theorem MS.at_ (b o n c : Nat) (vs : List Value) (h : n ≤ c) (hv : vs.length = c) : MS ⟨some ⟨b, o, none⟩, n, c⟩ vs := ⟨h, hv, .inr ⟨b, o, rfl⟩⟩

section
variable {P : Program} {N : Nat} {ρ : Env} {D : List Deferred} {m : Mem} {L : List Item} {Q : EPost} {full : List Oper} {o : Oper} {K : Env → Mem → List Item → Prop}

/-- append of one, in an owned slice -/
theorem run_push (T : Tab P) {t t2 e e2 ty : TypeId} {ei ei2 : TI} {w : World} {s s2 : Sl} {vs news : List Value} (he : T.elem t = some (e, ei)) (he2 : T.elem t2 = some (e2, ei2))
    (hw : St m w (mcell s vs :: L)) (hM : MS s vs) (hsz : ei.size = 1) (hy : Src w s2 ei.size news) (hn : 0 < s2.len) (h1 : allOne news = true) (hzs : ei.zero.cells.size = ei.size)
    (hb : 0 < ei.bytes) (hfit : (s.len + s2.len) * ei.bytes ≤ 140737488355328) :
    ∃ s' vs' w', (Builtin.append_ #[t, t2] ty #[s.v, s2.v]).run P w = .ok s'.v w' ∧ St m w' (mcell s' vs' :: L) ∧ MS s' vs' ∧ s'.len = s.len + s2.len ∧ vs'.take s'.len = vs.take s.len ++ news := by
  obtain ⟨ti, h4, h5, h6⟩ := elem_get he
  obtain ⟨ti2, k4, k5, k6⟩ := elem_get he2
  obtain ⟨_, _, hu, _⟩ := T.ok t ti h4
  rw [h5] at hu
  obtain ⟨_, _, hu2, _⟩ := T.ok t2 ti2 k4
  rw [k5] at hu2
  obtain ⟨info, q1, q2, q3, q4, q5⟩ := T.ok e ei h6
  have hnew := run_first (P := P) hy
  have hbound : s.len + s2.len ≤ 140737488355328 := Nat.le_trans (Nat.le_mul_of_pos_right _ hb) hfit
  have hnl : news.length = s2.len := by rw [hy.1, hsz, Nat.mul_one]
  have hcap := hM.len
  have hall := hM.all
  have hsrc : Src w s ei.size (vs.take s.len) := by
    refine ⟨by rw [hsz, List.length_take]; omega, ?_⟩
    rcases hM.adr with h | ⟨b, o, h⟩
    · left; rw [h]
    · right
      refine ⟨b, o, h, fun j v hv => ?_⟩
      have hc := hw.cells (i := 0) (b := b) (off := o) (vs := vs) (by simp [mcell, h])
      refine hc j v ?_
      rw [List.getElem?_take] at hv
      split at hv
      · exact hv
      · cases hv
  by_cases hroom : s.len + s2.len ≤ s.cap
  · rcases hM.adr with hnil | ⟨b, o, ha⟩
    · subst hnil; simp only at hroom; omega
    · obtain ⟨a, n, c⟩ := s
      simp only at ha hroom hcap hbound hfit hall hsrc
      subst ha
      simp only [mcell] at hw
      obtain ⟨w', hr, hst'⟩ := run_storeCells (P := P) news vs n 0 w hw h1 (by omega)
      refine ⟨⟨some ⟨b, o, none⟩, n + s2.len, c⟩, putAt vs n news, w', ?_, hst', ⟨hroom, by rw [putAt_length]; exact hall, .inr ⟨b, o, rfl⟩⟩, rfl, ?_⟩
      · have hr' : (storeCells ((⟨b, o, none⟩ : Addr).add n) news).run P w = .ok () w' := by rw [addr_add]; exact hr
        simp only [Sl.v] at hnew
        simp [Builtin.append_, run_underlying hu, run_underlying hu2, sizeOf, typeInfo, q1, q3, Builtin.lenOf, hroom, hnew, hr', hsz] at hnew ⊢
        simp [hnew, hr']
      · have e := putAt_front news (vs.drop n) (by simp; omega) (vs.take n)
        rw [List.take_append_drop, show (vs.take n).length = n by simp; omega] at e
        simp only [e]
        rw [List.take_append_of_le_length (by simp; omega), List.take_of_length_le (by simp; omega)]
  · have hlt : s.cap < s.len + s2.len := by omega
    have h48 : ¬ (Builtin.nextslicecap (s.len + s2.len) s.cap * ei.bytes > 281474976710656) := by
      have := growslice_fits hlt hfit
      omega
    have hold := run_first (P := P) (hsrc.drew)
    have hnew' := run_first (P := P) (hy.drew)
    obtain ⟨nc, hnc, hge⟩ : ∃ nc, nc = (Question.appendCap (s.len + s2.len) s.cap e).cut (w.tape w.drawn (.appendCap (s.len + s2.len) s.cap e)) ∧ s.len + s2.len ≤ nc := ⟨_, rfl, by simp [Question.cut]⟩
    have hst := (hw.sub (List.sublist_cons_self _ _)).drew.allocCells ((⟨vs.take s.len⟩ : Array Value) ++ (⟨news⟩ : Array Value) ++ Builtin.zeroCells ei.zero.cells (nc - (s.len + s2.len))) e
    refine ⟨⟨some ⟨w.heap.size, 0, none⟩, s.len + s2.len, nc⟩, _, w.drew.alloc (.cells ((⟨vs.take s.len⟩ : Array Value) ++ (⟨news⟩ : Array Value) ++ Builtin.zeroCells ei.zero.cells (nc - (s.len + s2.len))) e), ?_, hst, ⟨hge, ?_, .inr ⟨_, _, rfl⟩⟩, rfl, ?_⟩
    · simp only [Sl.v] at hold hnew'
      have hb0 : ei.bytes ≠ 0 := by omega
      have hmax : ¬ (9223372036854775807 < (s.len : Int) + (s2.len : Int)) := by omega
      simp [Builtin.append_, run_underlying hu, run_underlying hu2, sizeOf, typeInfo, zeroValue, q1, q3, q4, q5, Builtin.lenOf, hroom, hold, hnew', h48, hmax, Question.forced, newRow, ← hnc, IntKind.max, IntKind.signed, IntKind.bits, hb0]
      congr 2
      apply Array.ext'
      simp
    · have := size_zeroCells ei.zero.cells (nc - (s.len + s2.len))
      rw [hzs, hsz, Nat.mul_one] at this
      simp [this]
      omega
    · simp only [Array.toList_append]
      rw [List.append_assoc, ← List.append_assoc, List.take_append_of_le_length (by simp; omega), List.take_of_length_le (by simp; omega)]

theorem OT.push (T : Tab P) {s : Sl} {vs : List Value} {v : Value} {b : Nat} {x y : Operand} {t t2 : TypeId} {d bytes : Nat} (hM : MS s vs)
    (ho : o.op = .call ⟨.builtin .append, ⟨[x, y]⟩, ⟨[t, t2]⟩⟩) (hd : o.dst = some d) (hN : Nat.blt d N = true) (hx : ev ρ x = some s.v) (hy : ev ρ y = some (.slice (some ⟨b, 0, none⟩) 1 1)) (hT : T.okElem t t2 1 bytes = true) (h1 : allOne [v] = true)
    (hfit : (s.len + 1) * bytes ≤ 140737488355328)
    (hK : ∀ s' vs', MS s' vs' → s'.len = s.len + 1 → vs'.take (s.len + 1) = vs.take s.len ++ [v] → K ((d, s'.v) :: ρ) m (mcell s' vs' :: L)) : OT P N o ρ D m (.cells b 0 [v] :: mcell s vs :: L) Q K := by
  obtain ⟨e, e2, ei, ei2, q1, q2, q3, q4, q5, q6⟩ := okElem_get hT
  intro ac w ha
  have hb : 0 < ei.bytes := by omega
  have hcells := ha.st.cells (i := 0) rfl
  have hsub : St m w (mcell s vs :: L) := ha.st.sub (List.sublist_cons_self _ _)
  have hsrc : Src w ⟨some ⟨b, 0, none⟩, 1, 1⟩ ei.size [v] := ⟨by rw [q3]; rfl, .inr ⟨b, 0, rfl, hcells⟩⟩
  obtain ⟨s', vs', w', hr, g1, g2, g3, g4⟩ := run_push (P := P) (ty := o.type) T q1 q2 hsub hM q3 hsrc (by simp) h1 q6 hb (by rw [q4]; exact hfit)
  have he : (execOp ac.eval o).run P w = .ok (.value s'.v) w' := by
    simp only [execOp, ho, resolve, invoke, builtin, Sem.run_bind, Sem.run_pure, Result.andThen_ok, List.map_toArray, List.map_cons, List.map_nil, ha.env.eval hx, ha.env.eval hy]
    simp only [List.map_toArray, List.map_cons, List.map_nil, ha.env.eval hx, ha.env.eval hy, hr, Result.andThen_ok]
  simp only [Oper.wp, he, Oper.upon]
  rw [hd]
  have hp := ha.put hN s'.v
  refine ⟨_, _, _, ⟨hp.size, hp.env, hp.defers, g1⟩, hK s' vs' g2 g3 ?_⟩
  rw [← g4, g3]

/-- s[:n] of an owned slice -/
theorem OT.takeM (T : Tab P) (hi : Nat) {x y : Operand} {t : TypeId} {d b i n c : Nat} {iv : Int} (hik : iv = (hi : Int)) (hc : hi ≤ c)
    (ho : o.op = .slice t x none (some y) none) (hd : o.dst = some d) (hN : Nat.blt d N = true) (he : ev ρ x = some (.slice (some ⟨b, i, none⟩) n c)) (hy : ev ρ y = some (.int .i64 iv)) (hsz : T.esize t = some 1)
    (hK : K ((d, .slice (some ⟨b, i, none⟩) hi c) :: ρ) m L) : OT P N o ρ D m L Q K := by
  subst hik
  refine OT.cutP T (lov := none) (hiv := some (.int .i64 (hi : Int))) 0 hi ho hd hN he rfl (by simp [evO, fo_eq, hy]) hsz (.inl ⟨rfl, rfl⟩) (.inr rfl) (Nat.zero_le _) hc ?_
  simpa using hK

theorem OT.loadR (T : Tab P) (i : Nat) {cs : List Value} {v : Value} {x : Operand} {t : TypeId} {b off k d n : Nat} (hv : cs[k]? = some v) (ho : o.op = .load t x) (hd : o.dst = some d) (hN : Nat.blt d N = true)
    (hx : ev ρ x = some (.pointer (some ⟨b, off + k * 1, none⟩))) (hi : L[i]? = some (.cells b off cs)) (ha : T.isAgg t = some (false, n)) (hK : K ((d, v) :: ρ) m L) : OT P N o ρ D m L Q K :=
  OT.loadL (k := k * 1) T i ho hd hN hx hi (load_one ha (by rw [Nat.mul_one]; exact hv)) hK
end

section
variable {P : Program} {N : Nat} {ρ : Env} {D : List Deferred} {m : Mem} {Q : EPost} {ops : List Oper} {ts : List Nat} {fuel : Nat} {listed : List Bool} {Ls Lp : List Item}
theorem DO.loadR (T : Tab P) (i : Nat) (j : Nat) {cs : List Value} {v : Value} {x : Operand} {t : TypeId} {o : Oper} {b off k d n : Nat} (hv : cs[k]? = some v) (hc : Calm Q) (hns : Region.noSelect ⟨ops⟩ = true) (hok : orderOk ops ts [i] listed = true)
    (hi : ops[i]? = some o) (hg : gv ops ρ o = some true) (ho : o.op = .load t x) (hd : o.dst = some d) (hN : Nat.blt d N = true)
    (hx : ev ρ x = some (.pointer (some ⟨b, off + k * 1, none⟩))) (hj : Ls[j]? = some (.cells b off cs)) (ha : T.isAgg t = some (false, n))
    (h : DO P N ops ts fuel (listed.set i true) ((d, v) :: ρ) D m Ls Lp Q) : DO P N ops ts (fuel + 1) listed ρ D m Ls Lp Q :=
  DO.loadL (k := k * 1) T i j hc hns hok hi hg ho hd hN hx hj (load_one ha (by rw [Nat.mul_one]; exact hv)) h
theorem DO.takeM (T : Tab P) (i : Nat) (n2 : Nat) {x y : Operand} {t : TypeId} {o : Oper} {d b off n c : Nat} {iv : Int} (hik : iv = (n2 : Int)) (hcc : n2 ≤ c) (hc : Calm Q) (hns : Region.noSelect ⟨ops⟩ = true) (hok : orderOkP ops ts [i] listed = true)
    (hi : ops[i]? = some o) (hg : gv ops ρ o = some true) (ho : o.op = .slice t x none (some y) none) (hd : o.dst = some d) (hN : Nat.blt d N = true)
    (he : ev ρ x = some (.slice (some ⟨b, off, none⟩) n c)) (hy : ev ρ y = some (.int .i64 iv)) (hsz : T.esize t = some 1)
    (h : DO P N ops ts fuel (listed.set i true) ((d, .slice (some ⟨b, off, none⟩) n2 c) :: ρ) D m Ls Lp Q) : DO P N ops ts (fuel + 1) listed ρ D m Ls Lp Q := by
  simp only [orderOkP, Bool.and_eq_true] at hok
  obtain ⟨o1, o2, o3, _⟩ := hok
  subst hik
  refine DO.takeP i hc hi hd hN hg hns o1 o2 (by simpa using o3) (fun ac w hA => ?_) h
  have hr := run_sliceAt (P := P) T (s := ⟨some ⟨b, off, none⟩, n, c⟩) (w := w) (lo := 0) (hi := n2) (lov := none) (hiv := some (.int .i64 (n2 : Int))) hsz (.inl ⟨rfl, rfl⟩) (.inr rfl) (Nat.zero_le _) hcc
  simp only [Sl.v] at hr
  simp only [execOp, ho, hA.eval he, Option.map_none, Option.map_some, hA.eval hy, Sem.run_bind, hr, Result.andThen_ok, Sem.run_pure]
  simp [addr_add]
end

/-- an owned slice and what it holds -/
structure MQ {α : Type} (f : α → Value) (s : Sl) (vs : List Value) (xs : List α) : Prop where
  ms : MS s vs
  eq : vs.take s.len = xs.map f

theorem MQ.nil {α : Type} (f : α → Value) : MQ f ⟨none, 0, 0⟩ [] [] := ⟨MS.nil, rfl⟩
theorem MQ.len {α : Type} {f : α → Value} {s : Sl} {vs : List Value} {xs : List α} (h : MQ f s vs xs) : s.len = xs.length := by
  have := congrArg List.length h.eq
  have h1 := h.ms.len
  have h2 := h.ms.all
  simp at this
  omega
theorem MQ.push {α : Type} {f : α → Value} {s s' : Sl} {vs vs' : List Value} {xs : List α} (h : MQ f s vs xs) (x : α) (hM : MS s' vs') (hl : s'.len = s.len + 1) (ht : vs'.take (s.len + 1) = vs.take s.len ++ [f x]) : MQ f s' vs' (xs ++ [x]) :=
  ⟨hM, by rw [hl, ht, h.eq, List.map_append]; rfl⟩
/-- what holds something has a place -/
theorem MQ.ne {α : Type} {f : α → Value} {s : Sl} {vs : List Value} {xs : List α} (h : MQ f s vs xs) (hp : 0 < xs.length) : ∃ b o c, s = ⟨.some ⟨b, o, Option.none⟩, xs.length, c⟩ ∧ xs.length ≤ c ∧ vs.length = c := by
  have hl := h.len
  rcases h.ms.adr with e | ⟨b, o, e⟩
  · rw [e] at hl; simp at hl; omega
  · refine ⟨b, o, s.cap, ?_, by rw [← hl]; exact h.ms.len, h.ms.all⟩
    obtain ⟨a, n, c⟩ := s
    simp only at e hl
    rw [e, hl]
theorem MQ.get {α : Type} {f : α → Value} {s : Sl} {vs : List Value} {xs : List α} (h : MQ f s vs xs) {k : Nat} {x : α} (hx : xs[k]? = some x) : vs[k]? = .some (f x) := by
  have h1 : (vs.take s.len)[k]? = some (f x) := by rw [h.eq]; exact map_get f hx
  rw [List.getElem?_take] at h1
  split at h1
  · exact h1
  · cases h1
theorem MQ.pop {α : Type} {f : α → Value} {b o c : Nat} {vs : List Value} {xs : List α} {n : Nat} (h : MQ f ⟨.some ⟨b, o, Option.none⟩, n, c⟩ vs xs) {k : Nat} (hk : k ≤ n) : MQ f ⟨.some ⟨b, o, Option.none⟩, k, c⟩ vs (xs.take k) := by
  have h1 := h.ms.len
  simp only at h1
  refine ⟨⟨by simp only; omega, h.ms.all, .inr ⟨b, o, rfl⟩⟩, ?_⟩
  have := h.eq
  simp only at this ⊢
  rw [List.map_take, ← this, List.take_take]
  congr 1; omega
end Go.Sep

/-
  Comparisons of slices and maps with nil.
-/
set_option linter.unusedVariables false
set_option linter.unusedSimpArgs false
namespace Go.Sep
theorem perm_f2 {α : Type} {x a b : α} {L : List α} : (a :: b :: (L ++ [x])).Perm (x :: a :: b :: L) := perm_first (l := a :: b :: L)
theorem perm_f3 {α : Type} {x a b c : α} {L : List α} : (a :: b :: c :: (L ++ [x])).Perm (x :: a :: b :: c :: L) := perm_first (l := a :: b :: c :: L)
theorem perm_f4 {α : Type} {x a b c d : α} {L : List α} : (a :: b :: c :: d :: (L ++ [x])).Perm (x :: a :: b :: c :: d :: L) := perm_first (l := a :: b :: c :: d :: L)
theorem perm_4 {α : Type} {a b c d : α} {L : List α} : (a :: b :: c :: d :: (L ++ [])).Perm (a :: b :: c :: d :: L) := by rw [List.append_nil]
theorem perm_6 {α : Type} {a b c d e f : α} {L : List α} : (a :: b :: c :: d :: e :: f :: (L ++ [])).Perm (a :: b :: c :: d :: e :: f :: L) := by rw [List.append_nil]

section
variable {P : Program} {N : Nat} {ρ : Env} {D : List Deferred} {m : Mem} {L : List Item} {Q : EPost} {o : Oper} {K : Env → Mem → List Item → Prop}

theorem equalIn_nilSlice {t e : TypeId} {w : World} (dd : Nat) (hu : (underlying t).run P w = .ok (.slice e) w) (s : Sl) :
    (Op.equalIn (dd + 1) t s.v (.slice none 0 0)).run P w = .ok (decide (s.a = none)) w := by
  obtain ⟨a, n, c⟩ := s
  cases a with
  | none => simp only [Sl.v, Op.equalIn, Sem.run_bind, hu, Result.andThen_ok, Sem.run_pure]; rfl
  | some a => simp only [Sl.v, Op.equalIn, Sem.run_bind, hu, Result.andThen_ok, Sem.run_pure]; rfl

theorem run_nilSlice (T : Tab P) {t e : TypeId} {ei : TI} {s : Sl} {w : World} {X Y : Operand} (he : T.elem t = some (e, ei)) :
    (do eqGuard .eql t X Y s.v (.slice none 0 0); binOp .eql t s.v (.slice none 0 0) : Sem Value).run P w = .ok (.bool (decide (s.a = none))) w := by
  obtain ⟨ti, h4, h5, h6⟩ := elem_get he
  have hu := T.run_underlying w h4
  rw [h5] at hu
  have h := equalIn_nilSlice (P := P) 9999 hu s
  have e1 : binOp .eql t s.v (.slice none 0 0) = (do pure (.bool (← Op.equalIn (9999 + 1) t s.v (.slice none 0 0))) : Sem Value) := rfl
  have e2 : (eqGuard .eql t X Y s.v (.slice none 0 0)).run P w = .ok () w := by simp [eqGuard, Sl.v]
  rw [e1]
  simp only [Sem.run_bind, e2, Result.andThen_ok, h, Sem.run_pure]

theorem OT.nilSlice (T : Tab P) {t t' e : TypeId} {ei : TI} {s : Sl} {x y : Operand} {d : Nat} (ho : o.op = .binOp .eql t x y t') (hd : o.dst = some d) (hN : Nat.blt d N = true)
    (hx : ev ρ x = some s.v) (hy : ev ρ y = some (.slice none 0 0)) (he : T.elem t = some (e, ei)) (hK : K ((d, .bool (decide (s.a = none))) :: ρ) m L) : OT P N o ρ D m L Q K := by
  refine OT.run hd hN (fun a w ha => ⟨w, ?_, ha.st⟩) hK
  have hr := run_nilSlice (P := P) T (s := s) (w := w) (X := x) (Y := y) he
  simp only [Sem.run_bind] at hr
  simp only [execOp, ho, ha.env.eval hx, ha.env.eval hy, Sem.run_bind]
  revert hr
  cases (eqGuard BinOp.eql t x y s.v (Value.slice none 0 0)).run P w with
  | ok u w' => intro hr; simp only [Result.andThen_ok] at hr ⊢; rw [hr]; rfl
  | _ => intro hr; cases hr

/-- a result that lies in a cell, and one in a slot -/
theorem retQ_ret_c (T : Tab P) (i : Nat) {fn : Func} {R : Value → Mem → List Item → Prop} {X : List PanicEntry → Mem → List Item → Prop} {t u : Nat} {ty : TypeId} {b : Nat} {cs : List Value} {v v2 : Value} {L' : List Item}
    (hres : fn.results = ⟨[.cell t ty, .tmp u]⟩) (ht : look ρ t = some (.pointer (some ⟨b, 0, none⟩))) (hi : L[i]? = some (.cells b 0 cs)) (hv : T.load ty cs 0 = some v) (hu : look ρ u = some v2) (hs : L'.Sublist L)
    (h : R (.tuple ⟨[v, v2]⟩) m L') : retQ P fn R X .ret ρ [] m L := by
  refine ⟨rfl, _, L', fun a w hA hst => ?_, hs, h⟩
  have h1 := run_loadVar (P := P) T (k := 0) (hst.cells hi) hv
  have h2 := hA t _ ht
  have h3 := hA u _ hu
  unfold results
  rw [hres, Array.mapM_eq_mapM_toList]
  simp [Sem.run_bind, Sem.run_map, h2, h3, asAddr, h1]
end
end Go.Sep

/-
  Regions in which several things may come up next.
-/
set_option linter.unusedVariables false
set_option linter.unusedSimpArgs false
namespace Go.Sep

def AllL {α : Type} (p : α → Prop) : List α → Prop
  | [] => True
  | x :: xs => p x ∧ AllL p xs

theorem AllL.mem {α : Type} {p : α → Prop} : ∀ {l : List α}, AllL p l → ∀ x ∈ l, p x
  | [], _, x, h => by cases h
  | y :: ys, h, x, hx => by
    rcases List.mem_cons.1 hx with rfl | hx
    · exact h.1
    · exact h.2.mem x hx

section
variable {P : Program} {N : Nat} {ρ : Env} {D : List Deferred} {m : Mem} {L Ls Lp : List Item} {Q : EPost} {ops : List Oper} {ts : List Nat} {fuel : Nat} {listed : List Bool}

/-- one of several: what it must come to -/
def Fork (P : Program) (N : Nat) (ops : List Oper) (ts : List Nat) (fuel : Nat) (listed : List Bool) (ρ : Env) (D : List Deferred) (m : Mem) (Ls Lp : List Item) (Q : EPost) (i : Nat) : Prop :=
  ∃ o, ops[i]? = some o ∧ gv ops ρ o = some true ∧ ts.contains i = false ∧
    OT P N o ρ D m (Ls ++ Lp) Q (fun ρ' m' L' => m ≤ m' ∧ ∃ Lp', L'.Perm (Ls ++ Lp') ∧ DO P N ops ts fuel (listed.set i true) ρ' D m' Ls Lp' Q)

theorem DO.fork (i : Nat) (is : List Nat) (hr : Region.ready .any ⟨ops⟩ ⟨listed⟩ = i :: is) (h : AllL (Fork P N ops ts fuel listed ρ D m Ls Lp Q) (i :: is)) : DO P N ops ts (fuel + 1) listed ρ D m Ls Lp Q := by
  intro a w ha
  refine ⟨fun h0 => (by rw [hr] at h0; cases h0), fun j hj => ?_⟩
  rw [hr] at hj
  obtain ⟨o, hi, hg, ht, h1⟩ := h.mem j hj
  have hi' : (⟨ops⟩ : Array Oper)[j]? = some o := by simpa using hi
  have e : (⟨listed⟩ : Array Bool).setIfInBounds j true = ⟨listed.set j true⟩ := by
    apply Array.ext'; simp
  unfold wpOp
  simp only [hi', gv_wanted hg ha.env, if_true]
  refine .inl (Oper.wp_mono ?_ (h1 a w ha))
  rintro a' w' ⟨ρ', m', L', h1, h2, Lp', h3, h4⟩
  have h5 : Ok N ρ' D m' (Ls ++ Lp') a' w' := h1.perm h3
  refine ⟨fun _ => ⟨m', Lp', h2, h5.st⟩, ?_⟩
  rw [e]
  refine wpAnyT_strong ?_ _ _ _ _ (h4 a' w' h5)
  rintro w2 ⟨m2, L2, g1, g2⟩
  exact ⟨m2, L2, Mem.le_trans h2 g1, g2⟩

/-- a cut behind the first part, when that part is what stands open -/
theorem TC.cutT {ι : Type} {x y : Code} (ks : List Nat) {ρc : Env} (hk : pickEnv ρ ks = some ρc) (sρ : ι → Env) (sm : ι → Mem) (sL : ι → List Item) (I : ι → Prop)
    (hx : TC P N x ρ D m L (thenQ (fun ρ' D' m' L' => ∃ i, Has ρ' (sρ i) ∧ Has ρ' ρc ∧ D' = D ∧ m' = sm i ∧ (sL i).Sublist L' ∧ I i) Q))
    (hy : ∀ i, I i → TC P N y (sρ i ++ ρc) D (sm i) (sL i) Q) : TC P N x ρ D m L (thenQ (fun ρ' D' m' L' => TC P N y ρ' D' m' L' Q) Q) :=
  hx.mono fun e ρ' D' m' L' h => by
    cases e with
    | normal =>
      obtain ⟨i, h1, h2, h3, h4, h5, h6⟩ := (show ∃ i, Has ρ' (sρ i) ∧ Has ρ' ρc ∧ _ from h)
      subst h3; subst h4
      exact (show TC P N y ρ' D' (sm i) L' Q from fun a w ha => hy i h6 a w ((ha.sub (h1.append h2).sub).sublist h5))
    | _ => exact h

/-- no cells at all are at hand -/
theorem St.cells0 {w : World} (h : St m w L) (b off : Nat) : St m w (.cells b off [] :: L) := by
  obtain ⟨vs, h1, h2⟩ := (h.room0 b off).ofRoom
  have : vs = [] := List.eq_nil_of_length_eq_zero h1
  subst this
  exact h2
theorem TC.mcell0 {c : Code} (h : TC P N c ρ D m (mcell ⟨none, 0, 0⟩ [] :: L) Q) : TC P N c ρ D m L Q := fun a w ha => h a w ⟨ha.size, ha.env, ha.defers, ha.st.cells0 0 0⟩
end

theorem pf1 {α : Type} {a b : α} {l : List α} : (a :: b :: l).Perm (b :: a :: l) := List.Perm.swap _ _ _
theorem pf2 {α : Type} {a b c : α} {l : List α} : (a :: b :: c :: l).Perm (c :: a :: b :: l) := (List.perm_middle (l₁ := [a, b])).symm.symm
theorem pf3 {α : Type} {a b c d : α} {l : List α} : (a :: b :: c :: d :: l).Perm (d :: a :: b :: c :: l) := List.perm_middle (l₁ := [a, b, c])
theorem pf4 {α : Type} {a b c d e : α} {l : List α} : (a :: b :: c :: d :: e :: l).Perm (e :: a :: b :: c :: d :: l) := List.perm_middle (l₁ := [a, b, c, d])
end Go.Sep
