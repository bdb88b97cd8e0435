/-
  Tables of functions: what each leads to, and the like. (Printed by mkcl.py.)
-/
import Derived.Test.YtiknfjdjbhbjhaaGreatDoorFCl
import Derived.Test.YtiknfjdjbhbjhaaGreatDoorProg
import Derived.KernelRfl
set_option maxRecDepth 100000
namespace Go.Proofs
open Go
noncomputable def Tryz.fr6 : List Func := [Tryz.f162, Tryz.f163, Tryz.f164, Tryz.f165, Tryz.f166, Tryz.f167, Tryz.f168, Tryz.f169, Tryz.f170, Tryz.f171, Tryz.f172, Tryz.f173, Tryz.f174, Tryz.f175, Tryz.f176, Tryz.f177, Tryz.f178, Tryz.f179, Tryz.f180, Tryz.f181, Tryz.f182, Tryz.f183, Tryz.f184, Tryz.f185, Tryz.f186, Tryz.f187, Tryz.f188]
def Tryz.tlt6 : List (List Nat) := [[], [261, 262, 261, 98, 262, 263], [264], [], [], [265, 265, 265, 265, 265, 265, 266], [], [], [261], [267], [100, 59], [47, 194, 194, 194, 268, 194, 194], [], [269], [178, 270, 175, 179, 177, 177, 175, 178, 177], [175, 271], [272, 271], [177, 175, 274, 273, 177, 275], [177, 175, 276], [277], [], [108, 278], [183, 186, 185], [], [183, 185, 108, 186, 185, 108, 109, 186], [183, 188, 185], [108, 109, 279, 109, 186]]
theorem Tryz.hlt6 : Tryz.fr6.map Tryz.prog.leadsTo = Tryz.tlt6 := by kernel_rfl
def Tryz.tip6 : List (Option String) := [none, none, none, some "internal/bytealg.IndexByte", none, none, none, none, none, none, none, none, none, none, none, none, none, none, none, none, none, none, none, none, none, none, none]
theorem Tryz.hip6 : Tryz.fr6.map Go.Cl.ipq = Tryz.tip6 := by kernel_rfl
def Tryz.tuf6 : List (Bool) := [false, false, false, false, false, false, false, false, false, false, false, false, false, false, true, false, false, false, false, false, true, false, false, true, false, false, false]
theorem Tryz.huf6 : Tryz.fr6.map Go.Cl.ufq = Tryz.tuf6 := by kernel_rfl
def Tryz.tgn6 : List (List Nat) := [[], [0, 0, 0], [], [], [], [], [], [], [], [], [], [], [], [], [], [], [], [], [], [], [], [], [], [], [], [], []]
theorem Tryz.hgn6 : Tryz.fr6.map Go.Cl.gnq = Tryz.tgn6 := by kernel_rfl
def Tryz.ter6 : List (Option String) := [none, none, none, none, none, none, none, none, none, none, none, none, none, none, none, none, none, none, none, none, none, none, none, none, none, none, none]
theorem Tryz.her6 : Tryz.fr6.map Go.Cl.erq = Tryz.ter6 := by kernel_rfl
theorem Tryz.hgo6 : Tryz.fr6.any Func.goes = false := by kernel_rfl
noncomputable def Tryz.fr7 : List Func := [Tryz.f189, Tryz.f190, Tryz.f191, Tryz.f192, Tryz.f193, Tryz.f194, Tryz.f195, Tryz.f196, Tryz.f197, Tryz.f198, Tryz.f199, Tryz.f200, Tryz.f201, Tryz.f202, Tryz.f203, Tryz.f204, Tryz.f205, Tryz.f206, Tryz.f207, Tryz.f208, Tryz.f209, Tryz.f210, Tryz.f211, Tryz.f212, Tryz.f213, Tryz.f214, Tryz.f215]
def Tryz.tlt7 : List (List Nat) := [[108, 109, 280], [279], [113], [111, 113, 111, 191, 113], [113, 111], [84], [114, 113, 281, 114, 113, 195, 113, 281, 114, 282, 113], [283], [49, 51], [284, 284, 284, 284], [], [], [], [118, 203, 120, 201, 200, 200, 200, 122], [122, 118, 122], [200, 123, 285, 123, 68, 118, 200, 200, 204, 200, 123, 68, 285, 123, 68, 286, 120], [205, 205, 205, 205, 287, 288, 289], [], [], [], [82], [], [212], [290, 290, 290], [], [], []]
theorem Tryz.hlt7 : Tryz.fr7.map Tryz.prog.leadsTo = Tryz.tlt7 := by kernel_rfl
def Tryz.tip7 : List (Option String) := [none, none, none, none, none, none, none, none, none, none, none, none, none, none, none, none, none, none, none, none, none, none, none, none, none, none, none]
theorem Tryz.hip7 : Tryz.fr7.map Go.Cl.ipq = Tryz.tip7 := by kernel_rfl
def Tryz.tuf7 : List (Bool) := [false, false, true, false, false, false, false, false, false, false, false, false, false, false, false, false, false, false, false, true, false, false, false, false, false, false, false]
theorem Tryz.huf7 : Tryz.fr7.map Go.Cl.ufq = Tryz.tuf7 := by kernel_rfl
def Tryz.tgn7 : List (List Nat) := [[], [], [], [], [], [], [], [], [], [], [], [], [], [], [], [], [], [], [], [], [], [], [], [], [], [], []]
theorem Tryz.hgn7 : Tryz.fr7.map Go.Cl.gnq = Tryz.tgn7 := by kernel_rfl
def Tryz.ter7 : List (Option String) := [none, none, none, none, none, none, none, none, none, none, none, none, none, none, none, none, none, none, none, none, none, none, none, none, none, none, none]
theorem Tryz.her7 : Tryz.fr7.map Go.Cl.erq = Tryz.ter7 := by kernel_rfl
theorem Tryz.hgo7 : Tryz.fr7.any Func.goes = false := by kernel_rfl
noncomputable def Tryz.fr8 : List Func := [Tryz.f216, Tryz.f217, Tryz.f218, Tryz.f219, Tryz.f220, Tryz.f221, Tryz.f222, Tryz.f223, Tryz.f224, Tryz.f225, Tryz.f226, Tryz.f227, Tryz.f228, Tryz.f229, Tryz.f230, Tryz.f231, Tryz.f232, Tryz.f233, Tryz.f234, Tryz.f235, Tryz.f236, Tryz.f237, Tryz.f238, Tryz.f239, Tryz.f240, Tryz.f241, Tryz.f242]
def Tryz.tlt8 : List (List Nat) := [[291, 292], [293, 294, 295, 296, 298, 297, 299, 300, 301, 297], [302, 303, 304, 305, 306], [306, 307, 220], [308, 222, 309, 310], [], [], [], [], [], [311], [], [312, 313], [312, 313], [257, 258, 312, 313], [314, 257, 258, 313], [314, 313], [315, 312, 313], [315, 315, 316, 314, 314, 317, 317, 312, 313], [257, 314, 314, 318, 318, 318, 318, 317, 312, 313], [257], [314, 236, 313], [319, 312, 313], [315, 316, 316, 319, 314, 312, 313], [257, 312, 313], [320, 314, 318, 312, 313], [320, 314, 321, 314, 313]]
theorem Tryz.hlt8 : Tryz.fr8.map Tryz.prog.leadsTo = Tryz.tlt8 := by kernel_rfl
def Tryz.tip8 : List (Option String) := [none, none, none, none, none, none, none, none, none, none, none, none, none, none, none, none, none, none, none, none, none, none, none, none, none, none, none]
theorem Tryz.hip8 : Tryz.fr8.map Go.Cl.ipq = Tryz.tip8 := by kernel_rfl
def Tryz.tuf8 : List (Bool) := [false, true, true, false, true, false, false, false, false, false, false, false, false, false, false, false, false, false, false, false, false, false, false, false, false, false, false]
theorem Tryz.huf8 : Tryz.fr8.map Go.Cl.ufq = Tryz.tuf8 := by kernel_rfl
def Tryz.tgn8 : List (List Nat) := [[], [], [], [], [], [], [], [], [], [], [], [], [], [], [], [], [], [], [], [], [], [], [], [], [], [], []]
theorem Tryz.hgn8 : Tryz.fr8.map Go.Cl.gnq = Tryz.tgn8 := by kernel_rfl
def Tryz.ter8 : List (Option String) := [none, none, none, none, none, none, none, none, none, none, none, none, none, none, none, none, none, none, none, none, none, none, none, none, none, none, none]
theorem Tryz.her8 : Tryz.fr8.map Go.Cl.erq = Tryz.ter8 := by kernel_rfl
theorem Tryz.hgo8 : Tryz.fr8.any Func.goes = false := by kernel_rfl
end Go.Proofs
