/-
  Tables of functions: what each leads to, and the like. (Printed by mkcl.py.)
-/
import Derived.Test.YtiknfjdjbhbjhaaGreatDoorFCl
import Derived.Test.YtiknfjdjbhbjhaaGreatDoorProg
import Derived.KernelRfl
set_option maxRecDepth 100000
namespace Go.Proofs
open Go
noncomputable def Tryz.fr9 : List Func := [Tryz.f243, Tryz.f244, Tryz.f245, Tryz.f246, Tryz.f247, Tryz.f248, Tryz.f249, Tryz.f250, Tryz.f251, Tryz.f252, Tryz.f253, Tryz.f254, Tryz.f255, Tryz.f256, Tryz.f257, Tryz.f258, Tryz.f259, Tryz.f260, Tryz.f261, Tryz.f262, Tryz.f263, Tryz.f264, Tryz.f265, Tryz.f266, Tryz.f267, Tryz.f268, Tryz.f269]
def Tryz.tlt9 : List (List Nat) := [[320, 314, 312, 313], [320, 315, 322, 316, 314, 314, 312, 313], [314, 322, 312, 313], [257, 319, 323, 314, 323, 312, 313], [314, 318, 312, 313], [315, 318, 316, 314, 318, 312, 313], [324], [315, 316, 324], [257, 325, 325, 159, 312, 313], [315, 326, 314, 313], [315, 327, 314, 313], [314, 316], [159], [319, 323, 312, 313], [], [], [328], [], [329], [], [330], [], [], [265, 265, 265, 265, 265, 265], [], [167, 59], []]
theorem Tryz.hlt9 : Tryz.fr9.map Tryz.prog.leadsTo = Tryz.tlt9 := by kernel_rfl
def Tryz.tip9 : List (Option String) := [none, none, none, none, none, none, none, none, none, none, none, none, none, none, none, none, none, none, none, some "internal/bytealg.IndexString", none, none, none, none, none, none, none]
theorem Tryz.hip9 : Tryz.fr9.map Go.Cl.ipq = Tryz.tip9 := by kernel_rfl
def Tryz.tuf9 : List (Bool) := [false, false, false, false, false, false, false, false, false, false, false, false, false, false, false, false, true, false, false, false, false, false, false, false, false, false, false]
theorem Tryz.huf9 : Tryz.fr9.map Go.Cl.ufq = Tryz.tuf9 := by kernel_rfl
def Tryz.tgn9 : List (List Nat) := [[], [], [], [], [], [], [], [], [], [], [], [], [], [], [], [], [], [], [], [], [], [4, 5], [], [], [], [], []]
theorem Tryz.hgn9 : Tryz.fr9.map Go.Cl.gnq = Tryz.tgn9 := by kernel_rfl
def Tryz.ter9 : List (Option String) := [none, none, none, none, none, none, none, none, none, none, none, none, none, none, none, none, none, none, none, some "internal/bytealg.MaxLen", none, none, none, none, none, none, none]
theorem Tryz.her9 : Tryz.fr9.map Go.Cl.erq = Tryz.ter9 := by kernel_rfl
theorem Tryz.hgo9 : Tryz.fr9.any Func.goes = false := by kernel_rfl
noncomputable def Tryz.fr10 : List Func := [Tryz.f270, Tryz.f271, Tryz.f272, Tryz.f273, Tryz.f274, Tryz.f275, Tryz.f276, Tryz.f277, Tryz.f278, Tryz.f279, Tryz.f280, Tryz.f281, Tryz.f282, Tryz.f283, Tryz.f284, Tryz.f285, Tryz.f286, Tryz.f287, Tryz.f288, Tryz.f289, Tryz.f290, Tryz.f291, Tryz.f292, Tryz.f293, Tryz.f294, Tryz.f295, Tryz.f296]
def Tryz.tlt10 : List (List Nat) := [[175, 270, 175, 177, 270, 175, 177, 175, 270, 273, 177, 275, 178], [331], [], [175], [178, 270], [175, 270, 273, 177, 332, 270], [269, 180, 269, 333, 175, 269, 334, 180, 335, 177], [], [40], [183, 186, 185], [189, 278, 186, 185, 186, 336, 185, 337, 338, 109, 109, 336, 339, 185, 340, 336, 189, 185, 336, 189, 185, 189, 185, 336, 189, 185, 109, 336, 185], [24, 113, 341, 113, 113, 113, 113, 113, 281, 191, 113, 113, 111, 113, 281, 191, 113, 113, 112, 114, 342], [113, 111, 113, 281, 281, 191, 113, 281, 191, 113, 281, 191, 113, 113, 281], [], [49], [343], [200, 119, 122, 68, 118, 343, 200, 68, 344, 68, 68, 68, 344, 68, 200, 200, 200, 68, 344], [], [287, 287], [345], [], [], [], [64, 346], [], [], []]
theorem Tryz.hlt10 : Tryz.fr10.map Tryz.prog.leadsTo = Tryz.tlt10 := by kernel_rfl
def Tryz.tip10 : List (Option String) := [none, none, none, none, none, none, none, none, none, none, none, none, none, none, none, none, none, none, none, none, none, none, none, none, none, none, none]
theorem Tryz.hip10 : Tryz.fr10.map Go.Cl.ipq = Tryz.tip10 := by kernel_rfl
def Tryz.tuf10 : List (Bool) := [false, false, false, true, false, false, false, true, false, false, false, false, false, false, false, false, false, false, false, false, true, false, false, false, false, false, false]
theorem Tryz.huf10 : Tryz.fr10.map Go.Cl.ufq = Tryz.tuf10 := by kernel_rfl
def Tryz.tgn10 : List (List Nat) := [[], [], [], [], [], [], [], [], [], [], [], [], [], [], [], [], [], [], [], [], [], [6], [7], [], [], [], []]
theorem Tryz.hgn10 : Tryz.fr10.map Go.Cl.gnq = Tryz.tgn10 := by kernel_rfl
def Tryz.ter10 : List (Option String) := [none, none, none, none, none, none, none, none, none, none, none, none, none, none, none, none, none, none, none, none, none, none, none, none, none, none, none]
theorem Tryz.her10 : Tryz.fr10.map Go.Cl.erq = Tryz.ter10 := by kernel_rfl
theorem Tryz.hgo10 : Tryz.fr10.any Func.goes = false := by kernel_rfl
noncomputable def Tryz.fr11 : List Func := [Tryz.f297, Tryz.f298, Tryz.f299, Tryz.f300, Tryz.f301, Tryz.f302, Tryz.f303, Tryz.f304, Tryz.f305, Tryz.f306, Tryz.f307, Tryz.f308, Tryz.f309, Tryz.f310, Tryz.f311, Tryz.f312, Tryz.f313, Tryz.f314, Tryz.f315, Tryz.f316, Tryz.f317, Tryz.f318, Tryz.f319, Tryz.f320, Tryz.f321, Tryz.f322, Tryz.f323]
def Tryz.tlt11 : List (List Nat) := [[347], [134], [348, 350, 349, 297], [], [351, 352, 353, 297], [], [355, 354], [357, 358, 357, 359, 360, 361, 362, 361, 364, 363, 364, 365, 360, 366, 357, 361, 363, 363, 367, 363, 368, 369], [], [370, 371, 372, 373, 374, 375], [376, 226, 378, 226, 379, 226, 380, 226, 381], [], [382, 383, 377, 384, 383, 385, 383, 385, 386, 388, 387, 386, 387, 386, 387, 383, 385, 386, 387, 389, 387, 389, 383, 386, 387, 390, 391, 387, 383, 386, 387, 389, 385, 393, 385, 386, 387, 389, 393, 386, 384, 394, 388, 387, 395], [384, 396], [], [257, 325], [257], [257, 325], [257, 325], [397], [], [398], [399, 400, 399, 400, 397], [315, 316], [323], [401], [322, 402, 322, 403]]
theorem Tryz.hlt11 : Tryz.fr11.map Tryz.prog.leadsTo = Tryz.tlt11 := by kernel_rfl
def Tryz.tip11 : List (Option String) := [none, none, none, none, none, none, none, none, none, none, none, none, none, none, none, none, none, none, none, none, none, none, none, none, none, none, none]
theorem Tryz.hip11 : Tryz.fr11.map Go.Cl.ipq = Tryz.tip11 := by kernel_rfl
def Tryz.tuf11 : List (Bool) := [false, false, false, false, false, false, false, false, false, false, false, false, true, false, true, false, false, false, false, false, false, false, false, false, false, false, false]
theorem Tryz.huf11 : Tryz.fr11.map Go.Cl.ufq = Tryz.tuf11 := by kernel_rfl
def Tryz.tgn11 : List (List Nat) := [[], [], [], [], [], [], [], [], [], [], [], [], [], [], [], [], [], [], [], [], [], [], [], [], [], [], []]
theorem Tryz.hgn11 : Tryz.fr11.map Go.Cl.gnq = Tryz.tgn11 := by kernel_rfl
def Tryz.ter11 : List (Option String) := [none, none, none, none, none, none, none, none, none, none, none, none, none, none, none, none, none, none, none, none, none, none, none, none, none, none, none]
theorem Tryz.her11 : Tryz.fr11.map Go.Cl.erq = Tryz.ter11 := by kernel_rfl
theorem Tryz.hgo11 : Tryz.fr11.any Func.goes = false := by kernel_rfl
end Go.Proofs
