/-
  Tables of functions: what each leads to, and the like. (Printed by mkcl.py.)
-/
import Derived.Test.YtiknfjdjbhbjhaaGreatDoorFCl
import Derived.Test.YtiknfjdjbhbjhaaGreatDoorProg
import Derived.KernelRfl
set_option maxRecDepth 100000
namespace Go.Proofs
open Go
noncomputable def Tryz.fr0 : List Func := [Tryz.f0, Tryz.f1, Tryz.f2, Tryz.f3, Tryz.f4, Tryz.f5, Tryz.f6, Tryz.f7, Tryz.f8, Tryz.f9, Tryz.f10, Tryz.f11, Tryz.f12, Tryz.f13, Tryz.f14, Tryz.f15, Tryz.f16, Tryz.f17, Tryz.f18, Tryz.f19, Tryz.f20, Tryz.f21, Tryz.f22, Tryz.f23, Tryz.f24, Tryz.f25, Tryz.f26]
def Tryz.tlt0 : List (List Nat) := [[], [], [1], [9, 10, 11, 12, 13, 14], [15, 16, 11, 12, 17], [10, 12, 12, 15, 16, 15], [18, 19, 12, 20], [9, 10, 12, 12, 9, 18, 10], [21, 22, 12, 20], [23, 24], [23], [25], [10, 15, 26], [27, 28], [27], [23, 29], [23, 30], [27], [31, 31, 32, 9, 33], [28, 11, 13], [], [34, 35, 24, 23], [36, 37, 28, 11], [38, 39, 41, 42, 43, 45, 46, 47], [48], [49, 50, 51, 49], [23, 52]]
theorem Tryz.hlt0 : Tryz.fr0.map Tryz.prog.leadsTo = Tryz.tlt0 := by kernel_rfl
def Tryz.tip0 : List (Option String) := [some "main.main", some "gosem.cut", none, none, none, none, none, none, none, none, none, none, none, none, none, none, none, none, none, none, none, none, none, none, none, none, none]
theorem Tryz.hip0 : Tryz.fr0.map Go.Cl.ipq = Tryz.tip0 := by kernel_rfl
def Tryz.tuf0 : List (Bool) := [false, false, false, false, false, false, false, false, false, false, false, false, false, false, false, false, false, false, false, false, false, false, false, false, false, false, false]
theorem Tryz.huf0 : Tryz.fr0.map Go.Cl.ufq = Tryz.tuf0 := by kernel_rfl
def Tryz.tgn0 : List (List Nat) := [[], [], [], [], [], [], [], [], [], [], [], [], [], [], [], [], [], [], [], [], [], [], [], [], [], [], []]
theorem Tryz.hgn0 : Tryz.fr0.map Go.Cl.gnq = Tryz.tgn0 := by kernel_rfl
def Tryz.ter0 : List (Option String) := [none, none, none, none, none, none, none, none, none, none, none, none, none, none, none, none, none, none, none, none, none, none, none, none, none, none, none]
theorem Tryz.her0 : Tryz.fr0.map Go.Cl.erq = Tryz.ter0 := by kernel_rfl
theorem Tryz.hgo0 : Tryz.fr0.any Func.goes = false := by kernel_rfl
noncomputable def Tryz.fr1 : List Func := [Tryz.f27, Tryz.f28, Tryz.f29, Tryz.f30, Tryz.f31, Tryz.f32, Tryz.f33, Tryz.f34, Tryz.f35, Tryz.f36, Tryz.f37, Tryz.f38, Tryz.f39, Tryz.f40, Tryz.f41, Tryz.f42, Tryz.f43, Tryz.f44, Tryz.f45, Tryz.f46, Tryz.f47, Tryz.f48, Tryz.f49, Tryz.f50, Tryz.f51, Tryz.f52, Tryz.f53]
def Tryz.tlt1 : List (List Nat) := [[], [], [53, 54, 55], [56], [57], [58, 59], [], [60, 61, 62, 63], [64, 65, 66], [67, 68, 69, 70], [71, 73, 72], [74], [40], [75, 77, 75, 78, 76, 80, 79], [], [82, 81], [44], [83, 83], [], [84], [], [85], [], [], [], [86, 87, 88], [89, 90, 90]]
theorem Tryz.hlt1 : Tryz.fr1.map Tryz.prog.leadsTo = Tryz.tlt1 := by kernel_rfl
def Tryz.tip1 : List (Option String) := [none, none, none, none, none, none, none, none, none, none, none, none, none, none, none, none, none, none, none, none, none, none, none, none, none, none, none]
theorem Tryz.hip1 : Tryz.fr1.map Go.Cl.ipq = Tryz.tip1 := by kernel_rfl
def Tryz.tuf1 : List (Bool) := [false, false, false, false, false, false, false, true, false, false, false, false, false, false, false, false, false, false, false, false, false, false, false, false, false, false, false]
theorem Tryz.huf1 : Tryz.fr1.map Go.Cl.ufq = Tryz.tuf1 := by kernel_rfl
def Tryz.tgn1 : List (List Nat) := [[], [], [], [], [], [], [], [], [], [], [], [], [], [], [], [], [], [], [], [], [], [], [], [], [], [], []]
theorem Tryz.hgn1 : Tryz.fr1.map Go.Cl.gnq = Tryz.tgn1 := by kernel_rfl
def Tryz.ter1 : List (Option String) := [none, none, none, none, none, none, none, none, none, none, none, none, none, none, none, none, none, none, none, none, none, none, none, none, none, none, none]
theorem Tryz.her1 : Tryz.fr1.map Go.Cl.erq = Tryz.ter1 := by kernel_rfl
theorem Tryz.hgo1 : Tryz.fr1.any Func.goes = false := by kernel_rfl
noncomputable def Tryz.fr2 : List Func := [Tryz.f54, Tryz.f55, Tryz.f56, Tryz.f57, Tryz.f58, Tryz.f59, Tryz.f60, Tryz.f61, Tryz.f62, Tryz.f63, Tryz.f64, Tryz.f65, Tryz.f66, Tryz.f67, Tryz.f68, Tryz.f69, Tryz.f70, Tryz.f71, Tryz.f72, Tryz.f73, Tryz.f74, Tryz.f75, Tryz.f76, Tryz.f77, Tryz.f78, Tryz.f79, Tryz.f80]
def Tryz.tlt2 : List (List Nat) := [[91, 92, 93], [94], [95, 54, 93], [96, 33, 97, 96, 33, 98, 97, 96, 33, 99], [100], [101, 102, 103, 104], [105, 106], [], [107], [63], [63, 108, 109, 110], [111, 112, 113, 113, 113, 113, 113, 112, 114, 113, 111, 113, 112, 114], [47, 115], [116, 117, 116], [], [118, 119, 68, 118, 120, 120, 118, 119, 68, 121, 122, 120, 120, 68, 118, 119, 120, 119, 120, 68, 68, 68, 119, 121, 123], [70], [124, 125], [], [126, 128, 126, 128, 127, 128, 126, 128, 127, 128, 73, 127, 128, 73, 73, 127, 128, 73, 128, 73, 73, 127, 128, 129, 128, 130, 127, 128, 128, 73, 127, 128, 73, 127, 128, 129, 128, 130, 127, 131, 132], [], [], [], [133], [], [134], []]
theorem Tryz.hlt2 : Tryz.fr2.map Tryz.prog.leadsTo = Tryz.tlt2 := by kernel_rfl
def Tryz.tip2 : List (Option String) := [none, none, none, none, none, none, none, none, none, none, none, none, none, none, none, none, none, none, none, none, none, none, none, none, none, none, none]
theorem Tryz.hip2 : Tryz.fr2.map Go.Cl.ipq = Tryz.tip2 := by kernel_rfl
def Tryz.tuf2 : List (Bool) := [false, false, false, false, false, false, false, false, false, false, false, true, false, false, false, false, false, false, false, false, true, false, true, false, false, false, false]
theorem Tryz.huf2 : Tryz.fr2.map Go.Cl.ufq = Tryz.tuf2 := by kernel_rfl
def Tryz.tgn2 : List (List Nat) := [[], [], [], [0], [], [], [], [], [], [], [], [], [], [], [], [], [], [], [], [], [], [], [], [], [], [], []]
theorem Tryz.hgn2 : Tryz.fr2.map Go.Cl.gnq = Tryz.tgn2 := by kernel_rfl
def Tryz.ter2 : List (Option String) := [none, none, none, none, none, none, none, none, none, none, none, none, none, none, none, none, none, none, none, none, none, none, none, none, none, none, none]
theorem Tryz.her2 : Tryz.fr2.map Go.Cl.erq = Tryz.ter2 := by kernel_rfl
theorem Tryz.hgo2 : Tryz.fr2.any Func.goes = false := by kernel_rfl
end Go.Proofs
