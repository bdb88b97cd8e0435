/-
  Tables of functions: what each leads to, and the like. (Printed by mkcl.py.)
-/
import Derived.Test.YtiknfjdjbhbjhaaGreatDoorFCl
import Derived.Test.YtiknfjdjbhbjhaaGreatDoorProg
import Derived.KernelRfl
set_option maxRecDepth 100000
namespace Go.Proofs
open Go
noncomputable def Tryz.fr3 : List Func := [Tryz.f81, Tryz.f82, Tryz.f83, Tryz.f84, Tryz.f85, Tryz.f86, Tryz.f87, Tryz.f88, Tryz.f89, Tryz.f90, Tryz.f91, Tryz.f92, Tryz.f93, Tryz.f94, Tryz.f95, Tryz.f96, Tryz.f97, Tryz.f98, Tryz.f99, Tryz.f100, Tryz.f101, Tryz.f102, Tryz.f103, Tryz.f104, Tryz.f105, Tryz.f106, Tryz.f107]
def Tryz.tlt3 : List (List Nat) := [[135, 136, 137, 138, 139, 140, 141, 142, 81, 81], [143, 144], [], [145], [146, 147, 148, 149], [34, 150], [151, 152, 153, 153, 154, 155, 156, 157, 158, 159], [160, 161], [162, 162], [], [], [], [163], [], [91, 164], [165], [], [], [166], [167], [168], [168], [168, 24, 169], [168, 24, 169], [170, 171, 170], [75, 77, 75, 78, 76, 80, 79, 78, 77, 75, 78, 76, 172, 76, 78, 173, 174, 171], [175, 176, 177, 175, 178, 179, 180, 178, 177, 178, 177, 178, 179, 180]]
theorem Tryz.hlt3 : Tryz.fr3.map Tryz.prog.leadsTo = Tryz.tlt3 := by kernel_rfl
def Tryz.tip3 : List (Option String) := [none, none, none, none, none, none, none, none, none, none, none, some "internal/bytealg.CountString", none, none, none, none, some "internal/bytealg.Index", none, none, none, none, none, none, none, none, none, none]
theorem Tryz.hip3 : Tryz.fr3.map Go.Cl.ipq = Tryz.tip3 := by kernel_rfl
def Tryz.tuf3 : List (Bool) := [true, false, false, false, false, false, true, false, false, false, false, false, false, false, false, false, false, false, false, false, false, false, false, false, false, false, false]
theorem Tryz.huf3 : Tryz.fr3.map Go.Cl.ufq = Tryz.tuf3 := by kernel_rfl
def Tryz.tgn3 : List (List Nat) := [[], [], [], [], [], [], [], [], [], [], [], [], [], [], [], [], [], [], [], [], [1], [2], [], [], [], [], []]
theorem Tryz.hgn3 : Tryz.fr3.map Go.Cl.gnq = Tryz.tgn3 := by kernel_rfl
def Tryz.ter3 : List (Option String) := [none, none, none, none, none, none, none, none, none, none, none, none, none, none, none, none, some "internal/bytealg.MaxLen", none, none, none, none, none, none, none, none, none, none]
theorem Tryz.her3 : Tryz.fr3.map Go.Cl.erq = Tryz.ter3 := by kernel_rfl
theorem Tryz.hgo3 : Tryz.fr3.any Func.goes = false := by kernel_rfl
noncomputable def Tryz.fr4 : List Func := [Tryz.f108, Tryz.f109, Tryz.f110, Tryz.f111, Tryz.f112, Tryz.f113, Tryz.f114, Tryz.f115, Tryz.f116, Tryz.f117, Tryz.f118, Tryz.f119, Tryz.f120, Tryz.f121, Tryz.f122, Tryz.f123, Tryz.f124, Tryz.f125, Tryz.f126, Tryz.f127, Tryz.f128, Tryz.f129, Tryz.f130, Tryz.f131, Tryz.f132, Tryz.f133, Tryz.f134]
def Tryz.tlt4 : List (List Nat) := [[], [182, 181], [183, 109, 184, 183, 109, 187, 183, 188, 189, 185, 183, 190, 188, 189, 185], [113, 113, 111, 113, 111, 113, 111, 191, 113, 192], [113, 193, 191, 113, 192], [46, 194, 194], [113, 195, 113], [196], [], [51, 51, 49, 50, 49, 197, 198, 199], [200], [201], [118], [68, 120, 118, 119, 122, 68, 118, 120, 202], [200, 122, 68, 120, 122, 68, 120, 68, 118, 203, 120, 202, 119, 68], [68, 120, 118, 204], [70], [205, 206, 25, 125], [73], [], [], [73], [129, 129], [128, 73, 128, 73, 73, 127, 128, 73, 127, 128, 129, 73, 127, 128, 73, 127, 128, 73, 127, 129, 128, 129, 128, 127, 129, 128, 129, 128, 127, 128, 129, 128, 127, 128, 128, 73], [28, 128, 207, 128, 128, 128, 128, 128, 128, 129, 128, 127, 128, 73, 128, 129, 128, 127, 128, 73, 73, 127, 73, 128, 127, 73, 128, 73, 128, 127, 73, 73, 73, 128, 128, 128, 127, 73, 128, 129, 128, 127, 128, 73, 128, 127, 128, 73, 128, 73, 128, 127], [], []]
theorem Tryz.hlt4 : Tryz.fr4.map Tryz.prog.leadsTo = Tryz.tlt4 := by kernel_rfl
def Tryz.tip4 : List (Option String) := [none, none, none, none, none, none, none, none, none, none, none, none, none, none, none, none, none, none, none, none, none, none, none, none, none, none, none]
theorem Tryz.hip4 : Tryz.fr4.map Go.Cl.ipq = Tryz.tip4 := by kernel_rfl
def Tryz.tuf4 : List (Bool) := [false, false, false, false, false, false, false, false, false, false, false, false, false, false, false, false, false, false, false, false, false, false, false, false, false, true, false]
theorem Tryz.huf4 : Tryz.fr4.map Go.Cl.ufq = Tryz.tuf4 := by kernel_rfl
def Tryz.tgn4 : List (List Nat) := [[], [], [], [], [], [], [], [], [], [], [], [], [], [], [], [], [], [], [], [], [], [], [], [], [], [], []]
theorem Tryz.hgn4 : Tryz.fr4.map Go.Cl.gnq = Tryz.tgn4 := by kernel_rfl
def Tryz.ter4 : List (Option String) := [none, none, none, none, none, none, none, none, none, none, none, none, none, none, none, none, none, none, none, none, none, none, none, none, none, none, none]
theorem Tryz.her4 : Tryz.fr4.map Go.Cl.erq = Tryz.ter4 := by kernel_rfl
theorem Tryz.hgo4 : Tryz.fr4.any Func.goes = false := by kernel_rfl
noncomputable def Tryz.fr5 : List Func := [Tryz.f135, Tryz.f136, Tryz.f137, Tryz.f138, Tryz.f139, Tryz.f140, Tryz.f141, Tryz.f142, Tryz.f143, Tryz.f144, Tryz.f145, Tryz.f146, Tryz.f147, Tryz.f148, Tryz.f149, Tryz.f150, Tryz.f151, Tryz.f152, Tryz.f153, Tryz.f154, Tryz.f155, Tryz.f156, Tryz.f157, Tryz.f158, Tryz.f159, Tryz.f160, Tryz.f161]
def Tryz.tlt5 : List (List Nat) := [[], [208, 208], [209, 210], [211, 211, 211, 212], [], [], [], [], [], [], [], [], [144, 213, 214], [], [215, 216], [217, 218], [219, 220, 221], [], [], [222, 222, 222, 222, 223, 222, 224], [], [225, 226, 222, 227], [228, 229, 230, 231, 232, 233, 234, 235, 236, 237, 238, 239, 240, 241, 242, 243, 244, 245, 246, 247, 248, 249, 250, 251, 252, 253, 254, 255, 256], [257, 258], [], [159, 257, 259], [260]]
theorem Tryz.hlt5 : Tryz.fr5.map Tryz.prog.leadsTo = Tryz.tlt5 := by kernel_rfl
def Tryz.tip5 : List (Option String) := [none, none, none, none, none, none, none, none, none, none, some "internal/abi.NoEscape", none, none, none, none, none, none, none, none, none, none, none, none, none, none, none, none]
theorem Tryz.hip5 : Tryz.fr5.map Go.Cl.ipq = Tryz.tip5 := by kernel_rfl
def Tryz.tuf5 : List (Bool) := [true, false, false, false, false, true, true, true, false, false, false, false, false, false, false, false, false, false, false, false, false, false, false, false, false, false, false]
theorem Tryz.huf5 : Tryz.fr5.map Go.Cl.ufq = Tryz.tuf5 := by kernel_rfl
def Tryz.tgn5 : List (List Nat) := [[], [], [], [], [], [], [], [], [], [], [], [], [3], [], [], [], [], [], [], [], [], [], [], [], [], [], []]
theorem Tryz.hgn5 : Tryz.fr5.map Go.Cl.gnq = Tryz.tgn5 := by kernel_rfl
def Tryz.ter5 : List (Option String) := [none, none, none, none, none, none, none, none, none, none, none, none, none, none, none, none, none, none, none, none, none, none, none, none, none, none, none]
theorem Tryz.her5 : Tryz.fr5.map Go.Cl.erq = Tryz.ter5 := by kernel_rfl
theorem Tryz.hgo5 : Tryz.fr5.any Func.goes = false := by kernel_rfl
end Go.Proofs
