/-
  Tables of functions: what each leads to, and the like. (Printed by mkcl.py.)
-/
import Derived.Test.YtiknfjdjbhbjhaaGreatDoorFCl
import Derived.Test.YtiknfjdjbhbjhaaGreatDoorProg
import Derived.KernelRfl
set_option maxRecDepth 100000
namespace Go.Proofs
open Go
noncomputable def Tryz.fr21 : List Func := [Tryz.f567, Tryz.f568, Tryz.f569, Tryz.f570, Tryz.f571, Tryz.f572, Tryz.f573, Tryz.f574, Tryz.f575, Tryz.f576, Tryz.f577, Tryz.f578, Tryz.f579, Tryz.f580, Tryz.f581, Tryz.f582, Tryz.f583, Tryz.f584, Tryz.f585, Tryz.f586, Tryz.f587, Tryz.f588, Tryz.f589, Tryz.f590, Tryz.f591, Tryz.f592, Tryz.f593]
def Tryz.tlt21 : List (List Nat) := [[569, 570, 568], [579], [642], [571], [361, 363], [573], [360, 569, 586, 363, 358, 365, 569, 439, 569, 586, 361, 363, 643, 644, 591, 645, 590, 592], [575, 569, 568], [646], [368], [575, 569, 568], [361, 458, 579, 561], [363], [575, 569, 568], [458, 561], [361, 361, 363], [363, 363, 456, 363, 456], [569, 569, 568], [569, 586, 363, 360, 523, 363, 587], [571, 571, 579, 363], [361, 458, 579, 561], [569, 569, 568], [448, 363, 587], [433, 363, 363, 363], [647], [363], [449]]
theorem Tryz.hlt21 : Tryz.fr21.map Tryz.prog.leadsTo = Tryz.tlt21 := by kernel_rfl
def Tryz.tip21 : List (Option String) := [none, none, none, none, none, none, none, none, none, none, none, none, none, none, none, none, none, none, none, none, none, none, none, none, none, none, none]
theorem Tryz.hip21 : Tryz.fr21.map Go.Cl.ipq = Tryz.tip21 := by kernel_rfl
def Tryz.tuf21 : List (Bool) := [false, true, false, false, false, false, false, false, false, false, false, false, false, false, false, false, true, false, true, true, false, false, true, true, false, false, false]
theorem Tryz.huf21 : Tryz.fr21.map Go.Cl.ufq = Tryz.tuf21 := by kernel_rfl
def Tryz.tgn21 : List (List Nat) := [[], [], [], [], [], [], [], [], [], [], [], [], [], [], [], [], [], [], [], [], [], [], [], [], [], [], []]
theorem Tryz.hgn21 : Tryz.fr21.map Go.Cl.gnq = Tryz.tgn21 := by kernel_rfl
def Tryz.ter21 : List (Option String) := [none, none, none, none, none, none, none, none, none, none, none, none, none, none, none, none, none, none, none, none, none, none, none, none, none, none, none]
theorem Tryz.her21 : Tryz.fr21.map Go.Cl.erq = Tryz.ter21 := by kernel_rfl
theorem Tryz.hgo21 : Tryz.fr21.any Func.goes = false := by kernel_rfl
noncomputable def Tryz.fr22 : List Func := [Tryz.f594, Tryz.f595, Tryz.f596, Tryz.f597, Tryz.f598, Tryz.f599, Tryz.f600, Tryz.f601, Tryz.f602, Tryz.f603, Tryz.f604, Tryz.f605, Tryz.f606, Tryz.f607, Tryz.f608, Tryz.f609, Tryz.f610, Tryz.f611, Tryz.f612, Tryz.f613, Tryz.f614, Tryz.f615, Tryz.f616, Tryz.f617, Tryz.f618, Tryz.f619, Tryz.f620]
def Tryz.tlt22 : List (List Nat) := [[360, 648, 428], [506, 449, 441], [], [436, 628], [565, 363, 368, 456], [542], [361, 363, 361, 649, 596, 363], [429], [361], [458], [458], [458], [606], [432, 560, 608, 609, 562, 569, 610, 568, 565, 598, 611, 592], [569, 575, 568], [368], [361, 363], [361, 361, 363, 363], [429, 650, 499], [357, 357, 363, 363, 614, 439, 361, 363], [361], [656, 499], [429, 660, 499], [], [449, 449, 620, 363, 565, 358, 579, 363], [668, 499], [671, 499]]
theorem Tryz.hlt22 : Tryz.fr22.map Tryz.prog.leadsTo = Tryz.tlt22 := by kernel_rfl
def Tryz.tip22 : List (Option String) := [none, none, none, none, none, none, none, none, none, none, none, none, none, none, none, none, none, none, none, none, none, none, none, none, none, none, none]
theorem Tryz.hip22 : Tryz.fr22.map Go.Cl.ipq = Tryz.tip22 := by kernel_rfl
def Tryz.tuf22 : List (Bool) := [false, false, false, false, false, false, false, false, false, false, false, false, false, false, false, false, false, false, false, false, false, false, false, false, false, false, false]
theorem Tryz.huf22 : Tryz.fr22.map Go.Cl.ufq = Tryz.tuf22 := by kernel_rfl
def Tryz.tgn22 : List (List Nat) := [[], [], [], [], [], [], [], [], [], [], [], [], [], [], [], [], [], [], [], [], [], [], [], [], [], [], []]
theorem Tryz.hgn22 : Tryz.fr22.map Go.Cl.gnq = Tryz.tgn22 := by kernel_rfl
def Tryz.ter22 : List (Option String) := [none, none, none, none, none, none, none, none, none, none, none, none, none, none, none, none, none, none, none, none, none, none, none, none, none, none, none]
theorem Tryz.her22 : Tryz.fr22.map Go.Cl.erq = Tryz.ter22 := by kernel_rfl
theorem Tryz.hgo22 : Tryz.fr22.any Func.goes = false := by kernel_rfl
noncomputable def Tryz.fr23 : List Func := [Tryz.f621, Tryz.f622, Tryz.f623, Tryz.f624, Tryz.f625, Tryz.f626, Tryz.f627, Tryz.f628, Tryz.f629, Tryz.f630, Tryz.f631, Tryz.f632, Tryz.f633, Tryz.f634, Tryz.f635, Tryz.f636, Tryz.f637, Tryz.f638, Tryz.f639, Tryz.f640, Tryz.f641, Tryz.f642, Tryz.f643, Tryz.f644, Tryz.f645, Tryz.f646, Tryz.f647]
def Tryz.tlt23 : List (List Nat) := [[134, 579, 365, 365, 361, 361, 441, 579, 565], [481], [], [], [], [678], [679, 175, 178, 175, 681, 680, 175, 683, 680], [686, 685], [], [687], [361, 363], [361, 361, 363], [634, 439], [552], [432, 560, 357, 636, 638, 583, 592], [569, 637, 568], [361, 363], [611, 363, 587], [433, 560, 640, 641, 562, 571, 592], [564], [458, 592], [361], [571], [571], [571], [458], [361, 458, 579]]
theorem Tryz.hlt23 : Tryz.fr23.map Tryz.prog.leadsTo = Tryz.tlt23 := by kernel_rfl
def Tryz.tip23 : List (Option String) := [none, none, none, none, some "slices.overlaps[halyard/arena.piece]", none, none, none, none, none, none, none, none, none, none, none, none, none, none, none, none, none, none, none, none, none, none]
theorem Tryz.hip23 : Tryz.fr23.map Go.Cl.ipq = Tryz.tip23 := by kernel_rfl
def Tryz.tuf23 : List (Bool) := [false, false, false, false, false, false, false, false, false, false, false, false, false, false, false, false, false, false, false, false, false, false, false, false, false, false, false]
theorem Tryz.huf23 : Tryz.fr23.map Go.Cl.ufq = Tryz.tuf23 := by kernel_rfl
def Tryz.tgn23 : List (List Nat) := [[], [], [], [], [], [], [], [], [], [], [], [], [], [], [], [], [], [], [], [], [], [], [], [], [], [], []]
theorem Tryz.hgn23 : Tryz.fr23.map Go.Cl.gnq = Tryz.tgn23 := by kernel_rfl
def Tryz.ter23 : List (Option String) := [none, none, none, none, none, none, none, none, none, none, none, none, none, none, none, none, none, none, none, none, none, none, none, none, none, none, none]
theorem Tryz.her23 : Tryz.fr23.map Go.Cl.erq = Tryz.ter23 := by kernel_rfl
theorem Tryz.hgo23 : Tryz.fr23.any Func.goes = false := by kernel_rfl
end Go.Proofs
