/-
  Tables of functions: what each leads to, and the like. (Printed by mkcl.py.)
-/
import Derived.Test.YtiknfjdjbhbjhaaGreatDoorFCl
import Derived.Test.YtiknfjdjbhbjhaaGreatDoorProg
import Derived.KernelRfl
set_option maxRecDepth 100000
namespace Go.Proofs
open Go
noncomputable def Tryz.fr24 : List Func := [Tryz.f648, Tryz.f649, Tryz.f650, Tryz.f651, Tryz.f652, Tryz.f653, Tryz.f654, Tryz.f655, Tryz.f656, Tryz.f657, Tryz.f658, Tryz.f659, Tryz.f660, Tryz.f661, Tryz.f662, Tryz.f663, Tryz.f664, Tryz.f665, Tryz.f666, Tryz.f667, Tryz.f668, Tryz.f669, Tryz.f670, Tryz.f671, Tryz.f672, Tryz.f673, Tryz.f674]
def Tryz.tlt24 : List (List Nat) := [[], [], [358, 443, 433, 560, 651, 652, 562, 653, 654, 562, 569, 655, 568, 565, 598, 569, 586, 592], [564], [368], [569, 575, 568], [368], [571], [432, 432, 560, 357, 432, 357, 357, 361, 363, 561, 657, 361, 361, 579, 561, 658, 659, 361, 592], [688, 689, 562, 690, 691, 562, 692, 693, 562], [361, 443, 363, 561], [458, 561, 694, 695, 583], [433, 560, 357, 361, 558, 363, 561, 657, 661, 662, 562, 663, 665, 666, 569, 569, 667, 569, 590, 592], [564], [363, 592], [664], [579], [571], [571, 361, 579], [571], [432, 432, 432, 560, 357, 357, 357, 432, 357, 357, 361, 363, 561, 361, 361, 579, 561, 669, 670, 562, 658, 659, 659, 361, 592], [575, 569, 568], [368], [432, 432, 560, 357, 357, 357, 361, 363, 561, 672, 673, 583, 569, 569, 568, 569, 569, 568, 579, 592], [569, 569, 568, 569, 569, 568, 579], [674, 677, 562, 587], [675, 676, 568]]
theorem Tryz.hlt24 : Tryz.fr24.map Tryz.prog.leadsTo = Tryz.tlt24 := by kernel_rfl
def Tryz.tip24 : List (Option String) := [none, none, none, none, none, none, none, none, none, none, none, none, none, none, none, none, none, none, none, none, none, none, none, none, none, none, none]
theorem Tryz.hip24 : Tryz.fr24.map Go.Cl.ipq = Tryz.tip24 := by kernel_rfl
def Tryz.tuf24 : List (Bool) := [false, false, false, false, false, false, false, false, false, false, false, false, true, false, false, false, true, false, false, false, false, false, false, false, false, false, false]
theorem Tryz.huf24 : Tryz.fr24.map Go.Cl.ufq = Tryz.tuf24 := by kernel_rfl
def Tryz.tgn24 : List (List Nat) := [[], [], [], [], [], [], [], [], [], [], [], [], [], [], [], [], [], [], [], [], [], [], [], [], [], [], []]
theorem Tryz.hgn24 : Tryz.fr24.map Go.Cl.gnq = Tryz.tgn24 := by kernel_rfl
def Tryz.ter24 : List (Option String) := [none, none, none, none, none, none, none, none, none, none, none, none, none, none, none, none, none, none, none, none, none, none, none, none, none, none, none]
theorem Tryz.her24 : Tryz.fr24.map Go.Cl.erq = Tryz.ter24 := by kernel_rfl
theorem Tryz.hgo24 : Tryz.fr24.any Func.goes = false := by kernel_rfl
noncomputable def Tryz.fr25 : List Func := [Tryz.f675, Tryz.f676, Tryz.f677, Tryz.f678, Tryz.f679, Tryz.f680, Tryz.f681, Tryz.f682, Tryz.f683, Tryz.f684, Tryz.f685, Tryz.f686, Tryz.f687, Tryz.f688, Tryz.f689, Tryz.f690, Tryz.f691, Tryz.f692, Tryz.f693, Tryz.f694, Tryz.f695, Tryz.f696, Tryz.f697, Tryz.f698, Tryz.f699, Tryz.f700, Tryz.f701]
def Tryz.tlt25 : List (List Nat) := [[611], [611], [458, 592], [696, 696, 696], [272, 272, 175, 175, 175, 175, 405, 680, 177, 175, 177, 270, 177, 698, 697, 175, 179, 180, 178, 175, 684], [], [682], [269, 405, 175, 177, 175, 405, 177], [684], [175, 405, 273, 177], [], [], [], [569, 575, 568], [368], [569, 569, 568], [368], [569, 569, 568], [368], [569, 569, 568], [361, 361, 361, 579, 363, 363, 363, 587], [], [], [684], [], [], []]
theorem Tryz.hlt25 : Tryz.fr25.map Tryz.prog.leadsTo = Tryz.tlt25 := by kernel_rfl
def Tryz.tip25 : List (Option String) := [none, none, none, none, none, none, none, none, none, none, none, none, some "internal/bytealg.MakeNoZero", none, none, none, none, none, none, none, none, none, none, none, some "(runtime.boundsError).Error", some "(runtime.boundsError).RuntimeError", some "(runtime.errorString).Error"]
theorem Tryz.hip25 : Tryz.fr25.map Go.Cl.ipq = Tryz.tip25 := by kernel_rfl
def Tryz.tuf25 : List (Bool) := [false, false, false, false, false, true, false, false, false, false, true, false, false, false, false, false, false, false, false, false, false, false, true, false, false, false, false]
theorem Tryz.huf25 : Tryz.fr25.map Go.Cl.ufq = Tryz.tuf25 := by kernel_rfl
def Tryz.tgn25 : List (List Nat) := [[], [], [], [], [], [], [], [], [], [], [], [], [], [], [], [], [], [], [], [], [], [], [], [], [], [], []]
theorem Tryz.hgn25 : Tryz.fr25.map Go.Cl.gnq = Tryz.tgn25 := by kernel_rfl
def Tryz.ter25 : List (Option String) := [none, none, none, none, none, none, none, none, none, none, none, none, none, none, none, none, none, none, none, none, none, none, none, none, none, none, none]
theorem Tryz.her25 : Tryz.fr25.map Go.Cl.erq = Tryz.ter25 := by kernel_rfl
theorem Tryz.hgo25 : Tryz.fr25.any Func.goes = false := by kernel_rfl
noncomputable def Tryz.fr26 : List Func := [Tryz.f702, Tryz.f703, Tryz.f704, Tryz.f705, Tryz.f706, Tryz.f707, Tryz.f708, Tryz.f709, Tryz.f710, Tryz.f711, Tryz.f712, Tryz.f713, Tryz.f714, Tryz.f715, Tryz.f716, Tryz.f717, Tryz.f718, Tryz.f719, Tryz.f720, Tryz.f721, Tryz.f722, Tryz.f723, Tryz.f724, Tryz.f725, Tryz.f726, Tryz.f727, Tryz.f728]
def Tryz.tlt26 : List (List Nat) := [[], [], [], [], [], [], [], [], [], [], [], [], [], [], [], [], [], [], [], [], [], [], [], [], [], [], [169, 169]]
theorem Tryz.hlt26 : Tryz.fr26.map Tryz.prog.leadsTo = Tryz.tlt26 := by kernel_rfl
def Tryz.tip26 : List (Option String) := [some "(runtime.errorString).RuntimeError", some "(runtime.plainError).Error", some "(runtime.plainError).RuntimeError", some "(runtime.errorAddressString).Error", some "(runtime.errorAddressString).RuntimeError", some "(*runtime.TypeAssertionError).Error", some "(*runtime.TypeAssertionError).RuntimeError", some "(*runtime.PanicNilError).Error", some "(*runtime.PanicNilError).RuntimeError", some "(*internal/abi.Type).Align", some "(internal/runtime/maps.unhashableTypeError).Error", some "(internal/runtime/maps.unhashableTypeError).RuntimeError", some "(*strings.Builder).Reset", some "(internal/strconv.Error).Error", some "(*strconv.NumError).Error", some "(*errors.errorString).Error", some "(internal/abi.Kind).String", some "var's door: gosem.cut.vars holds initialisers alone; see the manifest's row cutvarsword (look 11, test files too)", some "var's door: internal/strconv.uint64pow10 is laid by its own initialiser, plain data (look 11)", some "var's door: math/bits.deBruijn32tab is laid by its own initialiser, plain data (look 11)", some "var's door: math/bits.deBruijn64tab is laid by its own initialiser, plain data (look 11)", some "var's door: strconv.ErrRange is laid by its own call of errors.New on one literal (look 11)", some "var's door: strconv.ErrSyntax is laid by its own call of errors.New on one literal (look 11)", some "var's door: the look of gosem.cut.vars went over the folder that the caller named as the repository's root (look 11)", some "var's door: unicode/utf8.acceptRanges is laid by its own initialiser, plain data (look 11)", some "var's door: unicode/utf8.first is laid by its text alone (pinned 1)", none]
theorem Tryz.hip26 : Tryz.fr26.map Go.Cl.ipq = Tryz.tip26 := by kernel_rfl
def Tryz.tuf26 : List (Bool) := [false, false, false, false, false, false, false, false, false, false, false, false, false, false, false, false, false, false, false, false, false, false, false, false, false, false, false]
theorem Tryz.huf26 : Tryz.fr26.map Go.Cl.ufq = Tryz.tuf26 := by kernel_rfl
def Tryz.tgn26 : List (List Nat) := [[], [], [], [], [], [], [], [], [], [], [], [], [], [], [], [], [], [], [], [], [], [], [], [], [], [], [6, 7, 3, 5, 2, 1]]
theorem Tryz.hgn26 : Tryz.fr26.map Go.Cl.gnq = Tryz.tgn26 := by kernel_rfl
def Tryz.ter26 : List (Option String) := [none, none, none, none, none, none, none, none, none, none, none, none, none, none, none, none, none, none, none, none, none, none, none, none, none, none, none]
theorem Tryz.her26 : Tryz.fr26.map Go.Cl.erq = Tryz.ter26 := by kernel_rfl
theorem Tryz.hgo26 : Tryz.fr26.any Func.goes = false := by kernel_rfl
end Go.Proofs
