/-
  Tables of functions: what each leads to, and the like. (Printed by mkcl.py.)
-/
import Derived.Test.YtiknfjdjbhbjhaaGreatDoorFCl
import Derived.Test.YtiknfjdjbhbjhaaGreatDoorProg
import Derived.KernelRfl
set_option maxRecDepth 100000
namespace Go.Proofs
open Go
noncomputable def Tryz.fr18 : List Func := [Tryz.f486, Tryz.f487, Tryz.f488, Tryz.f489, Tryz.f490, Tryz.f491, Tryz.f492, Tryz.f493, Tryz.f494, Tryz.f495, Tryz.f496, Tryz.f497, Tryz.f498, Tryz.f499, Tryz.f500, Tryz.f501, Tryz.f502, Tryz.f503, Tryz.f504, Tryz.f505, Tryz.f506, Tryz.f507, Tryz.f508, Tryz.f509, Tryz.f510, Tryz.f511, Tryz.f512]
def Tryz.tlt18 : List (List Nat) := [[486], [488, 487, 487], [], [538], [539], [416, 540, 515, 541, 436, 542], [], [543], [298, 493, 298, 544, 545, 541, 422, 297, 419, 352], [422, 546, 297, 422, 425, 492, 347, 422, 425, 297, 547, 422, 422, 492, 548, 297, 297, 297, 297], [181, 496], [], [549, 46, 46, 46, 47], [550], [357, 358, 357, 363, 363, 363, 359], [358, 443], [], [358], [], [541, 363], [358, 365], [551, 552, 365, 360, 553, 555], [363, 363, 556, 363, 456, 556, 456, 557, 363, 556], [363, 558, 363], [429, 559, 499], [455, 552, 593, 594, 595, 596, 363], [597, 455, 365, 361, 363, 458, 579, 598, 593, 506, 599, 435, 361, 363, 458, 579, 565, 363, 600, 363, 456, 600, 363, 368, 456, 441, 441]]
theorem Tryz.hlt18 : Tryz.fr18.map Tryz.prog.leadsTo = Tryz.tlt18 := by kernel_rfl
def Tryz.tip18 : List (Option String) := [none, none, none, none, none, none, none, none, none, none, none, none, none, none, none, none, none, none, none, none, none, none, none, none, none, none, none]
theorem Tryz.hip18 : Tryz.fr18.map Go.Cl.ipq = Tryz.tip18 := by kernel_rfl
def Tryz.tuf18 : List (Bool) := [false, false, false, false, false, false, false, false, false, false, false, false, false, false, false, false, false, false, false, false, false, false, false, false, false, false, false]
theorem Tryz.huf18 : Tryz.fr18.map Go.Cl.ufq = Tryz.tuf18 := by kernel_rfl
def Tryz.tgn18 : List (List Nat) := [[], [], [], [], [], [], [], [], [], [], [], [], [], [], [], [], [], [], [], [], [], [], [], [], [], [], []]
theorem Tryz.hgn18 : Tryz.fr18.map Go.Cl.gnq = Tryz.tgn18 := by kernel_rfl
def Tryz.ter18 : List (Option String) := [none, none, none, none, none, none, none, none, none, none, none, none, none, none, none, none, none, none, none, none, none, none, none, none, none, none, none]
theorem Tryz.her18 : Tryz.fr18.map Go.Cl.erq = Tryz.ter18 := by kernel_rfl
theorem Tryz.hgo18 : Tryz.fr18.any Func.goes = false := by kernel_rfl
noncomputable def Tryz.fr19 : List Func := [Tryz.f513, Tryz.f514, Tryz.f515, Tryz.f516, Tryz.f517, Tryz.f518, Tryz.f519, Tryz.f520, Tryz.f521, Tryz.f522, Tryz.f523, Tryz.f524, Tryz.f525, Tryz.f526, Tryz.f527, Tryz.f528, Tryz.f529, Tryz.f530, Tryz.f531, Tryz.f532, Tryz.f533, Tryz.f534, Tryz.f535, Tryz.f536, Tryz.f537, Tryz.f538, Tryz.f539]
def Tryz.tlt19 : List (List Nat) := [[455, 358, 365, 593, 506, 361, 363, 361, 361, 363, 601, 363, 368, 441, 441], [], [514, 515], [432, 363, 134, 443, 363], [519, 361, 361, 363, 361, 523, 358, 435, 363, 365, 435, 361, 363, 363, 363, 361, 441], [358, 443, 449, 363, 368, 458, 363, 365, 361, 458, 363, 449, 363, 602, 603, 604, 605, 590, 441], [434, 363, 363, 356, 458, 363, 363, 364, 363, 363, 361, 363, 363, 363], [606, 552, 455, 358], [607, 499], [455, 455, 612, 363], [435, 613, 499, 363], [455, 358, 365, 361, 455, 458, 455, 361, 509, 441, 615, 363, 616, 363], [458, 455, 579, 455, 565, 360, 552, 523, 455, 363, 606, 552, 455], [455, 565, 363, 617, 458, 363, 456, 455, 456, 618, 565, 455, 455, 619, 363, 620, 363, 458, 621], [622], [623], [622, 530, 624], [82], [625, 626], [], [], [175, 534, 627], [201, 68, 119, 118, 537, 68, 68, 200, 68, 68, 343, 120, 120, 122, 68, 120, 537, 121, 123, 68], [68, 200, 343, 118, 68, 120, 118, 343, 120], [118, 344, 120], [], [539, 40, 488]]
theorem Tryz.hlt19 : Tryz.fr19.map Tryz.prog.leadsTo = Tryz.tlt19 := by kernel_rfl
def Tryz.tip19 : List (Option String) := [none, none, none, none, none, none, none, none, none, none, none, none, none, none, none, none, none, none, none, none, none, none, none, none, none, none, none]
theorem Tryz.hip19 : Tryz.fr19.map Go.Cl.ipq = Tryz.tip19 := by kernel_rfl
def Tryz.tuf19 : List (Bool) := [false, true, false, false, false, false, false, false, false, false, false, false, false, false, false, false, false, false, false, true, false, false, false, false, false, false, false]
theorem Tryz.huf19 : Tryz.fr19.map Go.Cl.ufq = Tryz.tuf19 := by kernel_rfl
def Tryz.tgn19 : List (List Nat) := [[], [], [], [], [], [], [], [], [], [], [], [], [], [], [], [], [], [], [], [], [], [], [], [], [], [], []]
theorem Tryz.hgn19 : Tryz.fr19.map Go.Cl.gnq = Tryz.tgn19 := by kernel_rfl
def Tryz.ter19 : List (Option String) := [none, none, none, none, none, none, none, none, none, none, none, none, none, none, none, none, none, none, none, none, none, none, none, none, none, none, none]
theorem Tryz.her19 : Tryz.fr19.map Go.Cl.erq = Tryz.ter19 := by kernel_rfl
theorem Tryz.hgo19 : Tryz.fr19.any Func.goes = false := by kernel_rfl
noncomputable def Tryz.fr20 : List Func := [Tryz.f540, Tryz.f541, Tryz.f542, Tryz.f543, Tryz.f544, Tryz.f545, Tryz.f546, Tryz.f547, Tryz.f548, Tryz.f549, Tryz.f550, Tryz.f551, Tryz.f552, Tryz.f553, Tryz.f554, Tryz.f555, Tryz.f556, Tryz.f557, Tryz.f558, Tryz.f559, Tryz.f560, Tryz.f561, Tryz.f562, Tryz.f563, Tryz.f564, Tryz.f565, Tryz.f566]
def Tryz.tlt20 : List (List Nat) := [[541], [], [628, 515], [], [297, 422, 297, 297, 425, 297, 422, 297, 492, 297, 425, 419], [422, 597, 546, 297, 436, 423, 297, 629], [436], [422, 297, 297, 297, 423, 297, 629, 296], [416, 540, 416, 540, 515, 416, 541], [84, 630], [369], [631, 632, 633], [366, 363, 361, 455, 363, 363, 363, 598, 520, 358, 443, 363, 522, 360, 363], [554, 439], [361], [361, 361, 363], [458, 363], [635, 499], [429, 639, 499], [433, 358, 443, 358, 560, 357, 357, 357, 357, 361, 558, 363, 561, 563, 566, 562, 574, 576, 562, 458, 561, 577, 578, 562, 580, 581, 562, 361, 363, 561, 582, 584, 585, 583, 361, 363, 360, 587, 588, 589, 583, 569, 575, 591, 569, 590, 592], [357], [363], [565, 363, 456], [564, 565], [361, 363, 363], [458, 579], [567, 572, 562]]
theorem Tryz.hlt20 : Tryz.fr20.map Tryz.prog.leadsTo = Tryz.tlt20 := by kernel_rfl
def Tryz.tip20 : List (Option String) := [none, none, none, none, none, none, none, none, none, none, none, none, none, none, none, none, none, none, none, none, none, none, none, none, none, none, none]
theorem Tryz.hip20 : Tryz.fr20.map Go.Cl.ipq = Tryz.tip20 := by kernel_rfl
def Tryz.tuf20 : List (Bool) := [false, false, false, false, false, false, false, false, false, false, true, false, false, false, false, false, false, false, false, true, false, false, true, false, false, false, false]
theorem Tryz.huf20 : Tryz.fr20.map Go.Cl.ufq = Tryz.tuf20 := by kernel_rfl
def Tryz.tgn20 : List (List Nat) := [[], [], [], [], [], [], [], [], [], [], [], [], [], [], [], [], [], [], [], [], [], [], [], [], [], [], []]
theorem Tryz.hgn20 : Tryz.fr20.map Go.Cl.gnq = Tryz.tgn20 := by kernel_rfl
def Tryz.ter20 : List (Option String) := [none, none, none, none, none, none, none, none, none, none, none, none, none, none, none, none, none, none, none, none, none, none, none, none, none, none, none]
theorem Tryz.her20 : Tryz.fr20.map Go.Cl.erq = Tryz.ter20 := by kernel_rfl
theorem Tryz.hgo20 : Tryz.fr20.any Func.goes = false := by kernel_rfl
end Go.Proofs
