/-
  Tables of functions: what each leads to, and the like. (Printed by mkcl.py.)
-/
import Derived.Test.YtiknfjdjbhbjhaaGreatDoorFCl
import Derived.Test.YtiknfjdjbhbjhaaGreatDoorProg
import Derived.KernelRfl
set_option maxRecDepth 100000
namespace Go.Proofs
open Go
noncomputable def Tryz.fr15 : List Func := [Tryz.f405, Tryz.f406, Tryz.f407, Tryz.f408, Tryz.f409, Tryz.f410, Tryz.f411, Tryz.f412, Tryz.f413, Tryz.f414, Tryz.f415, Tryz.f416, Tryz.f417, Tryz.f418, Tryz.f419, Tryz.f420, Tryz.f421, Tryz.f422, Tryz.f423, Tryz.f424, Tryz.f425, Tryz.f426, Tryz.f427, Tryz.f428, Tryz.f429, Tryz.f430, Tryz.f431]
def Tryz.tlt15 : List (List Nat) := [[483], [], [], [], [484], [], [485, 200, 345, 200, 345, 411, 68], [486, 186, 188, 487], [], [], [40, 488, 489, 40, 490, 294, 489, 416, 436], [416], [], [351], [421, 491, 297], [297], [424, 453, 297, 297, 422], [424, 453, 297], [423], [492, 492, 492, 492, 493, 297, 436, 297, 297, 419, 348, 419, 299, 301, 494, 495], [422, 297], [426, 426, 426, 496], [497], [428], [429, 429, 429, 498, 498], [500, 499], []]
theorem Tryz.hlt15 : Tryz.fr15.map Tryz.prog.leadsTo = Tryz.tlt15 := by kernel_rfl
def Tryz.tip15 : List (Option String) := [none, none, none, none, none, none, none, none, none, none, none, none, none, none, none, none, none, none, none, none, none, none, none, none, none, none, none]
theorem Tryz.hip15 : Tryz.fr15.map Go.Cl.ipq = Tryz.tip15 := by kernel_rfl
def Tryz.tuf15 : List (Bool) := [false, true, false, false, false, false, false, false, true, false, false, false, true, false, false, false, false, false, false, false, false, false, false, true, false, false, false]
theorem Tryz.huf15 : Tryz.fr15.map Go.Cl.ufq = Tryz.tuf15 := by kernel_rfl
def Tryz.tgn15 : List (List Nat) := [[], [], [], [], [], [], [], [], [], [], [], [], [], [], [], [], [], [], [], [], [], [], [], [], [], [], []]
theorem Tryz.hgn15 : Tryz.fr15.map Go.Cl.gnq = Tryz.tgn15 := by kernel_rfl
def Tryz.ter15 : List (Option String) := [none, none, none, none, none, none, none, none, none, none, none, none, none, none, none, none, none, none, none, none, none, none, none, none, none, none, none]
theorem Tryz.her15 : Tryz.fr15.map Go.Cl.erq = Tryz.ter15 := by kernel_rfl
theorem Tryz.hgo15 : Tryz.fr15.any Func.goes = false := by kernel_rfl
noncomputable def Tryz.fr16 : List Func := [Tryz.f432, Tryz.f433, Tryz.f434, Tryz.f435, Tryz.f436, Tryz.f437, Tryz.f438, Tryz.f439, Tryz.f440, Tryz.f441, Tryz.f442, Tryz.f443, Tryz.f444, Tryz.f445, Tryz.f446, Tryz.f447, Tryz.f448, Tryz.f449, Tryz.f450, Tryz.f451, Tryz.f452, Tryz.f453, Tryz.f454, Tryz.f455, Tryz.f456, Tryz.f457, Tryz.f458]
def Tryz.tlt16 : List (List Nat) := [[443], [429, 501, 444], [429, 444, 502], [503, 444], [], [360], [435], [435, 361, 363, 363], [363], [], [357], [24, 504, 444], [], [366], [357], [438, 435, 363, 449, 458, 363, 363], [358, 360, 435, 363, 458, 363], [358, 363, 455, 505], [437, 447, 454, 362, 506, 361, 362, 441], [507, 454, 506, 441, 441], [455, 508, 455, 363, 455, 509, 455, 449, 510, 363, 511, 512, 513], [], [453, 449, 452, 514, 515, 506, 361, 505, 441], [458, 516, 517, 435, 363, 363, 449, 363, 518, 519, 520, 363, 455, 455, 521, 363, 522, 363, 360, 523, 524, 452, 525, 526], [], [455, 363, 363, 456, 367, 363, 456], [363]]
theorem Tryz.hlt16 : Tryz.fr16.map Tryz.prog.leadsTo = Tryz.tlt16 := by kernel_rfl
def Tryz.tip16 : List (Option String) := [none, none, none, none, none, none, none, none, none, none, none, none, none, none, none, none, none, none, none, none, none, none, none, none, none, none, none]
theorem Tryz.hip16 : Tryz.fr16.map Go.Cl.ipq = Tryz.tip16 := by kernel_rfl
def Tryz.tuf16 : List (Bool) := [false, false, false, false, false, false, false, true, false, false, false, false, true, false, false, false, false, false, false, true, false, false, false, false, false, false, false]
theorem Tryz.huf16 : Tryz.fr16.map Go.Cl.ufq = Tryz.tuf16 := by kernel_rfl
def Tryz.tgn16 : List (List Nat) := [[], [], [], [], [], [], [], [], [], [], [], [], [], [], [], [], [], [], [], [], [], [], [], [], [], [], []]
theorem Tryz.hgn16 : Tryz.fr16.map Go.Cl.gnq = Tryz.tgn16 := by kernel_rfl
def Tryz.ter16 : List (Option String) := [none, none, none, none, none, none, none, none, none, none, none, none, none, none, none, none, none, none, none, none, none, none, none, none, none, none, none]
theorem Tryz.her16 : Tryz.fr16.map Go.Cl.erq = Tryz.ter16 := by kernel_rfl
theorem Tryz.hgo16 : Tryz.fr16.any Func.goes = false := by kernel_rfl
noncomputable def Tryz.fr17 : List Func := [Tryz.f459, Tryz.f460, Tryz.f461, Tryz.f462, Tryz.f463, Tryz.f464, Tryz.f465, Tryz.f466, Tryz.f467, Tryz.f468, Tryz.f469, Tryz.f470, Tryz.f471, Tryz.f472, Tryz.f473, Tryz.f474, Tryz.f475, Tryz.f476, Tryz.f477, Tryz.f478, Tryz.f479, Tryz.f480, Tryz.f481, Tryz.f482, Tryz.f483, Tryz.f484, Tryz.f485]
def Tryz.tlt17 : List (List Nat) := [[], [], [], [], [392], [], [469], [469], [386, 387, 466, 465, 385, 384], [385, 386, 387, 466, 469, 465, 385, 475, 384, 471, 383], [], [469], [], [466], [], [], [462], [401], [], [], [322, 527, 398, 402, 322, 528, 529], [530, 481, 531], [532, 533], [], [410, 534, 483, 175, 483], [], [200, 485, 68, 535, 118, 119, 68, 118, 536, 118, 68, 537]]
theorem Tryz.hlt17 : Tryz.fr17.map Tryz.prog.leadsTo = Tryz.tlt17 := by kernel_rfl
def Tryz.tip17 : List (Option String) := [none, none, none, none, none, none, none, none, none, none, none, none, none, none, none, none, none, none, none, none, none, none, none, none, none, none, none]
theorem Tryz.hip17 : Tryz.fr17.map Go.Cl.ipq = Tryz.tip17 := by kernel_rfl
def Tryz.tuf17 : List (Bool) := [true, true, true, false, false, true, false, false, false, false, false, false, false, false, false, false, false, false, true, false, false, false, false, false, false, false, false]
theorem Tryz.huf17 : Tryz.fr17.map Go.Cl.ufq = Tryz.tuf17 := by kernel_rfl
def Tryz.tgn17 : List (List Nat) := [[], [], [], [], [], [], [], [], [], [], [], [], [], [], [], [], [], [], [], [], [], [], [], [], [], [], []]
theorem Tryz.hgn17 : Tryz.fr17.map Go.Cl.gnq = Tryz.tgn17 := by kernel_rfl
def Tryz.ter17 : List (Option String) := [none, none, none, none, none, none, none, none, none, none, none, none, none, none, none, none, none, none, none, none, none, none, none, none, none, none, none]
theorem Tryz.her17 : Tryz.fr17.map Go.Cl.erq = Tryz.ter17 := by kernel_rfl
theorem Tryz.hgo17 : Tryz.fr17.any Func.goes = false := by kernel_rfl
end Go.Proofs
