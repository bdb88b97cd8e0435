/-
  Tables of functions: what each leads to, and the like. (Printed by mkcl.py.)
-/
import Derived.Test.YtiknfjdjbhbjhaaGreatDoorFCl
import Derived.Test.YtiknfjdjbhbjhaaGreatDoorProg
import Derived.KernelRfl
set_option maxRecDepth 100000
namespace Go.Proofs
open Go
noncomputable def Tryz.fr12 : List Func := [Tryz.f324, Tryz.f325, Tryz.f326, Tryz.f327, Tryz.f328, Tryz.f329, Tryz.f330, Tryz.f331, Tryz.f332, Tryz.f333, Tryz.f334, Tryz.f335, Tryz.f336, Tryz.f337, Tryz.f338, Tryz.f339, Tryz.f340, Tryz.f341, Tryz.f342, Tryz.f343, Tryz.f344, Tryz.f345, Tryz.f346, Tryz.f347, Tryz.f348, Tryz.f349, Tryz.f350]
def Tryz.tlt12 : List (List Nat) := [[257, 325, 158, 397, 404], [], [24, 327], [397], [], [], [], [], [272, 269, 269, 269], [177, 334, 180, 175, 269, 333, 180], [405], [175, 178, 270, 175, 405, 175, 269, 405, 273, 175, 175, 405, 273, 406, 269, 407, 269, 408, 269, 271, 405, 273], [108, 185, 108, 185, 108, 185, 108, 185, 183, 185, 183, 109, 336, 108, 186, 185, 336, 108, 188, 189, 185, 183, 336, 185, 108, 336, 336, 185, 108, 109, 336, 108, 336, 185, 336, 79, 108, 336, 185, 410, 409, 79, 108, 336, 336, 185], [408, 336], [336], [336], [189, 280], [], [281, 113, 281, 113, 281, 113, 281, 113, 281, 113, 281, 113, 281, 113, 281, 191, 113, 113, 281, 113, 113, 281, 113, 281, 113], [411], [343, 118, 343], [], [412, 414, 413, 412, 415], [], [412, 416, 297], [417], []]
theorem Tryz.hlt12 : Tryz.fr12.map Tryz.prog.leadsTo = Tryz.tlt12 := by kernel_rfl
def Tryz.tip12 : List (Option String) := [none, none, none, none, none, some "internal/bytealg.IndexByteString", none, none, none, none, none, none, none, none, none, none, none, none, none, none, none, none, none, none, none, none, none]
theorem Tryz.hip12 : Tryz.fr12.map Go.Cl.ipq = Tryz.tip12 := by kernel_rfl
def Tryz.tuf12 : List (Bool) := [false, false, false, false, false, false, false, false, false, false, false, true, false, false, false, false, false, false, false, false, false, false, false, false, false, false, false]
theorem Tryz.huf12 : Tryz.fr12.map Go.Cl.ufq = Tryz.tuf12 := by kernel_rfl
def Tryz.tgn12 : List (List Nat) := [[], [], [], [], [], [], [], [], [], [], [], [], [], [], [], [], [], [], [], [], [], [], [], [], [], [], []]
theorem Tryz.hgn12 : Tryz.fr12.map Go.Cl.gnq = Tryz.tgn12 := by kernel_rfl
def Tryz.ter12 : List (Option String) := [none, none, none, none, none, none, none, none, none, none, none, none, none, none, none, none, none, none, none, none, none, none, none, none, none, none, none]
theorem Tryz.her12 : Tryz.fr12.map Go.Cl.erq = Tryz.ter12 := by kernel_rfl
theorem Tryz.hgo12 : Tryz.fr12.any Func.goes = false := by kernel_rfl
noncomputable def Tryz.fr13 : List Func := [Tryz.f351, Tryz.f352, Tryz.f353, Tryz.f354, Tryz.f355, Tryz.f356, Tryz.f357, Tryz.f358, Tryz.f359, Tryz.f360, Tryz.f361, Tryz.f362, Tryz.f363, Tryz.f364, Tryz.f365, Tryz.f366, Tryz.f367, Tryz.f368, Tryz.f369, Tryz.f370, Tryz.f371, Tryz.f372, Tryz.f373, Tryz.f374, Tryz.f375, Tryz.f376, Tryz.f377]
def Tryz.tlt13 : List (List Nat) := [[418, 348, 419, 420, 421, 420, 422, 423, 297, 419, 424, 297, 352, 419, 425, 351, 425, 351, 297], [], [64, 426], [427, 428, 354], [356], [429, 430, 431], [], [432, 366, 433, 434, 360, 435], [358], [436], [363], [358, 437, 438, 365, 440, 439, 441, 360, 442, 363, 365, 443, 442, 363, 363, 361, 363, 363, 441, 442, 363], [], [24, 445, 444], [446, 363], [360, 435, 358, 443], [367, 437, 447, 448, 449, 362, 450, 451, 452, 453, 363, 363, 454, 363, 455, 363, 367, 363, 456, 367, 456, 457, 363, 363], [458, 363], [], [459], [], [460], [], [461], [], [377], []]
theorem Tryz.hlt13 : Tryz.fr13.map Tryz.prog.leadsTo = Tryz.tlt13 := by kernel_rfl
def Tryz.tip13 : List (Option String) := [none, none, none, none, none, none, none, none, none, none, none, none, none, none, none, none, none, none, none, none, none, none, none, none, none, none, none]
theorem Tryz.hip13 : Tryz.fr13.map Go.Cl.ipq = Tryz.tip13 := by kernel_rfl
def Tryz.tuf13 : List (Bool) := [false, false, false, false, false, false, false, false, false, false, false, false, false, false, false, false, false, false, false, false, false, false, false, false, false, false, false]
theorem Tryz.huf13 : Tryz.fr13.map Go.Cl.ufq = Tryz.tuf13 := by kernel_rfl
def Tryz.tgn13 : List (List Nat) := [[], [], [], [], [], [], [], [], [], [], [], [], [], [], [], [], [], [], [], [], [], [], [], [], [], [], []]
theorem Tryz.hgn13 : Tryz.fr13.map Go.Cl.gnq = Tryz.tgn13 := by kernel_rfl
def Tryz.ter13 : List (Option String) := [none, none, none, none, none, none, none, none, none, none, none, none, none, none, none, none, none, none, none, none, none, none, none, none, none, none, none]
theorem Tryz.her13 : Tryz.fr13.map Go.Cl.erq = Tryz.ter13 := by kernel_rfl
theorem Tryz.hgo13 : Tryz.fr13.any Func.goes = false := by kernel_rfl
noncomputable def Tryz.fr14 : List Func := [Tryz.f378, Tryz.f379, Tryz.f380, Tryz.f381, Tryz.f382, Tryz.f383, Tryz.f384, Tryz.f385, Tryz.f386, Tryz.f387, Tryz.f388, Tryz.f389, Tryz.f390, Tryz.f391, Tryz.f392, Tryz.f393, Tryz.f394, Tryz.f395, Tryz.f396, Tryz.f397, Tryz.f398, Tryz.f399, Tryz.f400, Tryz.f401, Tryz.f402, Tryz.f403, Tryz.f404]
def Tryz.tlt14 : List (List Nat) := [[377], [377], [], [462, 462], [], [], [], [384], [384], [384], [463], [], [], [392, 392], [], [386, 394, 388, 387, 383], [464], [385, 383, 385, 386, 387, 389, 383, 385, 383, 386, 387, 466, 465, 385, 383, 467, 468, 386, 387, 389, 387, 470, 469, 471, 383, 386, 387, 470, 383, 386, 387, 472, 383, 386, 387, 473, 383, 385, 386, 387, 474, 383, 385, 475, 384, 383], [384, 222, 462, 384], [159], [476], [478, 477, 479], [480], [481], [], [401], [482, 477, 222]]
theorem Tryz.hlt14 : Tryz.fr14.map Tryz.prog.leadsTo = Tryz.tlt14 := by kernel_rfl
def Tryz.tip14 : List (Option String) := [none, none, none, none, none, none, none, none, none, none, none, none, none, none, none, none, none, none, none, none, none, none, none, none, none, none, none]
theorem Tryz.hip14 : Tryz.fr14.map Go.Cl.ipq = Tryz.tip14 := by kernel_rfl
def Tryz.tuf14 : List (Bool) := [false, false, false, false, false, false, false, false, false, true, false, false, false, false, false, true, false, false, false, false, false, false, false, false, false, false, false]
theorem Tryz.huf14 : Tryz.fr14.map Go.Cl.ufq = Tryz.tuf14 := by kernel_rfl
def Tryz.tgn14 : List (List Nat) := [[], [], [], [], [], [], [], [], [], [], [], [], [], [], [], [], [], [], [], [], [], [], [], [], [], [], []]
theorem Tryz.hgn14 : Tryz.fr14.map Go.Cl.gnq = Tryz.tgn14 := by kernel_rfl
def Tryz.ter14 : List (Option String) := [none, none, none, none, none, none, none, none, none, none, none, none, none, none, none, none, none, none, none, none, none, none, none, none, none, none, none]
theorem Tryz.her14 : Tryz.fr14.map Go.Cl.erq = Tryz.ter14 := by kernel_rfl
theorem Tryz.hgo14 : Tryz.fr14.any Func.goes = false := by kernel_rfl
end Go.Proofs
