/-
  From the reading of the listed variables to what the walks need; the worlds in which they are laid. (Printed by mkburow.py.)
-/
import Derived.Test.YtiknfjdjbhbjhaaGreatDoorFRead
import Derived.Test.YtiknfjdjbhbjhaaGreatDoorB11
import Derived.Test.YtiknfjdjbhbjhaaGreatDoorRows
import Derived.Stop.LaidErr
import Derived.Lib.LaidTab
set_option linter.unusedVariables false
set_option linter.unusedSimpArgs false
set_option maxRecDepth 100000
namespace Go.Proofs.YtiknfjdjbhbjhaaGreatDoor
open Go.ChangeShapes Go.WideShapes Go.ChangeAt Go.RowKit Go.Sep
theorem cells292 : Tryz.prog.cellsOf 292 = 1 := by kernel_rfl
theorem cells9 : Tryz.prog.cellsOf 9 = 1 := by kernel_rfl
theorem star : "*" ++ "errors.errorString" = "*errors.errorString" := by decide
theorem row290 (u : TypeId) (h : Tryz.prog.typeName? 3 u = some "*errors.errorString") : u = 290 :=
  typeName_ptr_named (nm := "errors.errorString") (by rw [star]; kernel_rfl) (by kernel_rfl) (by decide) u (by rw [star]; exact h)
theorem gSyn : Tryz.prog.globalNamed "strconv.ErrSyntax" = some 1 := by kernel_rfl
theorem gSynT : (Tryz.prog.globals[1]?).map (·.type) = some 75 := by kernel_rfl
theorem gRng : Tryz.prog.globalNamed "strconv.ErrRange" = some 2 := by kernel_rfl
theorem gRngT : (Tryz.prog.globals[2]?).map (·.type) = some 75 := by kernel_rfl
/-- what the rows list -/
def laidL0 : List (String × DataW Unit) := [("internal/strconv.uint64pow10", Rows.laid_internal_strconv_uint64pow10), ("math/bits.deBruijn32tab", Rows.laid_math_bits_deBruijn32tab), ("math/bits.deBruijn64tab", Rows.laid_math_bits_deBruijn64tab), ("strconv.ErrSyntax", Rows.laid_strconv_ErrSyntax), ("strconv.ErrRange", Rows.laid_strconv_ErrRange)]
/-- what the rows list -/
def laidL1 : List (String × DataW Unit) := [("unicode/utf8.first", Rows.laid_unicode_utf8_first), ("unicode/utf8.acceptRanges", Rows.laid_unicode_utf8_acceptRanges), ("strconv.ErrSyntax", Rows.laid_strconv_ErrSyntax), ("strconv.ErrRange", Rows.laid_strconv_ErrRange), ("internal/strconv.uint64pow10", Rows.laid_internal_strconv_uint64pow10), ("math/bits.deBruijn32tab", Rows.laid_math_bits_deBruijn32tab), ("math/bits.deBruijn64tab", Rows.laid_math_bits_deBruijn64tab)]
/-- what the rows list -/
def laidL2 : List (String × DataW Unit) := [("strconv.ErrSyntax", Rows.laid_strconv_ErrSyntax), ("strconv.ErrRange", Rows.laid_strconv_ErrRange), ("internal/strconv.uint64pow10", Rows.laid_internal_strconv_uint64pow10), ("math/bits.deBruijn32tab", Rows.laid_math_bits_deBruijn32tab), ("math/bits.deBruijn64tab", Rows.laid_math_bits_deBruijn64tab), ("unicode/utf8.first", Rows.laid_unicode_utf8_first), ("unicode/utf8.acceptRanges", Rows.laid_unicode_utf8_acceptRanges)]
/-- what the rows list -/
def laidL3 : List (String × DataW Unit) := [("strconv.ErrSyntax", Rows.laid_strconv_ErrSyntax), ("strconv.ErrRange", Rows.laid_strconv_ErrRange), ("internal/strconv.uint64pow10", Rows.laid_internal_strconv_uint64pow10), ("math/bits.deBruijn32tab", Rows.laid_math_bits_deBruijn32tab), ("math/bits.deBruijn64tab", Rows.laid_math_bits_deBruijn64tab)]
theorem gPow : Tryz.prog.globalNamed "internal/strconv.uint64pow10" = some 3 := by kernel_rfl
theorem gPowT : (Tryz.prog.globals[3]?).map (·.type) = some 252 := by kernel_rfl
theorem errs_of0 {W : World} (h : laidMetH Tryz.prog laidL0 W) : Eb (memOf W) := by
  have hL : laidMet Tryz.prog laidL0 W := h
  obtain ⟨a0, s0, hv0, -, -, -⟩ := laid_sentinel hL.tail.tail.tail.tail gRng gRngT Tryz.underlying75 row290 Tryz.underlying290 Tryz.underlying292 rfl rfl Tryz.underlying9 cells292 cells9
  obtain ⟨a1, s1, hv1, -, -, -⟩ := laid_sentinel hL.tail.tail.tail gSyn gSynT Tryz.underlying75 row290 Tryz.underlying290 Tryz.underlying292 rfl rfl Tryz.underlying9 cells292 cells9
  have c0 : W.cell? ⟨2, 0, none⟩ = some (.iface 290 (.pointer (some a0))) := by simpa using World.var?_cell gRng hv0 0
  have c1 : W.cell? ⟨1, 0, none⟩ = some (.iface 290 (.pointer (some a1))) := by simpa using World.var?_cell gSyn hv1 0
  exact ⟨⟨_, _, c1⟩, ⟨_, _, c0⟩⟩
theorem tb_of0 {W : World} (h : laidMetH Tryz.prog laidL0 W) : Go.Sep.Tb (memOf W) := by
  have hL : laidMet Tryz.prog laidL0 W := h
  have ht : Lib.TabIs Tryz.prog W "internal/strconv.uint64pow10" .u64 Lib.pow10Tab := Lib.tabIs_of_head gPow gPowT Tryz.underlying252 Tryz.underlying97 (by kernel_rfl) (by kernel_rfl) hL
  refine ⟨ht, ?_⟩
  unfold Lib.TabIs World.var? at ht
  rw [gPow] at ht
  simp only [Option.bind_some] at ht
  show 3 < W.heap.size
  cases hx : W.heap[3]? with
  | none => rw [hx] at ht; cases ht
  | some o => exact (Array.getElem?_eq_some_iff.1 hx).1
theorem tbeb_of0 {W : World} (h : laidMetH Tryz.prog laidL0 W) : Go.Sep.Tb (memOf W) ∧ Eb (memOf W) := ⟨tb_of0 h, errs_of0 h⟩
theorem errs_of3 {W : World} (h : laidMetH Tryz.prog laidL3 W) : Eb (memOf W) := by
  have hL : laidMet Tryz.prog laidL3 W := h
  obtain ⟨a0, s0, hv0, -, -, -⟩ := laid_sentinel hL.tail gRng gRngT Tryz.underlying75 row290 Tryz.underlying290 Tryz.underlying292 rfl rfl Tryz.underlying9 cells292 cells9
  obtain ⟨a1, s1, hv1, -, -, -⟩ := laid_sentinel hL gSyn gSynT Tryz.underlying75 row290 Tryz.underlying290 Tryz.underlying292 rfl rfl Tryz.underlying9 cells292 cells9
  have c0 : W.cell? ⟨2, 0, none⟩ = some (.iface 290 (.pointer (some a0))) := by simpa using World.var?_cell gRng hv0 0
  have c1 : W.cell? ⟨1, 0, none⟩ = some (.iface 290 (.pointer (some a1))) := by simpa using World.var?_cell gSyn hv1 0
  exact ⟨⟨_, _, c1⟩, ⟨_, _, c0⟩⟩
theorem tb_of3 {W : World} (h : laidMetH Tryz.prog laidL3 W) : Go.Sep.Tb (memOf W) := by
  have hL : laidMet Tryz.prog laidL3 W := h
  have ht : Lib.TabIs Tryz.prog W "internal/strconv.uint64pow10" .u64 Lib.pow10Tab := Lib.tabIs_of_head gPow gPowT Tryz.underlying252 Tryz.underlying97 (by kernel_rfl) (by kernel_rfl) hL.tail.tail
  refine ⟨ht, ?_⟩
  unfold Lib.TabIs World.var? at ht
  rw [gPow] at ht
  simp only [Option.bind_some] at ht
  show 3 < W.heap.size
  cases hx : W.heap[3]? with
  | none => rw [hx] at ht; cases ht
  | some o => exact (Array.getElem?_eq_some_iff.1 hx).1
theorem tbeb_of3 {W : World} (h : laidMetH Tryz.prog laidL3 W) : Go.Sep.Tb (memOf W) ∧ Eb (memOf W) := ⟨tb_of3 h, errs_of3 h⟩
abbrev synS : ByteArray := { data := #[105, 110, 118, 97, 108, 105, 100, 32, 115, 121, 110, 116, 97, 120] }
abbrev rngS : ByteArray := { data := #[118, 97, 108, 117, 101, 32, 111, 117, 116, 32, 111, 102, 32, 114, 97, 110, 103, 101] }
noncomputable def low : Nat := (World.holding Tryz.prog default ⟨#[], #[], []⟩).heap.size
def put (g : Nat) (vs : Array Value) (h : Array Obj) : Array Obj := h.modify g fun
      | .cells _ t frozen => .cells vs t frozen
      | o => o
def utf8V : Array Value := match (Go.Pinned.utf8First : DataW Unit) with
  | .agg ps => (ps.map fun | .lit (.int k n) => Value.int k n | _ => .nilIface).toArray
  | _ => #[]
/-- a world in which the listed variables are laid -/
noncomputable def laidWorld (os : Os) : World :=
  let w0 := World.holding Tryz.prog os ⟨#[.cells #[.string synS] 292, .cells #[.string rngS] 292], #[], []⟩
  { w0 with heap := (put 4 utf8V (put 5 #[.int .u8 128, .int .u8 191, .int .u8 160, .int .u8 191, .int .u8 128, .int .u8 159, .int .u8 144, .int .u8 191, .int .u8 128, .int .u8 143, .int .u8 0, .int .u8 0, .int .u8 0, .int .u8 0, .int .u8 0, .int .u8 0, .int .u8 0, .int .u8 0, .int .u8 0, .int .u8 0, .int .u8 0, .int .u8 0, .int .u8 0, .int .u8 0, .int .u8 0, .int .u8 0, .int .u8 0, .int .u8 0, .int .u8 0, .int .u8 0, .int .u8 0, .int .u8 0] (put 7 #[.int .u8 0, .int .u8 1, .int .u8 56, .int .u8 2, .int .u8 57, .int .u8 49, .int .u8 28, .int .u8 3, .int .u8 61, .int .u8 58, .int .u8 42, .int .u8 50, .int .u8 38, .int .u8 29, .int .u8 17, .int .u8 4, .int .u8 62, .int .u8 47, .int .u8 59, .int .u8 36, .int .u8 45, .int .u8 43, .int .u8 51, .int .u8 22, .int .u8 53, .int .u8 39, .int .u8 33, .int .u8 30, .int .u8 24, .int .u8 18, .int .u8 12, .int .u8 5, .int .u8 63, .int .u8 55, .int .u8 48, .int .u8 27, .int .u8 60, .int .u8 41, .int .u8 37, .int .u8 16, .int .u8 46, .int .u8 35, .int .u8 44, .int .u8 21, .int .u8 52, .int .u8 32, .int .u8 23, .int .u8 11, .int .u8 54, .int .u8 26, .int .u8 40, .int .u8 15, .int .u8 34, .int .u8 20, .int .u8 31, .int .u8 10, .int .u8 25, .int .u8 14, .int .u8 19, .int .u8 9, .int .u8 13, .int .u8 8, .int .u8 7, .int .u8 6] (put 6 #[.int .u8 0, .int .u8 1, .int .u8 28, .int .u8 2, .int .u8 29, .int .u8 14, .int .u8 24, .int .u8 3, .int .u8 30, .int .u8 22, .int .u8 20, .int .u8 15, .int .u8 25, .int .u8 17, .int .u8 4, .int .u8 8, .int .u8 31, .int .u8 27, .int .u8 13, .int .u8 23, .int .u8 21, .int .u8 19, .int .u8 16, .int .u8 7, .int .u8 26, .int .u8 12, .int .u8 18, .int .u8 6, .int .u8 11, .int .u8 5, .int .u8 10, .int .u8 9] (put 3 #[.int .u64 1, .int .u64 10, .int .u64 100, .int .u64 1000, .int .u64 10000, .int .u64 100000, .int .u64 1000000, .int .u64 10000000, .int .u64 100000000, .int .u64 1000000000, .int .u64 10000000000, .int .u64 100000000000, .int .u64 1000000000000, .int .u64 10000000000000, .int .u64 100000000000000, .int .u64 1000000000000000, .int .u64 10000000000000000, .int .u64 100000000000000000, .int .u64 1000000000000000000, .int .u64 10000000000000000000] (put 2 #[.iface 290 (.pointer (some ⟨low + 1, 0, none⟩))] (put 1 #[.iface 290 (.pointer (some ⟨low, 0, none⟩))] w0.heap))))))) }
theorem laid_met0 (os : Os) (args : Array Value) : laidMet Tryz.prog laidL0 ((laidWorld os).forCall (fun _ _ => 0) ⟨#[], args, []⟩).memory :=
  laidMet_of_run' 8 (by kernel_rfl) (by kernel_rfl)
theorem laid_met1 (os : Os) (args : Array Value) : laidMet Tryz.prog laidL1 ((laidWorld os).forCall (fun _ _ => 0) ⟨#[], args, []⟩).memory :=
  laidMet_of_run' 8 (by kernel_rfl) (by kernel_rfl)
theorem laid_met2 (os : Os) (args : Array Value) : laidMet Tryz.prog laidL2 ((laidWorld os).forCall (fun _ _ => 0) ⟨#[], args, []⟩).memory :=
  laidMet_of_run' 8 (by kernel_rfl) (by kernel_rfl)
theorem laid_met3 (os : Os) (args : Array Value) : laidMet Tryz.prog laidL3 ((laidWorld os).forCall (fun _ _ => 0) ⟨#[], args, []⟩).memory :=
  laidMet_of_run' 8 (by kernel_rfl) (by kernel_rfl)
end Go.Proofs.YtiknfjdjbhbjhaaGreatDoor
