/- PtItoa -/
import Derived.Shelf.Strconv.Itoa3
import Derived.Test.YtinmchaljlekgaaGreatDoorProg
import Derived.KernelRfl
import Derived.Test.YtinmchaljlekgaaGreatDoorB0
set_option linter.unusedVariables false
set_option linter.unusedSimpArgs false
set_option maxHeartbeats 6400000
namespace Go.Proofs
open Go.Shelf
def Tryz.lays171_ren : Ren where
 f:=fun x=>match x with
  | 171=>86
  | 243=>130
  | 246=>163
  | 283=>183
  | 284=>184
  | 285=>185
  | 286=>186
  | 129=>196
  | 317=>195
  | 318=>197
  | 319=>198
  | 320=>199
  | 337=>201
  | 338=>202
  | n=>n
 t:=fun x=>match x with
  | 3=>3
  | 9=>9
  | 2=>2
  | 4=>4
  | 171=>170
  | 0=>0
  | 53=>151
  | 37=>62
  | 5=>5
  | 173=>173
  | 212=>183
  | 51=>184
  | 20=>20
  | 213=>185
  | 46=>145
  | 232=>192
  | 233=>193
  | n=>n
 g:=fun x=>match x with
  | 17=>3
  | 18=>4
  | 19=>5
  | n=>n
theorem Tryz.lays171 : LaysM.n171 Tryz.prog Tryz.lays171_ren where
 mixed:=rfl
 f129:=Tryz.func196.trans (congrArg some uK)
 f171:=Tryz.func86.trans (congrArg some uK)
 f243:=Tryz.func130.trans (congrArg some uK)
 f246:=Tryz.func163.trans (congrArg some uK)
 f283:=Tryz.func183.trans (congrArg some uK)
 f284:=Tryz.func184.trans (congrArg some uK)
 f285:=Tryz.func185.trans (congrArg some uK)
 f286:=Tryz.func186.trans (congrArg some uK)
 f317:=Tryz.func195.trans (congrArg some uK)
 f318:=Tryz.func197.trans (congrArg some uK)
 f319:=Tryz.func198.trans (congrArg some uK)
 f320:=Tryz.func199.trans (congrArg some uK)
 f337:=Tryz.func201.trans (congrArg some uK)
 f338:=Tryz.func202.trans (congrArg some uK)
 t0:=Tryz.underlying0
 a0:=Tryz.isAgg0
 z0:=Tryz.sizeOf0
 v0:=Tryz.zeroValue0
 t2:=Tryz.underlying2
 a2:=Tryz.isAgg2
 z2:=Tryz.sizeOf2
 v2:=Tryz.zeroValue2
 t3:=Tryz.underlying3
 a3:=Tryz.isAgg3
 z3:=Tryz.sizeOf3
 v3:=Tryz.zeroValue3
 t4:=Tryz.underlying4
 a4:=Tryz.isAgg4
 z4:=Tryz.sizeOf4
 v4:=Tryz.zeroValue4
 t5:=Tryz.underlying5
 a5:=Tryz.isAgg5
 z5:=Tryz.sizeOf5
 v5:=Tryz.zeroValue5
 t9:=Tryz.underlying9
 a9:=Tryz.isAgg9
 z9:=Tryz.sizeOf9
 v9:=Tryz.zeroValue9
 t20:=Tryz.underlying20
 a20:=Tryz.isAgg20
 z20:=Tryz.sizeOf20
 v20:=Tryz.zeroValue20
 t37:=Tryz.underlying62
 a37:=Tryz.isAgg62
 z37:=Tryz.sizeOf62
 v37:=Tryz.zeroValue62
 t46:=Tryz.underlying145
 a46:=Tryz.isAgg145
 z46:=Tryz.sizeOf145
 v46:=Tryz.zeroValue145
 t51:=Tryz.underlying184
 a51:=Tryz.isAgg184
 z51:=Tryz.sizeOf184
 v51:=Tryz.zeroValue184
 t53:=Tryz.underlying151
 a53:=Tryz.isAgg151
 z53:=Tryz.sizeOf151
 v53:=Tryz.zeroValue151
 t171:=Tryz.underlying170
 a171:=Tryz.isAgg170
 z171:=Tryz.sizeOf170
 v171:=Tryz.zeroValue170
 t173:=Tryz.underlying173
 a173:=Tryz.isAgg173
 z173:=Tryz.sizeOf173
 v173:=Tryz.zeroValue173
 t212:=Tryz.underlying183
 a212:=Tryz.isAgg183
 z212:=Tryz.sizeOf183
 v212:=Tryz.zeroValue183
 t213:=Tryz.underlying185
 a213:=Tryz.isAgg185
 z213:=Tryz.sizeOf185
 t232:=Tryz.underlying192
 a232:=Tryz.isAgg192
 z232:=Tryz.sizeOf192
 v232:=Tryz.zeroValue192
 t233:=Tryz.underlying193
 a233:=Tryz.isAgg193
 z233:=Tryz.sizeOf193
 v233:=Tryz.zeroValue193
 g17:=by kernel_rfl
 g18:=by kernel_rfl
 g19:=by kernel_rfl
 i0:=by kernel_rfl
 i2:=by kernel_rfl
 i3:=by kernel_rfl
 i4:=by kernel_rfl
 i5:=by kernel_rfl
 i9:=by kernel_rfl
 i20:=by kernel_rfl
 i37:=by kernel_rfl
 i46:=by kernel_rfl
 i51:=by kernel_rfl
 i53:=by kernel_rfl
 i171:=by kernel_rfl
 i173:=by kernel_rfl
 i212:=by kernel_rfl
 i232:=by kernel_rfl
 i233:=by kernel_rfl
 m17:=by kernel_rfl
 m18:=by kernel_rfl
 m19:=by kernel_rfl
theorem Tryz.strconv_Itoa (n : Int) (h0 : -9223372036854775808 ≤ n) (h1 : n ≤ 9223372036854775807) (w : World) (htab : Lib.TabIs Tryz.prog w "internal/strconv.uint64pow10" .u64 Lib.pow10Tab) :
  Calls Tryz.prog 86 #[.int .i64 n] w fun e w'=>e = .returned (.string ⟨(Lib.itoa n).toArray⟩) ∧ ∃ k os,w' = Go.Sort.grow (w.drewN k) os :=
 Any.strconv_Itoa Tryz.lays171 n h0 h1 w htab
end Go.Proofs

