/-
  Part 1 of the proof: library, walks and plain laws.
-/
import Derived.Shelf.Strconv.Itoa3
import Derived.Test.YthemafgjfddgbaaGreatDoorProg
import Derived.KernelRfl
import Derived.Test.YthemafgjfddgbaaGreatDoorB0
set_option linter.unusedVariables false
set_option linter.unusedSimpArgs false
set_option maxHeartbeats 6400000
namespace Go.Proofs
open Go.Shelf
def Tryz.lays171_ren : Ren where
 f:=fun x=>match x with
  | 171=>192
  | 243=>213
  | 246=>219
  | 283=>223
  | 284=>224
  | 285=>225
  | 286=>226
  | 129=>229
  | 317=>228
  | 318=>230
  | 319=>231
  | 320=>232
  | 337=>239
  | 338=>240
  | n=>n
 t:=fun x=>match x with
  | 3=>3
  | 9=>9
  | 2=>2
  | 4=>4
  | 171=>237
  | 0=>0
  | 53=>177
  | 37=>72
  | 5=>5
  | 173=>240
  | 212=>244
  | 51=>245
  | 20=>20
  | 213=>246
  | 46=>198
  | 232=>253
  | 233=>254
  | n=>n
 g:=fun x=>match x with
  | 17=>3
  | 18=>4
  | 19=>5
  | n=>n
theorem Tryz.lays171 : LaysM.n171 Tryz.prog Tryz.lays171_ren where
 mixed:=rfl
 f129:=Tryz.func229.trans (congrArg some uK)
 f171:=Tryz.func192.trans (congrArg some uK)
 f243:=Tryz.func213.trans (congrArg some uK)
 f246:=Tryz.func219.trans (congrArg some uK)
 f283:=Tryz.func223.trans (congrArg some uK)
 f284:=Tryz.func224.trans (congrArg some uK)
 f285:=Tryz.func225.trans (congrArg some uK)
 f286:=Tryz.func226.trans (congrArg some uK)
 f317:=Tryz.func228.trans (congrArg some uK)
 f318:=Tryz.func230.trans (congrArg some uK)
 f319:=Tryz.func231.trans (congrArg some uK)
 f320:=Tryz.func232.trans (congrArg some uK)
 f337:=Tryz.func239.trans (congrArg some uK)
 f338:=Tryz.func240.trans (congrArg some uK)
 t0:=Tryz.underlying0
 a0:=Tryz.isAgg0
 z0:=Tryz.sizeOf0
 v0:=Tryz.zeroValue0
 t2:=Tryz.underlying2
 a2:=Tryz.isAgg2
 z2:=Tryz.sizeOf2
 v2:=Tryz.zeroValue2
 t3:=Tryz.underlying3
 a3:=Tryz.isAgg3
 z3:=Tryz.sizeOf3
 v3:=Tryz.zeroValue3
 t4:=Tryz.underlying4
 a4:=Tryz.isAgg4
 z4:=Tryz.sizeOf4
 v4:=Tryz.zeroValue4
 t5:=Tryz.underlying5
 a5:=Tryz.isAgg5
 z5:=Tryz.sizeOf5
 v5:=Tryz.zeroValue5
 t9:=Tryz.underlying9
 a9:=Tryz.isAgg9
 z9:=Tryz.sizeOf9
 v9:=Tryz.zeroValue9
 t20:=Tryz.underlying20
 a20:=Tryz.isAgg20
 z20:=Tryz.sizeOf20
 v20:=Tryz.zeroValue20
 t37:=Tryz.underlying72
 a37:=Tryz.isAgg72
 z37:=Tryz.sizeOf72
 v37:=Tryz.zeroValue72
 t46:=Tryz.underlying198
 a46:=Tryz.isAgg198
 z46:=Tryz.sizeOf198
 v46:=Tryz.zeroValue198
 t51:=Tryz.underlying245
 a51:=Tryz.isAgg245
 z51:=Tryz.sizeOf245
 v51:=Tryz.zeroValue245
 t53:=Tryz.underlying177
 a53:=Tryz.isAgg177
 z53:=Tryz.sizeOf177
 v53:=Tryz.zeroValue177
 t171:=Tryz.underlying237
 a171:=Tryz.isAgg237
 z171:=Tryz.sizeOf237
 v171:=Tryz.zeroValue237
 t173:=Tryz.underlying240
 a173:=Tryz.isAgg240
 z173:=Tryz.sizeOf240
 v173:=Tryz.zeroValue240
 t212:=Tryz.underlying244
 a212:=Tryz.isAgg244
 z212:=Tryz.sizeOf244
 v212:=Tryz.zeroValue244
 t213:=Tryz.underlying246
 a213:=Tryz.isAgg246
 z213:=Tryz.sizeOf246
 t232:=Tryz.underlying253
 a232:=Tryz.isAgg253
 z232:=Tryz.sizeOf253
 v232:=Tryz.zeroValue253
 t233:=Tryz.underlying254
 a233:=Tryz.isAgg254
 z233:=Tryz.sizeOf254
 v233:=Tryz.zeroValue254
 g17:=uK
 g18:=uK
 g19:=uK
 i0:=uK
 i2:=uK
 i3:=uK
 i4:=uK
 i5:=uK
 i9:=uK
 i20:=uK
 i37:=uK
 i46:=uK
 i51:=uK
 i53:=uK
 i171:=uK
 i173:=uK
 i212:=uK
 i232:=uK
 i233:=uK
 m17:=uK
 m18:=uK
 m19:=uK
theorem Tryz.strconv_Itoa (n:Int) (h0:-9223372036854775808≤n) (h1:n≤9223372036854775807) (w:World) (htab:Lib.TabIs Tryz.prog w "internal/strconv.uint64pow10" .u64 Lib.pow10Tab) :
  Calls Tryz.prog 192 #[.int .i64 n] w fun e w'=>e = .returned (.string ⟨(Lib.itoa n).toArray⟩)∧∃ k os,w'=Go.Sort.grow (w.drewN k) os :=
 Any.strconv_Itoa Tryz.lays171 n h0 h1 w htab
end Go.Proofs
