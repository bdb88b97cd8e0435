/-
  Part 7 of the proof: library, walks and plain laws.
-/
import Derived.Test.YthemafgjfddgbaaGreatDoorProg
import Derived.KernelRfl
import Derived.Test.YthemafgjfddgbaaGreatDoorB6
set_option linter.unusedVariables false
set_option linter.unusedSimpArgs false
set_option maxHeartbeats 6400000
namespace Go.Sep
open Go.Proofs
noncomputable def tiOf (i d:TypeInfo):TI:=⟨d.desc,i.size,i.bytes,match i.zero with | some z=>z | none=>undef⟩
def GoodTI (P:Program) (t:TypeId) (i:TI):Prop:=∃ info,P.info? t=some info∧P.underlying t=some i.u∧info.size=i.size∧info.bytes=i.bytes∧info.zero=some i.zero
theorem goodTI {P:Program} {t:TypeId} {i d:TypeInfo} (h1:P.info? t=some i) (h2:P.underlying t=some d.desc) (h3:i.zero.isSome=true):GoodTI P t (tiOf i d):=by
 refine⟨i,h1,h2,rfl,rfl,?_⟩;cases hz:i.zero with
 | none=>rw[hz]at h3;cases h3
 | some z=>simp[tiOf,hz]
inductive TT where
 | nil
 | node (l:TT) (k:Nat) (i:TI) (r:TT)
def getT : TT→Nat→Option TI
 | .nil,_=>none
 | .node l k i r,t=>bif Nat.beq t k then some i else bif Nat.blt t k then getT l t else getT r t
def AllT (P:Program):TT→Prop
 | .nil=>True
 | .node l k i r=>AllT P l∧GoodTI P k i∧AllT P r
theorem getT_ok {P:Program}:∀ {l:TT},AllT P l→∀ t i,getT l t=some i→GoodTI P t i
 | .nil,_,t,i,h=>by cases h
 | .node l k x r,hl,t,i,h=>by
  simp only[getT]at h;cases hb:Nat.beq t k with
  | true =>
   have:t=k:=Nat.eq_of_beq_eq_true hb;subst this;simp only[hb,cz,bu]at h;subst h;exact hl.2.1
  | false =>
   simp only[hb,cy]at h;cases hc:Nat.blt t k with
   | true=>simp only[hc,cz]at h;exact getT_ok hl.1 t i h
   | false=>simp only[hc,cy]at h;exact getT_ok hl.2.2 t i h
noncomputable abbrev nl0 (a:TypeInfo) (k:Nat):TT:=.node .nil k (tiOf a a) .nil
noncomputable abbrev nn0 (l:TT) (a:TypeInfo) (k:Nat) (r:TT):TT:=.node l k (tiOf a a) r
noncomputable abbrev nd0 (l:TT) (a b:TypeInfo) (k:Nat) (r:TT):TT:=.node l k (tiOf a b) r
theorem gq0 {P:Program} {t:TypeId} {i d:TypeInfo} (h1:P.info? t=some i:=by kernel_rfl) (h2:P.underlying t=some d.desc:=by kernel_rfl) (h3:i.zero.isSome=true:=by kernel_rfl):GoodTI P t (tiOf i d):=goodTI h1 h2 h3
theorem gl0 {P:Program} {t:TypeId} {i:TypeInfo} (h:GoodTI P t (tiOf i i):=by exact gq0):AllT P (nl0 i t):=⟨trivial,h,trivial⟩
section
open Tryz
noncomputable def tbl : TT:=(nn0 (nn0 (nn0 (nn0 (nn0 (nn0 (nn0 (nl0 t1 1) t2 2 (nl0 t3 3)) t4 4 (nn0 (nl0 t5 5) t7 7 (nl0 t9 9))) t12 12 (nn0 (nn0 (nl0 t13 13) t15 15 (nl0 t16 16)) t17 17 (nn0 (nl0 t18 18) t20 20 (nl0 t21 21)))) t22 22 (nn0 (nd0 (nd0 (nl0 t23 23) t24 t23 24 (nl0 t25 25)) t26 t3 26 (nn0 (nl0 t27 27) t28 28 (nl0 t29 29))) t30 30 (nn0 (nn0 (nl0 t31 31) t32 32 (nl0 t33 33)) t34 34 (nn0 (nl0 t35 35) t36 36 (nl0 t37 37))))) t38 38 (nn0 (nn0 (nn0 (nn0 (nl0 t39 39) t40 40 (nl0 t41 41)) t42 42 (nd0 (nl0 t43 43) t44 t43 44 (nl0 t45 45))) t46 46 (nd0 (nn0 (nd0 TT.nil t47 t46 47 TT.nil) t48 48 (nl0 t49 49)) t50 t49 50 (nn0 (nl0 t51 51) t52 52 (nl0 t53 53)))) t54 54 (nn0 (nd0 (nn0 (nl0 t55 55) t56 56 (nl0 t57 57)) t58 t57 58 (nd0 (nl0 t59 59) t60 t59 60 (nl0 t61 61))) t62 62 (nn0 (nn0 (nl0 t63 63) t64 64 (nl0 t65 65)) t66 66 (nn0 (nl0 t67 67) t68 68 (nl0 t69 69)))))) t70 70 (nd0 (nn0 (nn0 (nd0 (nn0 (nl0 t71 71) t72 72 (nl0 t73 73)) t74 t73 74 (nd0 (nl0 t75 75) t76 t75 76 (nl0 t77 77))) t78 78 (nn0 (nn0 (nl0 t79 79) t80 80 (nl0 t81 81)) t82 82 (nn0 (nl0 t83 83) t84 84 (nl0 t85 85)))) t86 86 (nn0 (nn0 (nn0 (nl0 t87 87) t88 88 (nl0 t89 89)) t90 90 (nn0 (nl0 t91 91) t92 92 (nd0 TT.nil t93 t92 93 TT.nil))) t94 94 (nn0 (nn0 (nl0 t95 95) t96 96 (nd0 TT.nil t97 t96 97 TT.nil)) t98 98 (nn0 (nl0 t99 99) t100 100 (nl0 t101 101))))) t102 t101 102 (nd0 (nn0 (nn0 (nn0 (nl0 t103 103) t104 104 (nl0 t105 105)) t106 106 (nn0 (nd0 TT.nil t107 t106 107 TT.nil) t108 108 (nd0 TT.nil t109 t108 109 TT.nil))) t110 110 (nd0 (nn0 (nl0 t111 111) t112 112 (nl0 t113 113)) t114 t113 114 (nn0 (nl0 t115 115) t116 116 (nl0 t117 117)))) t118 t117 118 (nn0 (nd0 (nn0 (nl0 t119 119) t120 120 (nl0 t121 121)) t122 t31 122 (nn0 (nl0 t123 123) t124 124 (nl0 t125 125))) t126 126 (nn0 (nn0 (nl0 t127 127) t128 128 (nl0 t129 129)) t130 130 (nn0 (nl0 t131 131) t132 132 (nl0 t133 133))))))) t134 134 (nn0 (nn0 (nn0 (nd0 (nn0 (nn0 (nl0 t135 135) t136 136 (nl0 t137 137)) t138 138 (nn0 (nl0 t139 139) t140 140 (nl0 t141 141))) t142 t137 142 (nn0 (nn0 (nl0 t143 143) t144 144 (nl0 t145 145)) t146 146 (nd0 (nl0 t147 147) t148 t147 148 (nl0 t149 149)))) t150 150 (nn0 (nn0 (nn0 (nl0 t151 151) t152 152 (nl0 t153 153)) t154 154 (nn0 (nl0 t155 155) t156 156 (nl0 t157 157))) t158 158 (nn0 (nn0 (nd0 TT.nil t159 t158 159 TT.nil) t160 160 (nl0 t161 161)) t162 162 (nn0 (nl0 t163 163) t164 164 (nl0 t165 165))))) t166 166 (nn0 (nn0 (nn0 (nn0 (nl0 t167 167) t168 168 (nl0 t169 169)) t170 170 (nn0 (nl0 t171 171) t172 172 (nl0 t173 173))) t174 174 (nn0 (nn0 (nl0 t175 175) t176 176 (nl0 t177 177)) t178 178 (nn0 (nl0 t179 179) t180 180 (nl0 t181 181)))) t182 182 (nn0 (nd0 (nn0 (nl0 t183 183) t184 184 (nl0 t185 185)) t186 t185 186 (nn0 (nl0 t187 187) t188 188 (nl0 t189 189))) t190 190 (nn0 (nn0 (nl0 t191 191) t192 192 (nl0 t193 193)) t194 194 (nn0 (nd0 TT.nil t195 t194 195 TT.nil) t196 196 (nd0 TT.nil t197 t3 197 TT.nil)))))) t198 198 (nn0 (nn0 (nn0 (nn0 (nn0 (nl0 t199 199) t200 200 (nl0 t201 201)) t202 202 (nn0 (nl0 t203 203) t204 204 (nl0 t205 205))) t206 206 (nn0 (nn0 (nl0 t207 207) t208 208 (nl0 t209 209)) t210 210 (nn0 (nl0 t211 211) t212 212 (nl0 t213 213)))) t214 214 (nn0 (nn0 (nn0 (nd0 TT.nil t215 t214 215 TT.nil) t216 216 (nl0 t217 217)) t218 218 (nn0 (nl0 t219 219) t220 220 (nl0 t221 221))) t222 222 (nn0 (nn0 (nl0 t223 223) t224 224 (nl0 t225 225)) t226 226 (nn0 (nd0 TT.nil t227 t226 227 TT.nil) t228 228 (nl0 t229 229))))) t230 230 (nn0 (nn0 (nn0 (nn0 (nl0 t231 231) t232 232 (nl0 t233 233)) t234 234 (nn0 (nl0 t235 235) t236 236 (nl0 t237 237))) t238 238 (nn0 (nn0 (nl0 t239 239) t240 240 (nl0 t241 241)) t242 242 (nn0 (nl0 t243 243) t244 244 (nl0 t245 245)))) t246 246 (nn0 (nn0 (nn0 (nl0 t247 247) t248 248 (nl0 t249 249)) t250 250 (nn0 (nl0 t251 251) t252 252 (nl0 t253 253))) t254 254 (nn0 (nn0 (nl0 t255 255) t257 257 (nl0 t258 258)) t262 262 (nn0 (nl0 t265 265) t267 267 TT.nil)))))))
end
theorem tbl_ok : AllT Tryz.prog tbl:=⟨⟨⟨⟨⟨⟨⟨gl0,gq0,gl0⟩,gq0,⟨gl0,gq0,gl0⟩⟩,gq0,⟨⟨gl0,gq0,gl0⟩,gq0,⟨gl0,gq0,gl0⟩⟩⟩,gq0,⟨⟨⟨gl0,gq0,gl0⟩,gq0,⟨gl0,gq0,gl0⟩⟩,gq0,⟨⟨gl0,gq0,gl0⟩,gq0,⟨gl0,gq0,gl0⟩⟩⟩⟩,gq0,⟨⟨⟨⟨gl0,gq0,gl0⟩,gq0,⟨gl0,gq0,gl0⟩⟩,gq0,⟨⟨⟨trivial,gq0,trivial⟩,gq0,gl0⟩,gq0,⟨gl0,gq0,gl0⟩⟩⟩,gq0,⟨⟨⟨gl0,gq0,gl0⟩,gq0,⟨gl0,gq0,gl0⟩⟩,gq0,⟨⟨gl0,gq0,gl0⟩,gq0,⟨gl0,gq0,gl0⟩⟩⟩⟩⟩,gq0,⟨⟨⟨⟨⟨gl0,gq0,gl0⟩,gq0,⟨gl0,gq0,gl0⟩⟩,gq0,⟨⟨gl0,gq0,gl0⟩,gq0,⟨gl0,gq0,gl0⟩⟩⟩,gq0,⟨⟨⟨gl0,gq0,gl0⟩,gq0,⟨gl0,gq0,⟨trivial,gq0,trivial⟩⟩⟩,gq0,⟨⟨gl0,gq0,⟨trivial,gq0,trivial⟩⟩,gq0,⟨gl0,gq0,gl0⟩⟩⟩⟩,gq0,⟨⟨⟨⟨gl0,gq0,gl0⟩,gq0,⟨⟨trivial,gq0,trivial⟩,gq0,⟨trivial,gq0,trivial⟩⟩⟩,gq0,⟨⟨gl0,gq0,gl0⟩,gq0,⟨gl0,gq0,gl0⟩⟩⟩,gq0,⟨⟨⟨gl0,gq0,gl0⟩,gq0,⟨gl0,gq0,gl0⟩⟩,gq0,⟨⟨gl0,gq0,gl0⟩,gq0,⟨gl0,gq0,gl0⟩⟩⟩⟩⟩⟩,gq0,⟨⟨⟨⟨⟨⟨gl0,gq0,gl0⟩,gq0,⟨gl0,gq0,gl0⟩⟩,gq0,⟨⟨gl0,gq0,gl0⟩,gq0,⟨gl0,gq0,gl0⟩⟩⟩,gq0,⟨⟨⟨gl0,gq0,gl0⟩,gq0,⟨gl0,gq0,gl0⟩⟩,gq0,⟨⟨⟨trivial,gq0,trivial⟩,gq0,gl0⟩,gq0,⟨gl0,gq0,gl0⟩⟩⟩⟩,gq0,⟨⟨⟨⟨gl0,gq0,gl0⟩,gq0,⟨gl0,gq0,gl0⟩⟩,gq0,⟨⟨gl0,gq0,gl0⟩,gq0,⟨gl0,gq0,gl0⟩⟩⟩,gq0,⟨⟨⟨gl0,gq0,gl0⟩,gq0,⟨gl0,gq0,gl0⟩⟩,gq0,⟨⟨gl0,gq0,gl0⟩,gq0,⟨⟨trivial,gq0,trivial⟩,gq0,⟨trivial,gq0,trivial⟩⟩⟩⟩⟩⟩,gq0,⟨⟨⟨⟨⟨gl0,gq0,gl0⟩,gq0,⟨gl0,gq0,gl0⟩⟩,gq0,⟨⟨gl0,gq0,gl0⟩,gq0,⟨gl0,gq0,gl0⟩⟩⟩,gq0,⟨⟨⟨⟨trivial,gq0,trivial⟩,gq0,gl0⟩,gq0,⟨gl0,gq0,gl0⟩⟩,gq0,⟨⟨gl0,gq0,gl0⟩,gq0,⟨⟨trivial,gq0,trivial⟩,gq0,gl0⟩⟩⟩⟩,gq0,⟨⟨⟨⟨gl0,gq0,gl0⟩,gq0,⟨gl0,gq0,gl0⟩⟩,gq0,⟨⟨gl0,gq0,gl0⟩,gq0,⟨gl0,gq0,gl0⟩⟩⟩,gq0,⟨⟨⟨gl0,gq0,gl0⟩,gq0,⟨gl0,gq0,gl0⟩⟩,gq0,⟨⟨gl0,gq0,gl0⟩,gq0,⟨gl0,gq0,trivial⟩⟩⟩⟩⟩⟩⟩
def fieldsIn (P:Program) (d:TypeDesc):Bool:=match d with | .struct fs=>fs.toList.all fun f=>(P.info? f.type).isSome | _=>true
def AllF (P:Program):TT→Bool
 | .nil=>true
 | .node l _ i r=>AllF P l&&(fieldsIn P i.u&&AllF P r)
theorem getT_mem : ∀ {l:TT} {P:Program},AllF P l=true→∀ t i,getT l t=some i→fieldsIn P i.u=true
 | .nil,_,_,t,i,h=>by cases h
 | .node l k x r,P,hl,t,i,h=>by
  simp only[AllF,bj]at hl;simp only[getT]at h;cases hb:Nat.beq t k with
  | true=>simp only[hb,cz,bu]at h;subst h;exact hl.2.1
  | false =>
   simp only[hb,cy]at h;cases hc:Nat.blt t k with
   | true=>simp only[hc,cz]at h;exact getT_mem hl.1 t i h
   | false=>simp only[hc,cy]at h;exact getT_mem hl.2.2 t i h
theorem fields_ok {P:Program} {d:TypeDesc} (h:fieldsIn P d=true):∀ fs,d = .struct fs→∀ f∈fs.toList,∃ j,P.info? f.type=some j:=by
 intro fs hd f hf;subst hd;have:=List.all_eq_true.1 h f hf;exact Option.isSome_iff_exists.1 this
noncomputable def tab : Tab Tryz.prog:=⟨getT tbl,getT_ok tbl_ok,fun t i h=>fields_ok (getT_mem uK t i h)⟩
theorem mixed : Tryz.prog.follows .mixedOrders=true:=uK
theorem goes8 : Goes Tryz.prog 8:=cQ Tryz.func8 uK uK
theorem goes10 : Goes Tryz.prog 10:=cQ Tryz.func10 uK uK
theorem goes12 : Goes Tryz.prog 12:=cQ Tryz.func12 uK uK
theorem goes14 : Goes Tryz.prog 14:=cQ Tryz.func14 uK uK
theorem goes15 : Goes Tryz.prog 15:=cQ Tryz.func15 uK uK
theorem goes16 : Goes Tryz.prog 16:=cQ Tryz.func16 uK uK
theorem goes20 : Goes Tryz.prog 20:=cQ Tryz.func20 uK uK
theorem goes25 : Goes Tryz.prog 25:=cQ Tryz.func25 uK uK
theorem goes28 : Goes Tryz.prog 28:=cQ Tryz.func28 uK uK
theorem goes29 : Goes Tryz.prog 29:=cQ Tryz.func29 uK uK
theorem goes30 : Goes Tryz.prog 30:=cQ Tryz.func30 uK uK
theorem goes31 : Goes Tryz.prog 31:=cQ Tryz.func31 uK uK
theorem goes32 : Goes Tryz.prog 32:=cQ Tryz.func32 uK uK
theorem goes33 : Goes Tryz.prog 33:=cQ Tryz.func33 uK uK
theorem goes34 : Goes Tryz.prog 34:=cQ Tryz.func34 uK uK
theorem goes35 : Goes Tryz.prog 35:=cQ Tryz.func35 uK uK
theorem goes38 : Goes Tryz.prog 38:=cQ Tryz.func38 uK uK
theorem goes39 : Goes Tryz.prog 39:=cQ Tryz.func39 uK uK
theorem goes40 : Goes Tryz.prog 40:=cQ Tryz.func40 uK uK
theorem goes41 : Goes Tryz.prog 41:=cQ Tryz.func41 uK uK
theorem goes53 : Goes Tryz.prog 53:=cQ Tryz.func53 uK uK
theorem goes55 : Goes Tryz.prog 55:=cQ Tryz.func55 uK uK
theorem goes56 : Goes Tryz.prog 56:=cQ Tryz.func56 uK uK
theorem goes57 : Goes Tryz.prog 57:=cQ Tryz.func57 uK uK
theorem goes58 : Goes Tryz.prog 58:=cQ Tryz.func58 uK uK
theorem goes59 : Goes Tryz.prog 59:=cQ Tryz.func59 uK uK
theorem goes60 : Goes Tryz.prog 60:=cQ Tryz.func60 uK uK
theorem goes61 : Goes Tryz.prog 61:=cQ Tryz.func61 uK uK
theorem goes62 : Goes Tryz.prog 62:=cQ Tryz.func62 uK uK
theorem goes63 : Goes Tryz.prog 63:=cQ Tryz.func63 uK uK
theorem goes64 : Goes Tryz.prog 64:=cQ Tryz.func64 uK uK
theorem goes65 : Goes Tryz.prog 65:=cQ Tryz.func65 uK uK
theorem goes66 : Goes Tryz.prog 66:=cQ Tryz.func66 uK uK
theorem goes67 : Goes Tryz.prog 67:=cQ Tryz.func67 uK uK
theorem goes68 : Goes Tryz.prog 68:=cQ Tryz.func68 uK uK
theorem goes69 : Goes Tryz.prog 69:=cQ Tryz.func69 uK uK
theorem goes70 : Goes Tryz.prog 70:=cQ Tryz.func70 uK uK
theorem goes71 : Goes Tryz.prog 71:=cQ Tryz.func71 uK uK
theorem goes72 : Goes Tryz.prog 72:=cQ Tryz.func72 uK uK
theorem goes73 : Goes Tryz.prog 73:=cQ Tryz.func73 uK uK
theorem goes74 : Goes Tryz.prog 74:=cQ Tryz.func74 uK uK
theorem goes75 : Goes Tryz.prog 75:=cQ Tryz.func75 uK uK
theorem goes81 : Goes Tryz.prog 81:=cQ Tryz.func81 uK uK
theorem goes82 : Goes Tryz.prog 82:=cQ Tryz.func82 uK uK
theorem goes83 : Goes Tryz.prog 83:=cQ Tryz.func83 uK uK
theorem goes84 : Goes Tryz.prog 84:=cQ Tryz.func84 uK uK
theorem goes85 : Goes Tryz.prog 85:=cQ Tryz.func85 uK uK
theorem goes86 : Goes Tryz.prog 86:=cQ Tryz.func86 uK uK
theorem goes87 : Goes Tryz.prog 87:=cQ Tryz.func87 uK uK
theorem goes88 : Goes Tryz.prog 88:=cQ Tryz.func88 uK uK
theorem goes89 : Goes Tryz.prog 89:=cQ Tryz.func89 uK uK
theorem goes98 : Goes Tryz.prog 98:=cQ Tryz.func98 uK uK
theorem goes99 : Goes Tryz.prog 99:=cQ Tryz.func99 uK uK
theorem goes100 : Goes Tryz.prog 100:=cQ Tryz.func100 uK uK
theorem goes101 : Goes Tryz.prog 101:=cQ Tryz.func101 uK uK
theorem goes102 : Goes Tryz.prog 102:=cQ Tryz.func102 uK uK
theorem goes103 : Goes Tryz.prog 103:=cQ Tryz.func103 uK uK
theorem goes104 : Goes Tryz.prog 104:=cQ Tryz.func104 uK uK
theorem goes105 : Goes Tryz.prog 105:=cQ Tryz.func105 uK uK
theorem goes106 : Goes Tryz.prog 106:=cQ Tryz.func106 uK uK
theorem goes107 : Goes Tryz.prog 107:=cQ Tryz.func107 uK uK
theorem goes108 : Goes Tryz.prog 108:=cQ Tryz.func108 uK uK
theorem goes109 : Goes Tryz.prog 109:=cQ Tryz.func109 uK uK
theorem goes110 : Goes Tryz.prog 110:=cQ Tryz.func110 uK uK
theorem goes111 : Goes Tryz.prog 111:=cQ Tryz.func111 uK uK
theorem goes112 : Goes Tryz.prog 112:=cQ Tryz.func112 uK uK
theorem goes113 : Goes Tryz.prog 113:=cQ Tryz.func113 uK uK
theorem goes114 : Goes Tryz.prog 114:=cQ Tryz.func114 uK uK
theorem goes115 : Goes Tryz.prog 115:=cQ Tryz.func115 uK uK
theorem goes116 : Goes Tryz.prog 116:=cQ Tryz.func116 uK uK
theorem goes117 : Goes Tryz.prog 117:=cQ Tryz.func117 uK uK
theorem goes118 : Goes Tryz.prog 118:=cQ Tryz.func118 uK uK
theorem goes119 : Goes Tryz.prog 119:=cQ Tryz.func119 uK uK
theorem goes120 : Goes Tryz.prog 120:=cQ Tryz.func120 uK uK
theorem goes121 : Goes Tryz.prog 121:=cQ Tryz.func121 uK uK
theorem goes122 : Goes Tryz.prog 122:=cQ Tryz.func122 uK uK
theorem goes123 : Goes Tryz.prog 123:=cQ Tryz.func123 uK uK
theorem goes124 : Goes Tryz.prog 124:=cQ Tryz.func124 uK uK
theorem goes125 : Goes Tryz.prog 125:=cQ Tryz.func125 uK uK
theorem goes130 : Goes Tryz.prog 130:=cQ Tryz.func130 uK uK
theorem goes133 : Goes Tryz.prog 133:=cQ Tryz.func133 uK uK
theorem goes134 : Goes Tryz.prog 134:=cQ Tryz.func134 uK uK
theorem goes138 : Goes Tryz.prog 138:=cQ Tryz.func138 uK uK
theorem goes139 : Goes Tryz.prog 139:=cQ Tryz.func139 uK uK
theorem goes140 : Goes Tryz.prog 140:=cQ Tryz.func140 uK uK
theorem goes141 : Goes Tryz.prog 141:=cQ Tryz.func141 uK uK
theorem goes142 : Goes Tryz.prog 142:=cQ Tryz.func142 uK uK
theorem goes143 : Goes Tryz.prog 143:=cQ Tryz.func143 uK uK
theorem goes144 : Goes Tryz.prog 144:=cQ Tryz.func144 uK uK
theorem goes145 : Goes Tryz.prog 145:=cQ Tryz.func145 uK uK
theorem goes146 : Goes Tryz.prog 146:=cQ Tryz.func146 uK uK
theorem goes147 : Goes Tryz.prog 147:=cQ Tryz.func147 uK uK
theorem goes148 : Goes Tryz.prog 148:=cQ Tryz.func148 uK uK
theorem goes149 : Goes Tryz.prog 149:=cQ Tryz.func149 uK uK
theorem goes150 : Goes Tryz.prog 150:=cQ Tryz.func150 uK uK
theorem goes151 : Goes Tryz.prog 151:=cQ Tryz.func151 uK uK
theorem goes152 : Goes Tryz.prog 152:=cQ Tryz.func152 uK uK
theorem goes153 : Goes Tryz.prog 153:=cQ Tryz.func153 uK uK
theorem goes154 : Goes Tryz.prog 154:=cQ Tryz.func154 uK uK
theorem goes155 : Goes Tryz.prog 155:=cQ Tryz.func155 uK uK
theorem goes156 : Goes Tryz.prog 156:=cQ Tryz.func156 uK uK
theorem goes157 : Goes Tryz.prog 157:=cQ Tryz.func157 uK uK
theorem goes158 : Goes Tryz.prog 158:=cQ Tryz.func158 uK uK
theorem goes159 : Goes Tryz.prog 159:=cQ Tryz.func159 uK uK
theorem goes160 : Goes Tryz.prog 160:=cQ Tryz.func160 uK uK
theorem goes161 : Goes Tryz.prog 161:=cQ Tryz.func161 uK uK
theorem goes162 : Goes Tryz.prog 162:=cQ Tryz.func162 uK uK
theorem goes163 : Goes Tryz.prog 163:=cQ Tryz.func163 uK uK
theorem goes164 : Goes Tryz.prog 164:=cQ Tryz.func164 uK uK
theorem goes165 : Goes Tryz.prog 165:=cQ Tryz.func165 uK uK
theorem goes166 : Goes Tryz.prog 166:=cQ Tryz.func166 uK uK
theorem goes172 : Goes Tryz.prog 172:=cQ Tryz.func172 uK uK
theorem goes173 : Goes Tryz.prog 173:=cQ Tryz.func173 uK uK
theorem goes174 : Goes Tryz.prog 174:=cQ Tryz.func174 uK uK
theorem goes177 : Goes Tryz.prog 177:=cQ Tryz.func177 uK uK
theorem goes178 : Goes Tryz.prog 178:=cQ Tryz.func178 uK uK
theorem goes179 : Goes Tryz.prog 179:=cQ Tryz.func179 uK uK
theorem goes180 : Goes Tryz.prog 180:=cQ Tryz.func180 uK uK
theorem goes181 : Goes Tryz.prog 181:=cQ Tryz.func181 uK uK
theorem goes182 : Goes Tryz.prog 182:=cQ Tryz.func182 uK uK
theorem goes183 : Goes Tryz.prog 183:=cQ Tryz.func183 uK uK
theorem goes184 : Goes Tryz.prog 184:=cQ Tryz.func184 uK uK
theorem goes185 : Goes Tryz.prog 185:=cQ Tryz.func185 uK uK
theorem goes186 : Goes Tryz.prog 186:=cQ Tryz.func186 uK uK
theorem goes187 : Goes Tryz.prog 187:=cQ Tryz.func187 uK uK
theorem goes188 : Goes Tryz.prog 188:=cQ Tryz.func188 uK uK
theorem goes189 : Goes Tryz.prog 189:=cQ Tryz.func189 uK uK
theorem goes190 : Goes Tryz.prog 190:=cQ Tryz.func190 uK uK
theorem goes195 : Goes Tryz.prog 195:=cQ Tryz.func195 uK uK
theorem goes197 : Goes Tryz.prog 197:=cQ Tryz.func197 uK uK
theorem goes199 : Goes Tryz.prog 199:=cQ Tryz.func199 uK uK
theorem goes200 : Goes Tryz.prog 200:=cQ Tryz.func200 uK uK
theorem goes201 : Goes Tryz.prog 201:=cQ Tryz.func201 uK uK
theorem goes202 : Goes Tryz.prog 202:=cQ Tryz.func202 uK uK
theorem goes203 : Goes Tryz.prog 203:=cQ Tryz.func203 uK uK
theorem goes204 : Goes Tryz.prog 204:=cQ Tryz.func204 uK uK
theorem goes205 : Goes Tryz.prog 205:=cQ Tryz.func205 uK uK
theorem goes206 : Goes Tryz.prog 206:=cQ Tryz.func206 uK uK
theorem goes207 : Goes Tryz.prog 207:=cQ Tryz.func207 uK uK
theorem goes208 : Goes Tryz.prog 208:=cQ Tryz.func208 uK uK
theorem goes209 : Goes Tryz.prog 209:=cQ Tryz.func209 uK uK
theorem goes210 : Goes Tryz.prog 210:=cQ Tryz.func210 uK uK
theorem goes211 : Goes Tryz.prog 211:=cQ Tryz.func211 uK uK
theorem goes212 : Goes Tryz.prog 212:=cQ Tryz.func212 uK uK
theorem goes214 : Goes Tryz.prog 214:=cQ Tryz.func214 uK uK
theorem goes215 : Goes Tryz.prog 215:=cQ Tryz.func215 uK uK
theorem goes216 : Goes Tryz.prog 216:=cQ Tryz.func216 uK uK
theorem goes217 : Goes Tryz.prog 217:=cQ Tryz.func217 uK uK
theorem goes218 : Goes Tryz.prog 218:=cQ Tryz.func218 uK uK
theorem goes220 : Goes Tryz.prog 220:=cQ Tryz.func220 uK uK
theorem goes221 : Goes Tryz.prog 221:=cQ Tryz.func221 uK uK
theorem goes222 : Goes Tryz.prog 222:=cQ Tryz.func222 uK uK
theorem goes227 : Goes Tryz.prog 227:=cQ Tryz.func227 uK uK
theorem goes233 : Goes Tryz.prog 233:=cQ Tryz.func233 uK uK
theorem goes234 : Goes Tryz.prog 234:=cQ Tryz.func234 uK uK
theorem goes235 : Goes Tryz.prog 235:=cQ Tryz.func235 uK uK
theorem goes236 : Goes Tryz.prog 236:=cQ Tryz.func236 uK uK
theorem goes237 : Goes Tryz.prog 237:=cQ Tryz.func237 uK uK
theorem goes238 : Goes Tryz.prog 238:=cQ Tryz.func238 uK uK
theorem goes241 : Goes Tryz.prog 241:=cQ Tryz.func241 uK uK
theorem goes242 : Goes Tryz.prog 242:=cQ Tryz.func242 uK uK
end Go.Sep
namespace Go
abbrev df := @Sep.mixed
end Go
namespace Go.Sep
open Go.Proofs
attribute [local irreducible] TC TO OT TCallX TCall DO DOt thenQ blockQ retQ At
def ltr (b:UInt8):Bool:=decide (97≤b.toNat∧b.toNat≤122)||decide (65≤b.toNat∧b.toNat≤90)||decide (b.toNat=95)
def dgt (b:UInt8):Bool:=decide (48≤b.toNat∧b.toNat≤57)
def lod (b:UInt8):Bool:=ltr b||dgt b
theorem low_all : ∀ n:Fin 256,(97≤n.val ||| 32∧n.val ||| 32≤122)↔((97≤n.val∧n.val≤122)∨(65≤n.val∧n.val≤90)):=by decide +kernel
theorem low (b:UInt8):(97≤b.toNat ||| 32∧b.toNat ||| 32≤122)↔((97≤b.toNat∧b.toNat≤122)∨(65≤b.toNat∧b.toNat≤90)):=low_all ⟨b.toNat,b.toNat_lt⟩
section
variable (m:Mem) (L:List Item) (b:UInt8)
theorem letter_law : TCall Tryz.prog 100 ⟨[byteV b]⟩ m L (Ret (.bool (ltr b)) m L):=by
 unfold TCall;refine cK Tryz.func100 rfl 15 rfl ?_;have hb:b.toNat<256:=b.toNat_lt;have hlow:=low b;refine uA ?_;refine qs rfl (OT.orU8 (b:=32) rfl rfl rfl rfl rfl hb mw ?_);refine uA ?_;refine az (fun h1=>?_) (fun h1=>?_)
 ·refine uA ?_;refine qs rfl (OT.orU8 (b:=32) rfl rfl rfl rfl rfl hb mw ?_);refine uA ?_;refine az (fun h2=>?_) (fun h2=>?_)
  ·refine uA ?_;refine jy ?_;refine lw ?_;have:ltr b=true:=by
    have:=hlow.1 ⟨by omega,by omega⟩;unfold ltr;rcases this with h | h<;>simp[h]
   simp[this]
  ·exact fi
 ·exact fi
theorem digit_law : TCall Tryz.prog 103 ⟨[byteV b]⟩ m L (Ret (.bool (dgt b)) m L):=by
 unfold TCall;refine ak Tryz.func103 9 ?_;refine az (fun h1=>?_) (fun h1=>?_)
 ·refine uA ?_;refine jy ?_;refine lw ?_;unfold dgt
  congr 1
  apply propext;omega
 ·refine uA ?_;refine jy ?_;refine lw ?_;unfold dgt
  symm
  apply bR;omega
end
def IsClass (m:Mem) (L:List Item) (fn:FuncId) (cap:List Value) (p:UInt8→Bool):Prop:=Goes Tryz.prog fn∧∀ b:UInt8,TCall Tryz.prog fn ⟨byteV b::cap⟩ m L (Ret (.bool (p b)) m L)
theorem either_cl (m:Mem) (L:List Item) (b:UInt8) (b1 b2:Nat) (h1:At m b1 0 [.func (.func 100) ⟨[]⟩ ⟨[]⟩]) (h2:At m b2 0 [.func (.func 103) ⟨[]⟩ ⟨[]⟩]) :
  TCall Tryz.prog 140 ⟨[byteV b,.pointer (some ⟨b1,0,none⟩),.pointer (some ⟨b2,0,none⟩)]⟩ m L (Ret (.bool (lod b)) m L):=by
 unfold TCall;refine ak Tryz.func140 13 ?_;refine ap tab h1 ?_;refine au goes100 (letter_law m L b) ?_;refine aE (fun h3=>?_) (fun h3=>?_)
 ·refine uA ?_;exact jr
 ·refine uA ?_;refine ap tab h2 ?_;refine au goes103 (digit_law m L b) ?_;exact jr
theorem either_law (m:Mem) (L:List Item):TCall Tryz.prog 102 ⟨[.func (.func 100) ⟨[]⟩ ⟨[]⟩,.func (.func 103) ⟨[]⟩ ⟨[]⟩]⟩ m L
  (Made m L fun r m'=>∃ b1 b2,r = .func (.func 140) ⟨[]⟩ ⟨[.pointer (some ⟨b1,0,none⟩),.pointer (some ⟨b2,0,none⟩)]⟩∧At m' b1 0 [.func (.func 100) ⟨[]⟩ ⟨[]⟩]∧At m' b2 0 [.func (.func 103) ⟨[]⟩ ⟨[]⟩]):=by
 unfold TCall;refine cK Tryz.func102 rfl 6 rfl ?_;refine uB ?_;refine oB (fun b1=>?_);refine uB ?_;refine oB (fun b2=>?_);refine cX fun m1 hm1 hA1=>?_;refine cX fun m2 hm2 hA2=>?_;refine uA ?_;refine ag ⟨cD hm1 hm2,rfl,b1,b2,rfl,hA2,hA1.mono hm2⟩
def spanOf (p:UInt8→Bool) (s:Str):Nat:=(s.takeWhile p).length
theorem span_law (m:Mem) (L:List Item) (s:Str) (hs:s.length≤140737488355328) (p:UInt8→Bool) (fn:FuncId) (cap:List Value) (hc:IsClass m L fn cap p) :
  TCall Tryz.prog 101 ⟨[strV s,.func (.func fn) ⟨[]⟩ ⟨cap⟩]⟩ m L (Ret (.int .i64 (spanOf p s)) m L):=by
 unfold TCall;refine ak Tryz.func101 20 ?_;refine cH (ι:=Nat) [0,1] rfl (fun k=>[(5,.int .i64 (k:Int))]) (fun _=>m) (fun _=>L) (fun k=>k≤s.length∧spanOf p s=k+spanOf p (s.drop k)) (fun k=>s.length-k) 0 uH rfl uS ⟨cn _,by simp⟩ ?_;rintro k ⟨hk,hI⟩;refine uA ?_;refine az (fun h1=>?_) (fun h1=>?_)
 ·refine uA ?_;have hlt:k<s.length:=mv;have hx:s[k]? = some s[k]:=mG;refine qs rfl (OT.sidx tab k rfl rfl rfl rfl rfl rfl rfl hx ?_);refine uA ?_;refine qs rfl (cR (all:=byteV s[k]::cap) rfl rfl rfl rfl rfl nh hc.1 ((hc.2 s[k]).x ?_));refine ka ?_;refine uA ?_;refine aO (fun h2=>?_) (fun h2=>?_)
  ·refine uA ?_;refine jA ?_;refine⟨k+1,uH,uH,rfl,rfl,uS,⟨by omega,?_⟩,by omega⟩;rw[hI,bU hlt,spanOf,spanOf,List.takeWhile_cons_of_pos h2];simp;omega
  ·refine uA ?_;refine jy ?_;rw[hI,bU hlt,spanOf,List.takeWhile_cons_of_neg (by simp[h2])];simp
 ·refine uA ?_;refine jy ?_;rw[hI,ci mv];simp[spanOf]
end Go.Sep
namespace Go.Sep
open Go.Proofs
attribute [local irreducible] TC TO OT TCallX TCall DO DOt thenQ blockQ retQ At
def idx {α:Type} [DecidableEq α]:List α→α→Nat→Int
 | [],_,_=>-1
 | x::xs,v,k=>if v=x then (k:Int)else idx xs v (k+1)
theorem idx_not {α:Type} [DecidableEq α]:∀(l:List α) (v:α) (k:Nat),v∉l→idx l v k = -1
 | [],_,_,_=>rfl
 | x::xs,v,k,h=>by
  rw[idx,if_neg (fun e=>h (by simp[e])),idx_not xs v (k+1) (fun e=>h (by simp[e]))]
theorem idx_mem {α:Type} [DecidableEq α]:∀(l:List α) (v:α) (k:Nat),v∈l→∃ j,l[j]? = some v∧idx l v k=((k+j:Nat):Int)
 | [],_,_,h=>by cases h
 | x::xs,v,k,h=>by
  by_cases e:v=x
  ·exact⟨0,by simp[e],by rw[idx,if_pos e];rfl⟩
  ·have h':v∈xs:=by
    rcases List.mem_cons.1 h with h | h
    ·exact absurd h e
    ·exact h
   obtain⟨j,h1,h2⟩:=idx_mem xs v (k+1) h';exact⟨j+1,by simpa using h1,by rw[idx,if_neg e,h2];congr 1;omega⟩
theorem idx_ge {α:Type} [DecidableEq α] (l:List α) (v:α):decide (0≤idx l v 0)=decide (v∈l):=by
 by_cases h:v∈l
 ·obtain⟨j,_,h2⟩:=idx_mem l v 0 h;simp[h,h2]
 ·simp[h,idx_not l v 0 h]
def idxP {α:Type}:List α→(α→Bool)→Nat→Int
 | [],_,_=>-1
 | x::xs,p,k=>if p x=true then (k:Int)else idxP xs p (k+1)
theorem idxP_ge0 {α:Type}:∀(l:List α) (p:α→Bool) (k:Nat),decide (0≤idxP l p k)=l.any p
 | [],p,k=>by simp[idxP]
 | x::xs,p,k=>by
  simp only[idxP,List.any_cons];split
  ·rename_i h;simp[h]
  ·rename_i h;rw[idxP_ge0 xs p (k+1)];simp[h]
theorem idxP_ge {α:Type} (l:List α) (p:α→Bool):decide (0≤idxP l p 0)=l.any p:=idxP_ge0 l p 0
theorem index_str (m:Mem) (L:List Item) (s:Sl) (l:List Str) (v:Str) (hs:SlRep rStr m s l) :
  TCall Tryz.prog 116 ⟨[s.v,strV v]⟩ m L (Ret (.int .i64 (idx l v 0)) m L):=by
 unfold TCall;refine ak Tryz.func116 19 ?_;refine cH (ι:=Nat) [0,1,7] rfl (fun k=>[(8,.int .i64 (k:Int))]) (fun _=>m) (fun _=>L) (fun k=>k≤l.length∧idx l v 0=idx (l.drop k) v k) (fun k=>l.length-k) 0 uH rfl uS ⟨cn _,rfl⟩ ?_;rintro k ⟨hk,hI⟩;have hl:=hs.len;have hsm:=hs.small rfl;refine uA ?_;refine am (fun h=>?_) (fun h=>?_)
 ·have hlt:k<l.length:=mv;have hx:l[k]? = some l[k]:=mG;refine uA ?_;refine ar tab rStr k hs uH mD rfl hx ?_;rintro b i hd rfl hA
  (first | refine qs rfl (OT.loadA tab hA rfl rfl rfl rfl rfl ?_) | refine oL tab hA ?_)
  refine uA ?_;refine am (fun h=>?_) (fun h=>?_)
  ·refine uA ?_;refine jy ?_;rw[hI,bU hlt,idx,if_pos h]
  ·refine uA ?_;refine jA ?_;exact⟨k+1,uH,uH,rfl,rfl,uS,⟨by omega,by rw[hI,bU hlt,idx,if_neg h]⟩,by omega⟩
 ·exact fz
theorem contains_str (m:Mem) (L:List Item) (s:Sl) (l:List Str) (v:Str) (hs:SlRep rStr m s l) :
  TCall Tryz.prog 104 ⟨[s.v,strV v]⟩ m L (Ret (.bool (decide (v∈l))) m L):=by
 unfold TCall;refine ak Tryz.func104 9 ?_;refine au goes116 (index_str m L s l v hs) ?_;refine jy ?_;exact congrArg Value.bool (by rw[idx_ge];try congr)
end Go.Sep
namespace Go.Sep
open Go.Proofs
attribute [local irreducible] TC TO OT TCallX TCall DO DOt thenQ blockQ retQ At
def wordL : List Str:=[[116,121,112,101],[115,116,114,117,99,116],[105,110,116,101,114,102,97,99,101],[102,117,110,99],[118,97,114],[105,102],[101,108,115,101],[102,111,114],[114,101,116,117,114,110],[98,114,101,97,107],[99,111,110,116,105,110,117,101],[116,114,117,101],[102,97,108,115,101],[110,105,108]]
def isName (s:Str):Bool:=decide (0<s.length)&&(decide (s.length≤64)&&(!(s.head?.any dgt)&&(s.all lod&&!decide (s∈wordL))))
theorem all_refl2 {m:Mem}:∀ l:List Str,All2 (rStr.rep m) l l
 | []=>trivial
 | _::l=>⟨rfl,all_refl2 l⟩
theorem words_rep {m:Mem} {b:Nat} (h:At m b 0 (encs rStr wordL)):SlRep rStr m ⟨some ⟨b,0,none⟩,14,14⟩ wordL :=
 ⟨rfl,bF _,(by show 14*16≤_;decide),wordL,all_refl2 wordL,.inr ⟨b,0,rfl,h⟩⟩
theorem words_law (m:Mem) (L:List Item):TCall Tryz.prog 105 ⟨[]⟩ m L (Made m L fun r m'=>∃ s:Sl,r=s.v∧SlRep rStr m' s wordL):=by
 unfold TCall;refine cK Tryz.func105 rfl 2 rfl ?_;refine uB ?_;refine qs rfl (OT.lit tab rfl rfl rfl rfl (fun b=>?_));refine cX fun m1 hm1 hA1=>?_;refine uA ?_;exact cI rfl uS ⟨hm1,rfl,_,rfl,words_rep hA1⟩
theorem span_full (p:UInt8→Bool) (s:Str):spanOf p s=s.length↔s.all p=true:=by
 unfold spanOf
 induction s with
 | nil=>simp
 | cons x xs ih =>
  by_cases h:p x=true
  ·rw[List.takeWhile_cons_of_pos h];simp[h,ih]
  ·rw[List.takeWhile_cons_of_neg h];simp[h]
theorem dgt_ltr (b:UInt8):ltr b=(lod b&&!dgt b):=by
 have hb:b.toNat<256:=b.toNat_lt;unfold lod ltr dgt;rw[Bool.eq_iff_iff];simp only[bE,bj,bw,Bool.not_eq_true',decide_eq_false_iff_not];omega
theorem isName_eq {s:Str} (h:0<s.length):isName s=(decide (s.length≤64)&&(ltr s[0]&&(s.all lod&&!decide (s∈wordL)))):=by
 cases s with
 | nil=>cases h
 | cons x xs =>
  unfold isName;rw[bQ h,bP]
  congr 1
  simp only[List.head?_cons,Option.any_some,List.getElem_cons_zero,dgt_ltr,cr];cases dgt x<;>cases lod x<;>simp
theorem name_law (m:Mem) (L:List Item) (s:Str) (hs:s.length≤140737488355328):TCall Tryz.prog 84 ⟨[strV s]⟩ m L (Ret (.bool (isName s)) m L):=by
 refine lD ?_;unfold TCall;refine ak Tryz.func84 29 ?_;refine cL rfl rfl (fun h1=>?_) (fun h1=>?_)
 ·refine uA ?_;refine az (fun h2=>?_) (fun h2=>?_)
  ·refine uA ?_;have hlt:0<s.length:=List.length_pos_iff.2 h1;have hx:s[0]? = some s[0]:=mG;refine j8 ?_;refine uA ?_;refine au goes100 (letter_law m L s[0]) ?_;refine aE (fun h3=>?_) (fun h3=>?_)
   ·refine uA ?_;refine oC goes102 ((either_law m L).x ?_);rintro _ m1 _ ⟨hm1,rfl,b1,b2,rfl,hA1,hA2⟩;refine uA ?_;refine au goes101 (span_law m1 L s hs lod 140 _ ⟨goes140,fun b=>either_cl m1 L b b1 b2 hA1 hA2⟩) ?_;refine az (fun h4=>?_) (fun h4=>?_)
    ·refine uA ?_;refine oC goes105 ((words_law m1 L).x ?_);rintro _ m2 _ ⟨hm2,rfl,w,rfl,hw⟩;refine uA ?_;refine au goes104 (contains_str m2 L w wordL s hw) ?_;refine ag ⟨cD hm1 hm2,rfl,?_⟩;rw[isName_eq hlt,bQ mv,h3,(span_full lod s).1 mv];rfl
    ·refine uA ?_;refine jZ ?_;have h5:s.all lod=false:=Bool.eq_false_iff.2 (fun h=>h4 (by have:=(span_full lod s).2 h;omega));rw[isName_eq hlt,bQ mv,h3,h5];rfl
   ·refine uA ?_;refine jL ?_;rw[isName_eq hlt,bQ mv,h3];rfl
  ·refine uA ?_;refine jL ?_;have hlt:0<s.length:=List.length_pos_iff.2 h1;rw[isName_eq hlt,bR mv];rfl
 ·refine uA ?_;refine jL ?_;rw[h1];rfl
end Go.Sep
