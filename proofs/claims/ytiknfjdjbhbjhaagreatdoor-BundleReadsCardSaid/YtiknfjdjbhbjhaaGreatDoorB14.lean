/-
  Part 14 of the proof: library, walks and plain laws.
-/
import Derived.Lib.Bytealg
import Derived.Test.YtiknfjdjbhbjhaaGreatDoorB13
set_option linter.unusedVariables false
set_option linter.unusedSimpArgs false
namespace Go.Ev
open Go.Sep Go.Proofs
noncomputable abbrev fl (f : Func) (k : Nat) : FT := .node .nil k f .nil
theorem fk {f : Func} {k : Nat} (h : Tryz.prog.funcs[k]? = some f) (g : Goes Tryz.prog k) : AllF Tryz.prog (fl f k):=⟨trivial,⟨h,g⟩,trivial⟩
noncomputable def ft : FT:=(.node (.node (.node (.node (.node (.node (.node (fl Tryz.f24 24) 34 Tryz.f34 .nil) 40 Tryz.f40 (.node (fl Tryz.f48 48) 52 Tryz.f52 .nil)) 60 Tryz.f60 (.node (.node (fl Tryz.f61 61) 62 Tryz.f62 .nil) 63 Tryz.f63 (.node (fl Tryz.f64 64) 75 Tryz.f75 .nil))) 76 Tryz.f76 (.node (.node (.node (fl Tryz.f77 77) 78 Tryz.f78 .nil) 79 Tryz.f79 (.node (fl Tryz.f80 80) 85 Tryz.f85 .nil)) 86 Tryz.f86 (.node (.node (fl Tryz.f87 87) 88 Tryz.f88 .nil) 100 Tryz.f100 (fl Tryz.f105 105)))) 106 Tryz.f106 (.node (.node (.node (.node (fl Tryz.f107 107) 108 Tryz.f108 .nil) 109 Tryz.f109 (.node (fl Tryz.f110 110) 133 Tryz.f133 .nil)) 134 Tryz.f134 (.node (.node (fl Tryz.f146 146) 150 Tryz.f150 .nil) 151 Tryz.f151 (fl Tryz.f152 152))) 153 Tryz.f153 (.node (.node (.node (fl Tryz.f154 154) 155 Tryz.f155 .nil) 156 Tryz.f156 (.node (fl Tryz.f157 157) 158 Tryz.f158 .nil)) 159 Tryz.f159 (.node (.node (fl Tryz.f160 160) 161 Tryz.f161 .nil) 167 Tryz.f167 (fl Tryz.f170 170))))) 171 Tryz.f171 (.node (.node (.node (.node (.node (fl Tryz.f172 172) 174 Tryz.f174 .nil) 175 Tryz.f175 (.node (fl Tryz.f177 177) 178 Tryz.f178 .nil)) 179 Tryz.f179 (.node (.node (fl Tryz.f180 180) 181 Tryz.f181 .nil) 182 Tryz.f182 (fl Tryz.f183 183))) 185 Tryz.f185 (.node (.node (.node (fl Tryz.f186 186) 188 Tryz.f188 .nil) 189 Tryz.f189 (.node (fl Tryz.f217 217) 218 Tryz.f218 .nil)) 219 Tryz.f219 (.node (.node (fl Tryz.f220 220) 221 Tryz.f221 .nil) 222 Tryz.f222 (fl Tryz.f223 223)))) 224 Tryz.f224 (.node (.node (.node (.node (fl Tryz.f225 225) 226 Tryz.f226 .nil) 227 Tryz.f227 (.node (fl Tryz.f228 228) 249 Tryz.f249 .nil)) 251 Tryz.f251 (.node (.node (fl Tryz.f252 252) 253 Tryz.f253 .nil) 255 Tryz.f255 (fl Tryz.f257 257))) 258 Tryz.f258 (.node (.node (.node (fl Tryz.f259 259) 260 Tryz.f260 .nil) 261 Tryz.f261 (.node (fl Tryz.f267 267) 269 Tryz.f269 .nil)) 272 Tryz.f272 (.node (.node (fl Tryz.f273 273) 275 Tryz.f275 .nil) 276 Tryz.f276 (fl Tryz.f277 277)))))) 278 Tryz.f278 (.node (.node (.node (.node (.node (.node (fl Tryz.f280 280) 293 Tryz.f293 .nil) 294 Tryz.f294 (.node (fl Tryz.f295 295) 297 Tryz.f297 .nil)) 298 Tryz.f298 (.node (.node (fl Tryz.f299 299) 300 Tryz.f300 .nil) 301 Tryz.f301 (.node (fl Tryz.f302 302) 303 Tryz.f303 .nil))) 304 Tryz.f304 (.node (.node (.node (fl Tryz.f305 305) 306 Tryz.f306 .nil) 307 Tryz.f307 (.node (fl Tryz.f308 308) 309 Tryz.f309 .nil)) 310 Tryz.f310 (.node (.node (fl Tryz.f311 311) 312 Tryz.f312 .nil) 313 Tryz.f313 (fl Tryz.f314 314)))) 315 Tryz.f315 (.node (.node (.node (.node (fl Tryz.f324 324) 325 Tryz.f325 .nil) 326 Tryz.f326 (.node (fl Tryz.f327 327) 328 Tryz.f328 .nil)) 332 Tryz.f332 (.node (.node (fl Tryz.f335 335) 336 Tryz.f336 .nil) 339 Tryz.f339 (fl Tryz.f346 346))) 348 Tryz.f348 (.node (.node (.node (fl Tryz.f351 351) 352 Tryz.f352 .nil) 354 Tryz.f354 (.node (fl Tryz.f355 355) 359 Tryz.f359 .nil)) 363 Tryz.f363 (.node (.node (fl Tryz.f367 367) 369 Tryz.f369 .nil) 370 Tryz.f370 (fl Tryz.f371 371))))) 372 Tryz.f372 (.node (.node (.node (.node (.node (fl Tryz.f374 374) 383 Tryz.f383 .nil) 385 Tryz.f385 (.node (fl Tryz.f386 386) 387 Tryz.f387 .nil)) 389 Tryz.f389 (.node (.node (fl Tryz.f393 393) 394 Tryz.f394 .nil) 396 Tryz.f396 (fl Tryz.f405 405))) 410 Tryz.f410 (.node (.node (.node (fl Tryz.f412 412) 415 Tryz.f415 .nil) 416 Tryz.f416 (.node (fl Tryz.f418 418) 422 Tryz.f422 .nil)) 424 Tryz.f424 (.node (.node (fl Tryz.f427 427) 428 Tryz.f428 .nil) 452 Tryz.f452 (fl Tryz.f453 453)))) 455 Tryz.f455 (.node (.node (.node (.node (fl Tryz.f458 458) 459 Tryz.f459 .nil) 460 Tryz.f460 (.node (fl Tryz.f461 461) 464 Tryz.f464 .nil)) 483 Tryz.f483 (.node (.node (fl Tryz.f486 486) 487 Tryz.f487 .nil) 492 Tryz.f492 (fl Tryz.f493 493))) 494 Tryz.f494 (.node (.node (.node (fl Tryz.f497 497) 508 Tryz.f508 .nil) 534 Tryz.f534 (.node (fl Tryz.f544 544) 556 Tryz.f556 .nil)) 627 Tryz.f627 (.node (.node (fl Tryz.f679 679) 680 Tryz.f680 .nil) 683 Tryz.f683 (fl Tryz.f684 684)))))))
theorem ft_all : AllF Tryz.prog ft:=⟨⟨⟨⟨⟨⟨⟨(fk Tryz.func24 goes24),⟨Tryz.func34,goes34⟩,trivial⟩,⟨Tryz.func40,goes40⟩,⟨(fk Tryz.func48 goes48),⟨Tryz.func52,goes52⟩,trivial⟩⟩,⟨Tryz.func60,goes60⟩,⟨⟨(fk Tryz.func61 goes61),⟨Tryz.func62,goes62⟩,trivial⟩,⟨Tryz.func63,goes63⟩,⟨(fk Tryz.func64 goes64),⟨Tryz.func75,goes75⟩,trivial⟩⟩⟩,⟨Tryz.func76,goes76⟩,⟨⟨⟨(fk Tryz.func77 goes77),⟨Tryz.func78,goes78⟩,trivial⟩,⟨Tryz.func79,goes79⟩,⟨(fk Tryz.func80 goes80),⟨Tryz.func85,goes85⟩,trivial⟩⟩,⟨Tryz.func86,goes86⟩,⟨⟨(fk Tryz.func87 goes87),⟨Tryz.func88,goes88⟩,trivial⟩,⟨Tryz.func100,goes100⟩,(fk Tryz.func105 goes105)⟩⟩⟩,⟨Tryz.func106,goes106⟩,⟨⟨⟨⟨(fk Tryz.func107 goes107),⟨Tryz.func108,goes108⟩,trivial⟩,⟨Tryz.func109,goes109⟩,⟨(fk Tryz.func110 goes110),⟨Tryz.func133,goes133⟩,trivial⟩⟩,⟨Tryz.func134,goes134⟩,⟨⟨(fk Tryz.func146 goes146),⟨Tryz.func150,goes150⟩,trivial⟩,⟨Tryz.func151,goes151⟩,(fk Tryz.func152 goes152)⟩⟩,⟨Tryz.func153,goes153⟩,⟨⟨⟨(fk Tryz.func154 goes154),⟨Tryz.func155,goes155⟩,trivial⟩,⟨Tryz.func156,goes156⟩,⟨(fk Tryz.func157 goes157),⟨Tryz.func158,goes158⟩,trivial⟩⟩,⟨Tryz.func159,goes159⟩,⟨⟨(fk Tryz.func160 goes160),⟨Tryz.func161,goes161⟩,trivial⟩,⟨Tryz.func167,goes167⟩,(fk Tryz.func170 goes170)⟩⟩⟩⟩,⟨Tryz.func171,goes171⟩,⟨⟨⟨⟨⟨(fk Tryz.func172 goes172),⟨Tryz.func174,goes174⟩,trivial⟩,⟨Tryz.func175,goes175⟩,⟨(fk Tryz.func177 goes177),⟨Tryz.func178,goes178⟩,trivial⟩⟩,⟨Tryz.func179,goes179⟩,⟨⟨(fk Tryz.func180 goes180),⟨Tryz.func181,goes181⟩,trivial⟩,⟨Tryz.func182,goes182⟩,(fk Tryz.func183 goes183)⟩⟩,⟨Tryz.func185,goes185⟩,⟨⟨⟨(fk Tryz.func186 goes186),⟨Tryz.func188,goes188⟩,trivial⟩,⟨Tryz.func189,goes189⟩,⟨(fk Tryz.func217 goes217),⟨Tryz.func218,goes218⟩,trivial⟩⟩,⟨Tryz.func219,goes219⟩,⟨⟨(fk Tryz.func220 goes220),⟨Tryz.func221,goes221⟩,trivial⟩,⟨Tryz.func222,goes222⟩,(fk Tryz.func223 goes223)⟩⟩⟩,⟨Tryz.func224,goes224⟩,⟨⟨⟨⟨(fk Tryz.func225 goes225),⟨Tryz.func226,goes226⟩,trivial⟩,⟨Tryz.func227,goes227⟩,⟨(fk Tryz.func228 goes228),⟨Tryz.func249,goes249⟩,trivial⟩⟩,⟨Tryz.func251,goes251⟩,⟨⟨(fk Tryz.func252 goes252),⟨Tryz.func253,goes253⟩,trivial⟩,⟨Tryz.func255,goes255⟩,(fk Tryz.func257 goes257)⟩⟩,⟨Tryz.func258,goes258⟩,⟨⟨⟨(fk Tryz.func259 goes259),⟨Tryz.func260,goes260⟩,trivial⟩,⟨Tryz.func261,goes261⟩,⟨(fk Tryz.func267 goes267),⟨Tryz.func269,goes269⟩,trivial⟩⟩,⟨Tryz.func272,goes272⟩,⟨⟨(fk Tryz.func273 goes273),⟨Tryz.func275,goes275⟩,trivial⟩,⟨Tryz.func276,goes276⟩,(fk Tryz.func277 goes277)⟩⟩⟩⟩⟩,⟨Tryz.func278,goes278⟩,⟨⟨⟨⟨⟨⟨(fk Tryz.func280 goes280),⟨Tryz.func293,goes293⟩,trivial⟩,⟨Tryz.func294,goes294⟩,⟨(fk Tryz.func295 goes295),⟨Tryz.func297,goes297⟩,trivial⟩⟩,⟨Tryz.func298,goes298⟩,⟨⟨(fk Tryz.func299 goes299),⟨Tryz.func300,goes300⟩,trivial⟩,⟨Tryz.func301,goes301⟩,⟨(fk Tryz.func302 goes302),⟨Tryz.func303,goes303⟩,trivial⟩⟩⟩,⟨Tryz.func304,goes304⟩,⟨⟨⟨(fk Tryz.func305 goes305),⟨Tryz.func306,goes306⟩,trivial⟩,⟨Tryz.func307,goes307⟩,⟨(fk Tryz.func308 goes308),⟨Tryz.func309,goes309⟩,trivial⟩⟩,⟨Tryz.func310,goes310⟩,⟨⟨(fk Tryz.func311 goes311),⟨Tryz.func312,goes312⟩,trivial⟩,⟨Tryz.func313,goes313⟩,(fk Tryz.func314 goes314)⟩⟩⟩,⟨Tryz.func315,goes315⟩,⟨⟨⟨⟨(fk Tryz.func324 goes324),⟨Tryz.func325,goes325⟩,trivial⟩,⟨Tryz.func326,goes326⟩,⟨(fk Tryz.func327 goes327),⟨Tryz.func328,goes328⟩,trivial⟩⟩,⟨Tryz.func332,goes332⟩,⟨⟨(fk Tryz.func335 goes335),⟨Tryz.func336,goes336⟩,trivial⟩,⟨Tryz.func339,goes339⟩,(fk Tryz.func346 goes346)⟩⟩,⟨Tryz.func348,goes348⟩,⟨⟨⟨(fk Tryz.func351 goes351),⟨Tryz.func352,goes352⟩,trivial⟩,⟨Tryz.func354,goes354⟩,⟨(fk Tryz.func355 goes355),⟨Tryz.func359,goes359⟩,trivial⟩⟩,⟨Tryz.func363,goes363⟩,⟨⟨(fk Tryz.func367 goes367),⟨Tryz.func369,goes369⟩,trivial⟩,⟨Tryz.func370,goes370⟩,(fk Tryz.func371 goes371)⟩⟩⟩⟩,⟨Tryz.func372,goes372⟩,⟨⟨⟨⟨⟨(fk Tryz.func374 goes374),⟨Tryz.func383,goes383⟩,trivial⟩,⟨Tryz.func385,goes385⟩,⟨(fk Tryz.func386 goes386),⟨Tryz.func387,goes387⟩,trivial⟩⟩,⟨Tryz.func389,goes389⟩,⟨⟨(fk Tryz.func393 goes393),⟨Tryz.func394,goes394⟩,trivial⟩,⟨Tryz.func396,goes396⟩,(fk Tryz.func405 goes405)⟩⟩,⟨Tryz.func410,goes410⟩,⟨⟨⟨(fk Tryz.func412 goes412),⟨Tryz.func415,goes415⟩,trivial⟩,⟨Tryz.func416,goes416⟩,⟨(fk Tryz.func418 goes418),⟨Tryz.func422,goes422⟩,trivial⟩⟩,⟨Tryz.func424,goes424⟩,⟨⟨(fk Tryz.func427 goes427),⟨Tryz.func428,goes428⟩,trivial⟩,⟨Tryz.func452,goes452⟩,(fk Tryz.func453 goes453)⟩⟩⟩,⟨Tryz.func455,goes455⟩,⟨⟨⟨⟨(fk Tryz.func458 goes458),⟨Tryz.func459,goes459⟩,trivial⟩,⟨Tryz.func460,goes460⟩,⟨(fk Tryz.func461 goes461),⟨Tryz.func464,goes464⟩,trivial⟩⟩,⟨Tryz.func483,goes483⟩,⟨⟨(fk Tryz.func486 goes486),⟨Tryz.func487,goes487⟩,trivial⟩,⟨Tryz.func492,goes492⟩,(fk Tryz.func493 goes493)⟩⟩,⟨Tryz.func494,goes494⟩,⟨⟨⟨(fk Tryz.func497 goes497),⟨Tryz.func508,goes508⟩,trivial⟩,⟨Tryz.func534,goes534⟩,⟨(fk Tryz.func544 goes544),⟨Tryz.func556,goes556⟩,trivial⟩⟩,⟨Tryz.func627,goes627⟩,⟨⟨(fk Tryz.func679 goes679),⟨Tryz.func680,goes680⟩,trivial⟩,⟨Tryz.func683,goes683⟩,(fk Tryz.func684 goes684)⟩⟩⟩⟩⟩⟩
noncomputable def E0 : Env0:=⟨getT tbl,getF ft,329⟩
theorem indexI_eq (c : Nat) (hc : c < 256) : ∀ l : List UInt8,indexI c l=Lib.indexByte l (UInt8.ofNat c)
 | []=>rfl
 | x :: l=>by
  have ih:=indexI_eq c hc l
  have e : indexB c (x :: l)=bif Nat.beq x.toNat c then some 0 else match indexB c l with
   | some i=>some (i + 1)
   | none=>none:=rfl
  have h1 : (x == UInt8.ofNat c)=Nat.beq x.toNat c:=by
   have : (UInt8.ofNat c).toNat=c:=by simp [UInt8.toNat_ofNat',Nat.mod_eq_of_lt hc]
   cases hq : Nat.beq x.toNat c with
   | true =>
    have:=Nat.eq_of_beq_eq_true hq
    rw [beq_iff_eq]
    apply UInt8.toNat_inj.mp
    omega
   | false =>
    have h2:=Nat.ne_of_beq_eq_false hq
    rw [beq_eq_false_iff_ne]
    intro h3
    rw [h3] at h2
    omega
  simp only [indexI] at ih ⊢
  rw [e]
  rw [Lib.indexByte,h1]
  cases hq : Nat.beq x.toNat c with
  | true=>simp
  | false =>
   simp only [cond_false]
   rw [← ih]
   cases indexB c l with
   | none=>simp
   | some i=>simp
theorem envOk : EnvOk Tryz.prog tab E0 where
 ti:=rfl
 ft:=fun f fn h=>getF_ok ft_all f fn h
 ix:=fun l c w hc=>by
  have h2:=Lib.run_indexByteString (P:=Tryz.prog) ⟨⟨l⟩⟩ (c : Int) w
  have h1:=run_callFunc_extern (P:=Tryz.prog) (e:=Extern.BytealgIndexByte.indexByte) Tryz.func329 (by kernel_rfl) (by kernel_rfl) (by kernel_rfl) (by kernel_rfl) ⟨[.string ⟨⟨l⟩⟩, .int .u8 (.ofNat c)]⟩ w
  rw [indexI_eq c hc]
  refine h1.trans ?_
  refine (congrArg (fun r=>Result.andThen r _) h2).trans ?_
  rfl
 mixed:=mixed
noncomputable def chk (r : R (Value × S)) : Bool:=match r with
 | .ok (.tuple ⟨[.agg ⟨[.int k0 x0, .int k1 x1, .int k2 x2, .slice (some ⟨id,o,none⟩) n c, .int k4 x4, .int k5 x5]⟩, .int .i64 (.ofNat e)]⟩,s)=>Nat.beq o 0 && Nat.beq n 2 && Nat.beq e 0 && Nat.ble 2 c && match s.m.at id with
  | some (.cells (.int .u8 (.ofNat x) :: .int .u8 (.ofNat y) :: _) _)=>Nat.beq x 49 && Nat.beq y 10
  | _=>false
 | _=>false
theorem chk_ok {r : R (Value × S)} (h : chk r=true) : ∃ k0 k1 k2 k4 k5 x0 x1 x2 x4 x5 id c s cs esz,r = .ok (.tuple ⟨[.agg ⟨[.int k0 x0, .int k1 x1, .int k2 x2, .slice (some ⟨id,0,none⟩) 2 c, .int k4 x4, .int k5 x5]⟩, .int .i64 0]⟩,s)∧s.m.at id=some (.cells (.int .u8 49 :: .int .u8 10 :: cs) esz)∧2 ≤ c:=by
 unfold chk at h
 split at h
 ·rename_i k0 x0 k1 x1 k2 x2 id o n c k4 x4 k5 x5 e s
  simp only [Bool.and_eq_true] at h
  obtain ⟨⟨⟨⟨h1,h2⟩,h3⟩,h5⟩,h4⟩:=h
  have h5:=Nat.le_of_ble_eq_true h5
  obtain rfl:=Nat.eq_of_beq_eq_true h1
  obtain rfl:=Nat.eq_of_beq_eq_true h2
  obtain rfl:=Nat.eq_of_beq_eq_true h3
  split at h4
  ·rename_i x y cs esz hq
   simp only [Bool.and_eq_true] at h4
   obtain rfl:=Nat.eq_of_beq_eq_true h4.1
   obtain rfl:=Nat.eq_of_beq_eq_true h4.2
   exact ⟨_,_,_,_,_,_,_,_,_,_,_,_,_,_,_,rfl,hq,h5⟩
  ·cases h4
 ·cases h
noncomputable def runArgs : List Value:=[.string ⟨⟨[102,117,110,99,32,109,97,105,110,40,41,32,123,32,112,114,105,110,116,40,49,41,59,32,125,10]⟩⟩, .int .i64 0, .agg ⟨[.int .i64 40000, .int .i64 40000, .int .i64 2000000, .slice none 0 0, .slice none 0 0]⟩]
theorem runs : chk ((run E0 100000).call 52 runArgs ⟨.leaf,0⟩)=true:=by kernel_rfl
theorem run_law (m : Mem) (L : List Sep.Item) : TCall Tryz.prog 52 ⟨runArgs⟩ m L fun u m' L'=>m ≤ m' ∧ L' = L ∧ ∃ k0 k1 k2 k4 k5 x0 x1 x2 x4 x5 b o c,u = .tuple ⟨[.agg ⟨[.int k0 x0, .int k1 x1, .int k2 x2, .slice (some ⟨b,o,none⟩) 2 c, .int k4 x4, .int k5 x5]⟩, .int .i64 0]⟩ ∧ At m' b o [.int .u8 49, .int .u8 10]∧2 ≤ c:=by
 obtain ⟨k0,k1,k2,k4,k5,x0,x1,x2,x4,x5,id,c,s,cs,esz,h1,h2,hc2⟩:=chk_ok runs
 refine TCallX.mono (tcall_run envOk h1 (.inr fun φ => .cons (.same rfl) (.cons (.same rfl) (.cons (.agg (VRs.ofFlat rfl)) .nil))) h2 m L) (fun u m' L' hh => ?_) (fun _ _ _ h=>h)
 obtain ⟨hm,hL, φ,Lc,us,hv,hid,hus,hat⟩:=hh
 refine ⟨hm,hL, ?_⟩
 obtain ⟨_,rfl,ht⟩:=hv.tuple_inv
 cases ht with | cons ha ht =>
 cases ht with | cons he ht =>
 cases ht with | nil =>
 obtain rfl:=he.flat_inv rfl
 obtain ⟨_,rfl,hg⟩:=ha.agg_inv
 cases hg with | cons hh0 hg =>
 cases hg with | cons hh1 hg =>
 cases hg with | cons hh2 hg =>
 cases hg with | cons hsl hg =>
 cases hg with | cons hh4 hg =>
 cases hg with | cons hh5 hg =>
 cases hg with | nil =>
 cases hus with | cons hx hus =>
 cases hus with | cons hy hus =>
 obtain rfl:=hx.flat_inv rfl
 obtain rfl:=hy.flat_inv rfl
 have hat2 : At m' Lc.b Lc.base [.int .u8 49, .int .u8 10]:=fun j v hj=>hat j v (by
  match j,hj with
  | 0,hj=>exact hj
  | 1,hj=>exact hj
  | _ + 2,hj=>cases hj)
 obtain ⟨_,L2,cap,k1,rfl,k3⟩:=hsl.slice_inv
 obtain rfl : Lc=L2:=Option.some.inj (hid.symm.trans k1)
 obtain rfl:=hh0.flat_inv rfl
 obtain rfl:=hh1.flat_inv rfl
 obtain rfl:=hh2.flat_inv rfl
 obtain rfl:=hh4.flat_inv rfl
 obtain rfl:=hh5.flat_inv rfl
 exact ⟨_,_,_,_,_,_,_,_,_,_,_,_,_,rfl,hat2,by
  rcases k3 with ⟨_,e⟩ | ⟨_,e,_⟩ | ⟨_,e⟩ <;> omega⟩
end Go.Ev
