/- ScQuote -/
import Derived.Test.YtinmchaljlekgaaGreatDoorB7
set_option linter.unusedVariables false
set_option linter.unusedSimpArgs false
namespace Go.Sep
open Go.Proofs
attribute [local irreducible] TC TO OT TCallX TCall DO DOt thenQ blockQ retQ At
def hexD (n : Nat) : UInt8:=UInt8.ofNat (if n < 10 then 48 + n else 87 + n)
def quoteC (c : UInt8) : Str :=
 if c.toNat=10 then [92,110] else if c.toNat=9 then [92,116] else if c.toNat=34 ∨ c.toNat=92 then [92,c]
 else if 32 ≤ c.toNat∧c.toNat ≤ 126 then [c] else [92,120,hexD (c.toNat / 16),hexD (c.toNat % 16)]
def quoteB (s : Str) : Str:=s.flatMap quoteC
def quoteD (s : Str) : Str:=34 :: (quoteB s++[34])
theorem quoteC_len (c : UInt8) : (quoteC c).length ≤ 4:=by
 unfold quoteC
 repeat' split
 all_goals simp
theorem quoteB_len (s : Str) : (quoteB s).length ≤ 4 * s.length:=by
 induction s with
 | nil=>simp [quoteB]
 | cons c r ih =>
  have:=quoteC_len c
  unfold quoteB at ih ⊢
  rw [List.flatMap_cons,List.length_append,List.length_cons]
  omega
theorem quoteB_take {s : Str} {i : Nat} (h : i < s.length) : quoteB (s.take (i + 1))=quoteB (s.take i)++quoteC s[i]:=by
 unfold quoteB
 rw [List.take_succ_eq_append_getElem h,List.flatMap_append]
 simp
theorem hexS_get {n : Nat} (h : n < 16) : ([48,49,50,51,52,53,54,55,56,57,97,98,99,100,101,102] : Str)[n]? = some (hexD n):=by
 have:=(by decide +kernel : ∀ n : Fin 16,([48,49,50,51,52,53,54,55,56,57,97,98,99,100,101,102] : Str)[n.val]? = some (hexD n.val)) ⟨n,h⟩
 exact this
theorem u8_shr4 (n : Nat) : (if BinOp.shr = .shl then IntKind.u8.wrap ((n : Int) * 2 ^ (min (Int.toNat 4) IntKind.u8.bits)) else Int.fdiv (n : Int) (2 ^ (min (Int.toNat 4) IntKind.u8.bits)))=((n / 16 : Nat) : Int):=by
 have : (min (Int.toNat 4) IntKind.u8.bits)=4:=rfl
 rw [this,if_neg (by decide)]
 rw [Int.fdiv_eq_ediv_of_nonneg _ (by decide)]
 rfl
theorem qc_nl {c : UInt8} (h : c.toNat=10) : quoteC c=[92,110]:=by rw [quoteC,if_pos h]
theorem qc_tab {c : UInt8} (h : c.toNat=9) : quoteC c=[92,116]:=by rw [quoteC,if_neg (by omega),if_pos h]
theorem qc_self {c : UInt8} (h : c.toNat=34 ∨ c.toNat=92) : quoteC c=[92,c]:=by rw [quoteC,if_neg (by omega),if_neg (by omega),if_pos h]
theorem qc_one {c : UInt8} (h1 : c.toNat ≠ 34) (h2 : c.toNat ≠ 92) (h3 : 32 ≤ c.toNat) (h4 : c.toNat ≤ 126) : quoteC c=[c]:=by rw [quoteC,if_neg (by omega),if_neg (by omega),if_neg (by omega),if_pos ⟨h3,h4⟩]
theorem qc_hex {c : UInt8} (h1 : c.toNat ≠ 10) (h2 : c.toNat ≠ 9) (h : c.toNat < 32 ∨ 126 < c.toNat) : quoteC c=[92,120,hexD (c.toNat / 16),hexD (c.toNat % 16)]:=by rw [quoteC,if_neg h1,if_neg h2,if_neg (by omega),if_neg (by omega)]
structure QuoS where
 m : Mem
 sl : Sl
 i : Nat
 acc : Str
set_option maxHeartbeats 2000000 in
theorem quote_law (m : Mem) (L : List Item) (s : Str) (hl : s.length ≤ 1099511627776) : TCall Tryz.prog 87 ⟨[strV s]⟩ m L (Ret (strV (quoteD s)) m L):=by
 refine TCall.forget ?_
 unfold TCall
 refine TCallX.enter Tryz.func87 rfl 61 rfl ?_
 repeat (first|refine q1 ?_|refine q3 ?_|refine q4 tab rfl rfl ?_|refine q5 ?_|refine q6 ?_)
 refine TO.step rfl (OT.lit tab rfl rfl rfl rfl (fun b => ?_))
 refine TO.freeze fun m1 hm1 hA1 => ?_
 refine TO.tokFull b 1 ?_
 repeat (first|refine q1 ?_|refine q2 ?_|refine q3 ?_|refine q4 tab rfl rfl ?_|refine q5 ?_|refine q6 ?_)
 refine TC.loopK (ι:=QuoS) [0,8] rfl (fun x=>[(3,x.sl.v),(9, .int .i64 (x.i : Int))]) (fun x=>x.m) (fun x=>tok x.sl 1 :: L) (fun x=>m ≤ x.m∧x.i ≤ s.length∧SlRep rByte x.m x.sl x.acc∧Own x.sl∧x.acc=34 :: quoteB (s.take x.i)) (fun x=>s.length - x.i) ⟨m1,⟨some ⟨b,0,none⟩,1,1⟩,0,[34]⟩ (by repeat (first|exact trivial|refine And.intro rfl ?_)) rfl (by repeat (exact List.Sublist.refl _)) ⟨hm1,Nat.zero_le _,SlRep.bytes (bs:=[34]) hA1 rfl (by decide),Own.lit _ _ _,rfl⟩ ?_
 rintro ⟨m1,sl,i,acc⟩ ⟨hm,hi,hsl,hown,hacc⟩
 replace hm : m ≤ m1:=hm
 replace hi : i ≤ s.length:=hi
 replace hsl : SlRep rByte m1 sl acc:=hsl
 replace hown : Own sl:=hown
 replace hacc : acc=34 :: quoteB (s.take i):=hacc
 have hal : acc.length ≤ 4 * i + 1:=by
  rw [hacc,List.length_cons]
  have:=quoteB_len (s.take i)
  rw [List.length_take] at this
  omega
 show TC _ _ _ ((3,sl.v) :: (9, .int .i64 (i : Int)) :: _) _ m1 (tok sl 1 :: L) _
 repeat (first|refine q1 ?_|refine q3 ?_|refine q4 tab rfl rfl ?_|refine q5 ?_|refine q6 ?_)
 refine TC.condP rfl (fun g1 => ?_) (fun g1 => ?_)
 ·have hlt : i < s.length:=by omega
  have hx : s[i]? = some s[i]:=by simp [hlt]
  have hc : s[i].toNat < 256:=s[i].toNat_lt
  repeat (first|refine q1 ?_|refine q2 ?_|refine q3 ?_|refine q4 tab rfl rfl ?_|refine q5 ?_|refine q6 ?_|refine q13 ?_)
  refine TO.step rfl (OT.sidx tab i rfl rfl rfl rfl rfl rfl rfl hx ?_)
  repeat (first|refine q1 ?_|refine q2 ?_|refine q3 ?_|refine q4 tab rfl rfl ?_|refine q5 ?_|refine q6 ?_)
  refine TC.condP rfl (fun c1 => ?_) (fun c1 => ?_)
  ·repeat (first|refine q3 ?_|refine q4 tab rfl rfl ?_)
   refine TO.step rfl (OT.appendS tab 0 (bs:=[92,110]) hsl hown rfl rfl rfl rfl rfl rfl rfl rfl rfl rfl rfl (by show acc.length + 2 ≤ _;omega) (fun s' m3 hm3 hs' ho' => ?_))
   repeat (first|refine q3 ?_|refine q4 tab rfl rfl ?_|refine q5 ?_|refine q6 ?_|refine q7 ?_)
   refine TO.step rfl (OT.arith (r':=((i + 1 : Nat) : Int)) rfl rfl rfl rfl rfl rfl rfl (by omega) ?_)
   repeat (first|refine q4 tab rfl rfl ?_|refine q5 ?_|refine q6 ?_)
   exact ⟨⟨m3,s',i + 1,acc++[92,110]⟩,(by repeat (first|exact trivial|refine And.intro rfl ?_)),(by repeat (first|exact trivial|refine And.intro rfl ?_)),rfl,rfl,(by repeat (exact List.Sublist.refl _)),⟨Mem.le_trans hm hm3,by show i + 1 ≤ _;omega,hs',ho',by show acc++_=_;rw [hacc,List.cons_append,quoteB_take hlt,(qc_nl (by omega))]⟩,by show s.length - (i + 1) < s.length - i;omega⟩
  repeat (first|refine q1 ?_|refine q3 ?_|refine q4 tab rfl rfl ?_|refine q5 ?_|refine q6 ?_)
  refine TC.condP rfl (fun c2 => ?_) (fun c2 => ?_)
  ·repeat (first|refine q3 ?_|refine q4 tab rfl rfl ?_)
   refine TO.step rfl (OT.appendS tab 0 (bs:=[92,116]) hsl hown rfl rfl rfl rfl rfl rfl rfl rfl rfl rfl rfl (by show acc.length + 2 ≤ _;omega) (fun s' m3 hm3 hs' ho' => ?_))
   repeat (first|refine q3 ?_|refine q4 tab rfl rfl ?_|refine q5 ?_|refine q6 ?_|refine q7 ?_)
   refine TO.step rfl (OT.arith (r':=((i + 1 : Nat) : Int)) rfl rfl rfl rfl rfl rfl rfl (by omega) ?_)
   repeat (first|refine q4 tab rfl rfl ?_|refine q5 ?_|refine q6 ?_)
   exact ⟨⟨m3,s',i + 1,acc++[92,116]⟩,(by repeat (first|exact trivial|refine And.intro rfl ?_)),(by repeat (first|exact trivial|refine And.intro rfl ?_)),rfl,rfl,(by repeat (exact List.Sublist.refl _)),⟨Mem.le_trans hm hm3,by show i + 1 ≤ _;omega,hs',ho',by show acc++_=_;rw [hacc,List.cons_append,quoteB_take hlt,(qc_tab (by omega))]⟩,by show s.length - (i + 1) < s.length - i;omega⟩
  repeat (first|refine q1 ?_|refine q3 ?_|refine q4 tab rfl rfl ?_)
  (refine TO.splitP rfl rfl (fun c3 => ?_) (fun c3 => ?_))
  ·repeat (first|refine q3 ?_|refine q4 tab rfl rfl ?_|refine q5 ?_|refine q6 ?_|refine q16 rfl ?_)
   refine TO.step rfl (OT.lit tab rfl rfl rfl rfl (fun b => ?_))
   refine TO.freeze fun m2 hm2 hA => ?_
   refine TO.step rfl (OT.append tab rByte 0 (hsl.mono hm2) hown (SlRep.bytes (bs:=[92,s[i]]) (n:=2) hA rfl (by decide)) rfl rfl rfl rfl rfl rfl rfl (by show (acc.length + 2) * 1 ≤ _;omega) (fun s' m3 hm3 hs' ho' => ?_))
   repeat (first|refine q3 ?_|refine q4 tab rfl rfl ?_|refine q5 ?_|refine q6 ?_|refine q7 ?_)
   refine TO.step rfl (OT.arith (r':=((i + 1 : Nat) : Int)) rfl rfl rfl rfl rfl rfl rfl (by omega) ?_)
   repeat (first|refine q4 tab rfl rfl ?_|refine q5 ?_|refine q6 ?_)
   exact ⟨⟨m3,s',i + 1,acc++[92,s[i]]⟩,(by repeat (first|exact trivial|refine And.intro rfl ?_)),(by repeat (first|exact trivial|refine And.intro rfl ?_)),rfl,rfl,(by repeat (exact List.Sublist.refl _)),⟨Mem.le_trans hm (Mem.le_trans hm2 hm3),by show i + 1 ≤ _;omega,hs',ho',by show acc++_=_;rw [hacc,List.cons_append,quoteB_take hlt,(qc_self (by omega))]⟩,by show s.length - (i + 1) < s.length - i;omega⟩
  repeat (first|refine q4 tab rfl rfl ?_|refine q5 ?_|refine q6 ?_)
  refine TC.condP rfl (fun c4 => ?_) (fun c4 => ?_)
  ·repeat (first|refine q3 ?_|refine q4 tab rfl rfl ?_)
   refine TO.step rfl (OT.lit tab rfl rfl rfl rfl (fun b => ?_))
   refine TO.freeze fun m2 hm2 hA => ?_
   refine TO.step rfl (OT.append tab rByte 0 (hsl.mono hm2) hown (SlRep.bytes (bs:=[92,s[i]]) (n:=2) hA rfl (by decide)) rfl rfl rfl rfl rfl rfl rfl (by show (acc.length + 2) * 1 ≤ _;omega) (fun s' m3 hm3 hs' ho' => ?_))
   repeat (first|refine q3 ?_|refine q4 tab rfl rfl ?_|refine q5 ?_|refine q6 ?_|refine q7 ?_)
   refine TO.step rfl (OT.arith (r':=((i + 1 : Nat) : Int)) rfl rfl rfl rfl rfl rfl rfl (by omega) ?_)
   repeat (first|refine q4 tab rfl rfl ?_|refine q5 ?_|refine q6 ?_)
   exact ⟨⟨m3,s',i + 1,acc++[92,s[i]]⟩,(by repeat (first|exact trivial|refine And.intro rfl ?_)),(by repeat (first|exact trivial|refine And.intro rfl ?_)),rfl,rfl,(by repeat (exact List.Sublist.refl _)),⟨Mem.le_trans hm (Mem.le_trans hm2 hm3),by show i + 1 ≤ _;omega,hs',ho',by show acc++_=_;rw [hacc,List.cons_append,quoteB_take hlt,(qc_self (by omega))]⟩,by show s.length - (i + 1) < s.length - i;omega⟩
  repeat (first|refine q1 ?_|refine q3 ?_|refine q4 tab rfl rfl ?_)
  (refine TO.splitP rfl rfl (fun c5 => ?_) (fun c5 => ?_))
  ·repeat (first|refine q4 tab rfl rfl ?_|refine q5 ?_|refine q6 ?_)
   refine TC.condP rfl (fun c6 => ?_) (fun c6 => ?_)
   ·repeat (first|refine q3 ?_|refine q4 tab rfl rfl ?_)
    refine TO.step rfl (OT.lit tab rfl rfl rfl rfl (fun b => ?_))
    refine TO.freeze fun m2 hm2 hA => ?_
    refine TO.step rfl (OT.append tab rByte 0 (hsl.mono hm2) hown (SlRep.bytes (bs:=[s[i]]) (n:=1) hA rfl (by decide)) rfl rfl rfl rfl rfl rfl rfl (by show (acc.length + 1) * 1 ≤ _;omega) (fun s' m3 hm3 hs' ho' => ?_))
    repeat (first|refine q3 ?_|refine q4 tab rfl rfl ?_|refine q5 ?_|refine q6 ?_|refine q7 ?_)
    refine TO.step rfl (OT.arith (r':=((i + 1 : Nat) : Int)) rfl rfl rfl rfl rfl rfl rfl (by omega) ?_)
    repeat (first|refine q4 tab rfl rfl ?_|refine q5 ?_|refine q6 ?_)
    exact ⟨⟨m3,s',i + 1,acc++[s[i]]⟩,(by repeat (first|exact trivial|refine And.intro rfl ?_)),(by repeat (first|exact trivial|refine And.intro rfl ?_)),rfl,rfl,(by repeat (exact List.Sublist.refl _)),⟨Mem.le_trans hm (Mem.le_trans hm2 hm3),by show i + 1 ≤ _;omega,hs',ho',by show acc++_=_;rw [hacc,List.cons_append,quoteB_take hlt,(qc_one (by omega) (by omega) (by omega) (by omega))]⟩,by show s.length - (i + 1) < s.length - i;omega⟩
   ·skip
    refine TC.draw [] mixed 10 rfl [] (tok sl 1 :: L) (List.Perm.refl _) ?_
    refine DO.pure tab (by repeat (first|exact Calm.ret|refine Calm.then ?_|refine Calm.block ?_)) (by kernel_rfl) [0,1,4] (by kernel_rfl) rfl ?_
    refine DO.fork 2 [5] (by kernel_rfl) ⟨⟨_,rfl,rfl,rfl, ?_⟩,⟨_,rfl,rfl,rfl, ?_⟩,trivial⟩
    ·refine OT.shK rfl (.inr rfl) rfl rfl rfl rfl (by decide) (r:=((s[i].toNat / 16 : Nat) : Int)) (u8_shr4 _) ?_
     refine ⟨Mem.le_refl _,_,List.Perm.refl _, ?_⟩
     refine DO.fork 3 [5] (by kernel_rfl) ⟨⟨_,rfl,rfl,rfl, ?_⟩,⟨_,rfl,rfl,rfl, ?_⟩,trivial⟩
     ·refine OT.sidxK tab (s[i].toNat / 16) rfl rfl rfl rfl rfl rfl rfl (hexS_get (by omega)) ?_
      refine ⟨Mem.le_refl _,_,List.Perm.refl _, ?_⟩
      refine DO.run 5 rfl rfl (by kernel_rfl) rfl ?_
      refine OT.and15 rfl rfl rfl rfl rfl hc ?_
      refine ⟨Mem.le_refl _,_,List.Perm.refl _, ?_⟩
      refine DO.run 6 rfl rfl (by kernel_rfl) rfl ?_
      refine OT.sidxK tab (s[i].toNat % 16) rfl rfl rfl rfl rfl rfl rfl (hexS_get (by omega)) ?_
      refine ⟨Mem.le_refl _,_,List.Perm.refl _, ?_⟩
      refine DO.run 7 rfl rfl (by kernel_rfl) rfl ?_
      refine OT.lit tab rfl rfl rfl rfl (fun b => ?_)
      refine ⟨Mem.le_refl _,_,List.Perm.refl _, ?_⟩
      refine DO.run 8 rfl rfl (by kernel_rfl) rfl ?_
      refine OT.freeze fun m2 hm2 hA=>OT.append tab rByte 0 (hsl.mono hm2) hown (SlRep.bytes (bs:=[92,120,hexD (s[i].toNat / 16),hexD (s[i].toNat % 16)]) (n:=4) hA rfl (by decide)) rfl rfl rfl rfl rfl rfl rfl (by show (acc.length + 4) * 1 ≤ _;omega) (fun s' m3 hm3 hs' ho' => ?_)
      refine ⟨Mem.le_trans hm2 hm3,_,List.Perm.refl _, ?_⟩
      refine DO.pure tab (by repeat (first|exact Calm.ret|refine Calm.then ?_|refine Calm.block ?_)) (by kernel_rfl) [9] (by kernel_rfl) rfl ?_
      refine DO.nil (by kernel_rfl) ?_
      repeat (first|refine q3 ?_|refine q6 ?_|refine q7 ?_)
      refine TO.step rfl (OT.arith (r':=((i + 1 : Nat) : Int)) rfl rfl rfl rfl rfl rfl rfl (by omega) ?_)
      repeat (first|refine q4 tab rfl rfl ?_|refine q5 ?_|refine q6 ?_)
      exact ⟨⟨m3,s',i + 1,acc++[92,120,hexD (s[i].toNat / 16),hexD (s[i].toNat % 16)]⟩,(by repeat (first|exact trivial|refine And.intro rfl ?_)),(by repeat (first|exact trivial|refine And.intro rfl ?_)),rfl,rfl,(by repeat (exact List.Sublist.refl _)),⟨Mem.le_trans hm (Mem.le_trans hm2 hm3),by show i + 1 ≤ _;omega,hs',ho',by show acc++_=_;rw [hacc,List.cons_append,quoteB_take hlt,(qc_hex (by omega) (by omega) (by omega))]⟩,by show s.length - (i + 1) < s.length - i;omega⟩
     ·refine OT.and15 rfl rfl rfl rfl rfl hc ?_
      refine ⟨Mem.le_refl _,_,List.Perm.refl _, ?_⟩
      refine DO.fork 3 [6] (by kernel_rfl) ⟨⟨_,rfl,rfl,rfl, ?_⟩,⟨_,rfl,rfl,rfl, ?_⟩,trivial⟩
      ·refine OT.sidxK tab (s[i].toNat / 16) rfl rfl rfl rfl rfl rfl rfl (hexS_get (by omega)) ?_
       refine ⟨Mem.le_refl _,_,List.Perm.refl _, ?_⟩
       refine DO.run 6 rfl rfl (by kernel_rfl) rfl ?_
       refine OT.sidxK tab (s[i].toNat % 16) rfl rfl rfl rfl rfl rfl rfl (hexS_get (by omega)) ?_
       refine ⟨Mem.le_refl _,_,List.Perm.refl _, ?_⟩
       refine DO.run 7 rfl rfl (by kernel_rfl) rfl ?_
       refine OT.lit tab rfl rfl rfl rfl (fun b => ?_)
       refine ⟨Mem.le_refl _,_,List.Perm.refl _, ?_⟩
       refine DO.run 8 rfl rfl (by kernel_rfl) rfl ?_
       refine OT.freeze fun m2 hm2 hA=>OT.append tab rByte 0 (hsl.mono hm2) hown (SlRep.bytes (bs:=[92,120,hexD (s[i].toNat / 16),hexD (s[i].toNat % 16)]) (n:=4) hA rfl (by decide)) rfl rfl rfl rfl rfl rfl rfl (by show (acc.length + 4) * 1 ≤ _;omega) (fun s' m3 hm3 hs' ho' => ?_)
       refine ⟨Mem.le_trans hm2 hm3,_,List.Perm.refl _, ?_⟩
       refine DO.pure tab (by repeat (first|exact Calm.ret|refine Calm.then ?_|refine Calm.block ?_)) (by kernel_rfl) [9] (by kernel_rfl) rfl ?_
       refine DO.nil (by kernel_rfl) ?_
       repeat (first|refine q3 ?_|refine q6 ?_|refine q7 ?_)
       refine TO.step rfl (OT.arith (r':=((i + 1 : Nat) : Int)) rfl rfl rfl rfl rfl rfl rfl (by omega) ?_)
       repeat (first|refine q4 tab rfl rfl ?_|refine q5 ?_|refine q6 ?_)
       exact ⟨⟨m3,s',i + 1,acc++[92,120,hexD (s[i].toNat / 16),hexD (s[i].toNat % 16)]⟩,(by repeat (first|exact trivial|refine And.intro rfl ?_)),(by repeat (first|exact trivial|refine And.intro rfl ?_)),rfl,rfl,(by repeat (exact List.Sublist.refl _)),⟨Mem.le_trans hm (Mem.le_trans hm2 hm3),by show i + 1 ≤ _;omega,hs',ho',by show acc++_=_;rw [hacc,List.cons_append,quoteB_take hlt,(qc_hex (by omega) (by omega) (by omega))]⟩,by show s.length - (i + 1) < s.length - i;omega⟩
      ·refine OT.sidxK tab (s[i].toNat % 16) rfl rfl rfl rfl rfl rfl rfl (hexS_get (by omega)) ?_
       refine ⟨Mem.le_refl _,_,List.Perm.refl _, ?_⟩
       refine DO.run 3 rfl rfl (by kernel_rfl) rfl ?_
       refine OT.sidxK tab (s[i].toNat / 16) rfl rfl rfl rfl rfl rfl rfl (hexS_get (by omega)) ?_
       refine ⟨Mem.le_refl _,_,List.Perm.refl _, ?_⟩
       refine DO.run 7 rfl rfl (by kernel_rfl) rfl ?_
       refine OT.lit tab rfl rfl rfl rfl (fun b => ?_)
       refine ⟨Mem.le_refl _,_,List.Perm.refl _, ?_⟩
       refine DO.run 8 rfl rfl (by kernel_rfl) rfl ?_
       refine OT.freeze fun m2 hm2 hA=>OT.append tab rByte 0 (hsl.mono hm2) hown (SlRep.bytes (bs:=[92,120,hexD (s[i].toNat / 16),hexD (s[i].toNat % 16)]) (n:=4) hA rfl (by decide)) rfl rfl rfl rfl rfl rfl rfl (by show (acc.length + 4) * 1 ≤ _;omega) (fun s' m3 hm3 hs' ho' => ?_)
       refine ⟨Mem.le_trans hm2 hm3,_,List.Perm.refl _, ?_⟩
       refine DO.pure tab (by repeat (first|exact Calm.ret|refine Calm.then ?_|refine Calm.block ?_)) (by kernel_rfl) [9] (by kernel_rfl) rfl ?_
       refine DO.nil (by kernel_rfl) ?_
       repeat (first|refine q3 ?_|refine q6 ?_|refine q7 ?_)
       refine TO.step rfl (OT.arith (r':=((i + 1 : Nat) : Int)) rfl rfl rfl rfl rfl rfl rfl (by omega) ?_)
       repeat (first|refine q4 tab rfl rfl ?_|refine q5 ?_|refine q6 ?_)
       exact ⟨⟨m3,s',i + 1,acc++[92,120,hexD (s[i].toNat / 16),hexD (s[i].toNat % 16)]⟩,(by repeat (first|exact trivial|refine And.intro rfl ?_)),(by repeat (first|exact trivial|refine And.intro rfl ?_)),rfl,rfl,(by repeat (exact List.Sublist.refl _)),⟨Mem.le_trans hm (Mem.le_trans hm2 hm3),by show i + 1 ≤ _;omega,hs',ho',by show acc++_=_;rw [hacc,List.cons_append,quoteB_take hlt,(qc_hex (by omega) (by omega) (by omega))]⟩,by show s.length - (i + 1) < s.length - i;omega⟩
    ·refine OT.and15 rfl rfl rfl rfl rfl hc ?_
     refine ⟨Mem.le_refl _,_,List.Perm.refl _, ?_⟩
     refine DO.fork 2 [6] (by kernel_rfl) ⟨⟨_,rfl,rfl,rfl, ?_⟩,⟨_,rfl,rfl,rfl, ?_⟩,trivial⟩
     ·refine OT.shK rfl (.inr rfl) rfl rfl rfl rfl (by decide) (r:=((s[i].toNat / 16 : Nat) : Int)) (u8_shr4 _) ?_
      refine ⟨Mem.le_refl _,_,List.Perm.refl _, ?_⟩
      refine DO.fork 3 [6] (by kernel_rfl) ⟨⟨_,rfl,rfl,rfl, ?_⟩,⟨_,rfl,rfl,rfl, ?_⟩,trivial⟩
      ·refine OT.sidxK tab (s[i].toNat / 16) rfl rfl rfl rfl rfl rfl rfl (hexS_get (by omega)) ?_
       refine ⟨Mem.le_refl _,_,List.Perm.refl _, ?_⟩
       refine DO.run 6 rfl rfl (by kernel_rfl) rfl ?_
       refine OT.sidxK tab (s[i].toNat % 16) rfl rfl rfl rfl rfl rfl rfl (hexS_get (by omega)) ?_
       refine ⟨Mem.le_refl _,_,List.Perm.refl _, ?_⟩
       refine DO.run 7 rfl rfl (by kernel_rfl) rfl ?_
       refine OT.lit tab rfl rfl rfl rfl (fun b => ?_)
       refine ⟨Mem.le_refl _,_,List.Perm.refl _, ?_⟩
       refine DO.run 8 rfl rfl (by kernel_rfl) rfl ?_
       refine OT.freeze fun m2 hm2 hA=>OT.append tab rByte 0 (hsl.mono hm2) hown (SlRep.bytes (bs:=[92,120,hexD (s[i].toNat / 16),hexD (s[i].toNat % 16)]) (n:=4) hA rfl (by decide)) rfl rfl rfl rfl rfl rfl rfl (by show (acc.length + 4) * 1 ≤ _;omega) (fun s' m3 hm3 hs' ho' => ?_)
       refine ⟨Mem.le_trans hm2 hm3,_,List.Perm.refl _, ?_⟩
       refine DO.pure tab (by repeat (first|exact Calm.ret|refine Calm.then ?_|refine Calm.block ?_)) (by kernel_rfl) [9] (by kernel_rfl) rfl ?_
       refine DO.nil (by kernel_rfl) ?_
       repeat (first|refine q3 ?_|refine q6 ?_|refine q7 ?_)
       refine TO.step rfl (OT.arith (r':=((i + 1 : Nat) : Int)) rfl rfl rfl rfl rfl rfl rfl (by omega) ?_)
       repeat (first|refine q4 tab rfl rfl ?_|refine q5 ?_|refine q6 ?_)
       exact ⟨⟨m3,s',i + 1,acc++[92,120,hexD (s[i].toNat / 16),hexD (s[i].toNat % 16)]⟩,(by repeat (first|exact trivial|refine And.intro rfl ?_)),(by repeat (first|exact trivial|refine And.intro rfl ?_)),rfl,rfl,(by repeat (exact List.Sublist.refl _)),⟨Mem.le_trans hm (Mem.le_trans hm2 hm3),by show i + 1 ≤ _;omega,hs',ho',by show acc++_=_;rw [hacc,List.cons_append,quoteB_take hlt,(qc_hex (by omega) (by omega) (by omega))]⟩,by show s.length - (i + 1) < s.length - i;omega⟩
      ·refine OT.sidxK tab (s[i].toNat % 16) rfl rfl rfl rfl rfl rfl rfl (hexS_get (by omega)) ?_
       refine ⟨Mem.le_refl _,_,List.Perm.refl _, ?_⟩
       refine DO.run 3 rfl rfl (by kernel_rfl) rfl ?_
       refine OT.sidxK tab (s[i].toNat / 16) rfl rfl rfl rfl rfl rfl rfl (hexS_get (by omega)) ?_
       refine ⟨Mem.le_refl _,_,List.Perm.refl _, ?_⟩
       refine DO.run 7 rfl rfl (by kernel_rfl) rfl ?_
       refine OT.lit tab rfl rfl rfl rfl (fun b => ?_)
       refine ⟨Mem.le_refl _,_,List.Perm.refl _, ?_⟩
       refine DO.run 8 rfl rfl (by kernel_rfl) rfl ?_
       refine OT.freeze fun m2 hm2 hA=>OT.append tab rByte 0 (hsl.mono hm2) hown (SlRep.bytes (bs:=[92,120,hexD (s[i].toNat / 16),hexD (s[i].toNat % 16)]) (n:=4) hA rfl (by decide)) rfl rfl rfl rfl rfl rfl rfl (by show (acc.length + 4) * 1 ≤ _;omega) (fun s' m3 hm3 hs' ho' => ?_)
       refine ⟨Mem.le_trans hm2 hm3,_,List.Perm.refl _, ?_⟩
       refine DO.pure tab (by repeat (first|exact Calm.ret|refine Calm.then ?_|refine Calm.block ?_)) (by kernel_rfl) [9] (by kernel_rfl) rfl ?_
       refine DO.nil (by kernel_rfl) ?_
       repeat (first|refine q3 ?_|refine q6 ?_|refine q7 ?_)
       refine TO.step rfl (OT.arith (r':=((i + 1 : Nat) : Int)) rfl rfl rfl rfl rfl rfl rfl (by omega) ?_)
       repeat (first|refine q4 tab rfl rfl ?_|refine q5 ?_|refine q6 ?_)
       exact ⟨⟨m3,s',i + 1,acc++[92,120,hexD (s[i].toNat / 16),hexD (s[i].toNat % 16)]⟩,(by repeat (first|exact trivial|refine And.intro rfl ?_)),(by repeat (first|exact trivial|refine And.intro rfl ?_)),rfl,rfl,(by repeat (exact List.Sublist.refl _)),⟨Mem.le_trans hm (Mem.le_trans hm2 hm3),by show i + 1 ≤ _;omega,hs',ho',by show acc++_=_;rw [hacc,List.cons_append,quoteB_take hlt,(qc_hex (by omega) (by omega) (by omega))]⟩,by show s.length - (i + 1) < s.length - i;omega⟩
     ·refine OT.sidxK tab (s[i].toNat % 16) rfl rfl rfl rfl rfl rfl rfl (hexS_get (by omega)) ?_
      refine ⟨Mem.le_refl _,_,List.Perm.refl _, ?_⟩
      refine DO.run 2 rfl rfl (by kernel_rfl) rfl ?_
      refine OT.shK rfl (.inr rfl) rfl rfl rfl rfl (by decide) (r:=((s[i].toNat / 16 : Nat) : Int)) (u8_shr4 _) ?_
      refine ⟨Mem.le_refl _,_,List.Perm.refl _, ?_⟩
      refine DO.run 3 rfl rfl (by kernel_rfl) rfl ?_
      refine OT.sidxK tab (s[i].toNat / 16) rfl rfl rfl rfl rfl rfl rfl (hexS_get (by omega)) ?_
      refine ⟨Mem.le_refl _,_,List.Perm.refl _, ?_⟩
      refine DO.run 7 rfl rfl (by kernel_rfl) rfl ?_
      refine OT.lit tab rfl rfl rfl rfl (fun b => ?_)
      refine ⟨Mem.le_refl _,_,List.Perm.refl _, ?_⟩
      refine DO.run 8 rfl rfl (by kernel_rfl) rfl ?_
      refine OT.freeze fun m2 hm2 hA=>OT.append tab rByte 0 (hsl.mono hm2) hown (SlRep.bytes (bs:=[92,120,hexD (s[i].toNat / 16),hexD (s[i].toNat % 16)]) (n:=4) hA rfl (by decide)) rfl rfl rfl rfl rfl rfl rfl (by show (acc.length + 4) * 1 ≤ _;omega) (fun s' m3 hm3 hs' ho' => ?_)
      refine ⟨Mem.le_trans hm2 hm3,_,List.Perm.refl _, ?_⟩
      refine DO.pure tab (by repeat (first|exact Calm.ret|refine Calm.then ?_|refine Calm.block ?_)) (by kernel_rfl) [9] (by kernel_rfl) rfl ?_
      refine DO.nil (by kernel_rfl) ?_
      repeat (first|refine q3 ?_|refine q6 ?_|refine q7 ?_)
      refine TO.step rfl (OT.arith (r':=((i + 1 : Nat) : Int)) rfl rfl rfl rfl rfl rfl rfl (by omega) ?_)
      repeat (first|refine q4 tab rfl rfl ?_|refine q5 ?_|refine q6 ?_)
      exact ⟨⟨m3,s',i + 1,acc++[92,120,hexD (s[i].toNat / 16),hexD (s[i].toNat % 16)]⟩,(by repeat (first|exact trivial|refine And.intro rfl ?_)),(by repeat (first|exact trivial|refine And.intro rfl ?_)),rfl,rfl,(by repeat (exact List.Sublist.refl _)),⟨Mem.le_trans hm (Mem.le_trans hm2 hm3),by show i + 1 ≤ _;omega,hs',ho',by show acc++_=_;rw [hacc,List.cons_append,quoteB_take hlt,(qc_hex (by omega) (by omega) (by omega))]⟩,by show s.length - (i + 1) < s.length - i;omega⟩
  ·repeat (first|refine q4 tab rfl rfl ?_|refine q5 ?_|refine q6 ?_|refine q17 rfl ?_)
   refine TC.draw [] mixed 10 rfl [] (tok sl 1 :: L) (List.Perm.refl _) ?_
   refine DO.pure tab (by repeat (first|exact Calm.ret|refine Calm.then ?_|refine Calm.block ?_)) (by kernel_rfl) [0,1,4] (by kernel_rfl) rfl ?_
   refine DO.fork 2 [5] (by kernel_rfl) ⟨⟨_,rfl,rfl,rfl, ?_⟩,⟨_,rfl,rfl,rfl, ?_⟩,trivial⟩
   ·refine OT.shK rfl (.inr rfl) rfl rfl rfl rfl (by decide) (r:=((s[i].toNat / 16 : Nat) : Int)) (u8_shr4 _) ?_
    refine ⟨Mem.le_refl _,_,List.Perm.refl _, ?_⟩
    refine DO.fork 3 [5] (by kernel_rfl) ⟨⟨_,rfl,rfl,rfl, ?_⟩,⟨_,rfl,rfl,rfl, ?_⟩,trivial⟩
    ·refine OT.sidxK tab (s[i].toNat / 16) rfl rfl rfl rfl rfl rfl rfl (hexS_get (by omega)) ?_
     refine ⟨Mem.le_refl _,_,List.Perm.refl _, ?_⟩
     refine DO.run 5 rfl rfl (by kernel_rfl) rfl ?_
     refine OT.and15 rfl rfl rfl rfl rfl hc ?_
     refine ⟨Mem.le_refl _,_,List.Perm.refl _, ?_⟩
     refine DO.run 6 rfl rfl (by kernel_rfl) rfl ?_
     refine OT.sidxK tab (s[i].toNat % 16) rfl rfl rfl rfl rfl rfl rfl (hexS_get (by omega)) ?_
     refine ⟨Mem.le_refl _,_,List.Perm.refl _, ?_⟩
     refine DO.run 7 rfl rfl (by kernel_rfl) rfl ?_
     refine OT.lit tab rfl rfl rfl rfl (fun b => ?_)
     refine ⟨Mem.le_refl _,_,List.Perm.refl _, ?_⟩
     refine DO.run 8 rfl rfl (by kernel_rfl) rfl ?_
     refine OT.freeze fun m2 hm2 hA=>OT.append tab rByte 0 (hsl.mono hm2) hown (SlRep.bytes (bs:=[92,120,hexD (s[i].toNat / 16),hexD (s[i].toNat % 16)]) (n:=4) hA rfl (by decide)) rfl rfl rfl rfl rfl rfl rfl (by show (acc.length + 4) * 1 ≤ _;omega) (fun s' m3 hm3 hs' ho' => ?_)
     refine ⟨Mem.le_trans hm2 hm3,_,List.Perm.refl _, ?_⟩
     refine DO.pure tab (by repeat (first|exact Calm.ret|refine Calm.then ?_|refine Calm.block ?_)) (by kernel_rfl) [9] (by kernel_rfl) rfl ?_
     refine DO.nil (by kernel_rfl) ?_
     repeat (first|refine q3 ?_|refine q6 ?_|refine q7 ?_)
     refine TO.step rfl (OT.arith (r':=((i + 1 : Nat) : Int)) rfl rfl rfl rfl rfl rfl rfl (by omega) ?_)
     repeat (first|refine q4 tab rfl rfl ?_|refine q5 ?_|refine q6 ?_)
     exact ⟨⟨m3,s',i + 1,acc++[92,120,hexD (s[i].toNat / 16),hexD (s[i].toNat % 16)]⟩,(by repeat (first|exact trivial|refine And.intro rfl ?_)),(by repeat (first|exact trivial|refine And.intro rfl ?_)),rfl,rfl,(by repeat (exact List.Sublist.refl _)),⟨Mem.le_trans hm (Mem.le_trans hm2 hm3),by show i + 1 ≤ _;omega,hs',ho',by show acc++_=_;rw [hacc,List.cons_append,quoteB_take hlt,(qc_hex (by omega) (by omega) (by omega))]⟩,by show s.length - (i + 1) < s.length - i;omega⟩
    ·refine OT.and15 rfl rfl rfl rfl rfl hc ?_
     refine ⟨Mem.le_refl _,_,List.Perm.refl _, ?_⟩
     refine DO.fork 3 [6] (by kernel_rfl) ⟨⟨_,rfl,rfl,rfl, ?_⟩,⟨_,rfl,rfl,rfl, ?_⟩,trivial⟩
     ·refine OT.sidxK tab (s[i].toNat / 16) rfl rfl rfl rfl rfl rfl rfl (hexS_get (by omega)) ?_
      refine ⟨Mem.le_refl _,_,List.Perm.refl _, ?_⟩
      refine DO.run 6 rfl rfl (by kernel_rfl) rfl ?_
      refine OT.sidxK tab (s[i].toNat % 16) rfl rfl rfl rfl rfl rfl rfl (hexS_get (by omega)) ?_
      refine ⟨Mem.le_refl _,_,List.Perm.refl _, ?_⟩
      refine DO.run 7 rfl rfl (by kernel_rfl) rfl ?_
      refine OT.lit tab rfl rfl rfl rfl (fun b => ?_)
      refine ⟨Mem.le_refl _,_,List.Perm.refl _, ?_⟩
      refine DO.run 8 rfl rfl (by kernel_rfl) rfl ?_
      refine OT.freeze fun m2 hm2 hA=>OT.append tab rByte 0 (hsl.mono hm2) hown (SlRep.bytes (bs:=[92,120,hexD (s[i].toNat / 16),hexD (s[i].toNat % 16)]) (n:=4) hA rfl (by decide)) rfl rfl rfl rfl rfl rfl rfl (by show (acc.length + 4) * 1 ≤ _;omega) (fun s' m3 hm3 hs' ho' => ?_)
      refine ⟨Mem.le_trans hm2 hm3,_,List.Perm.refl _, ?_⟩
      refine DO.pure tab (by repeat (first|exact Calm.ret|refine Calm.then ?_|refine Calm.block ?_)) (by kernel_rfl) [9] (by kernel_rfl) rfl ?_
      refine DO.nil (by kernel_rfl) ?_
      repeat (first|refine q3 ?_|refine q6 ?_|refine q7 ?_)
      refine TO.step rfl (OT.arith (r':=((i + 1 : Nat) : Int)) rfl rfl rfl rfl rfl rfl rfl (by omega) ?_)
      repeat (first|refine q4 tab rfl rfl ?_|refine q5 ?_|refine q6 ?_)
      exact ⟨⟨m3,s',i + 1,acc++[92,120,hexD (s[i].toNat / 16),hexD (s[i].toNat % 16)]⟩,(by repeat (first|exact trivial|refine And.intro rfl ?_)),(by repeat (first|exact trivial|refine And.intro rfl ?_)),rfl,rfl,(by repeat (exact List.Sublist.refl _)),⟨Mem.le_trans hm (Mem.le_trans hm2 hm3),by show i + 1 ≤ _;omega,hs',ho',by show acc++_=_;rw [hacc,List.cons_append,quoteB_take hlt,(qc_hex (by omega) (by omega) (by omega))]⟩,by show s.length - (i + 1) < s.length - i;omega⟩
     ·refine OT.sidxK tab (s[i].toNat % 16) rfl rfl rfl rfl rfl rfl rfl (hexS_get (by omega)) ?_
      refine ⟨Mem.le_refl _,_,List.Perm.refl _, ?_⟩
      refine DO.run 3 rfl rfl (by kernel_rfl) rfl ?_
      refine OT.sidxK tab (s[i].toNat / 16) rfl rfl rfl rfl rfl rfl rfl (hexS_get (by omega)) ?_
      refine ⟨Mem.le_refl _,_,List.Perm.refl _, ?_⟩
      refine DO.run 7 rfl rfl (by kernel_rfl) rfl ?_
      refine OT.lit tab rfl rfl rfl rfl (fun b => ?_)
      refine ⟨Mem.le_refl _,_,List.Perm.refl _, ?_⟩
      refine DO.run 8 rfl rfl (by kernel_rfl) rfl ?_
      refine OT.freeze fun m2 hm2 hA=>OT.append tab rByte 0 (hsl.mono hm2) hown (SlRep.bytes (bs:=[92,120,hexD (s[i].toNat / 16),hexD (s[i].toNat % 16)]) (n:=4) hA rfl (by decide)) rfl rfl rfl rfl rfl rfl rfl (by show (acc.length + 4) * 1 ≤ _;omega) (fun s' m3 hm3 hs' ho' => ?_)
      refine ⟨Mem.le_trans hm2 hm3,_,List.Perm.refl _, ?_⟩
      refine DO.pure tab (by repeat (first|exact Calm.ret|refine Calm.then ?_|refine Calm.block ?_)) (by kernel_rfl) [9] (by kernel_rfl) rfl ?_
      refine DO.nil (by kernel_rfl) ?_
      repeat (first|refine q3 ?_|refine q6 ?_|refine q7 ?_)
      refine TO.step rfl (OT.arith (r':=((i + 1 : Nat) : Int)) rfl rfl rfl rfl rfl rfl rfl (by omega) ?_)
      repeat (first|refine q4 tab rfl rfl ?_|refine q5 ?_|refine q6 ?_)
      exact ⟨⟨m3,s',i + 1,acc++[92,120,hexD (s[i].toNat / 16),hexD (s[i].toNat % 16)]⟩,(by repeat (first|exact trivial|refine And.intro rfl ?_)),(by repeat (first|exact trivial|refine And.intro rfl ?_)),rfl,rfl,(by repeat (exact List.Sublist.refl _)),⟨Mem.le_trans hm (Mem.le_trans hm2 hm3),by show i + 1 ≤ _;omega,hs',ho',by show acc++_=_;rw [hacc,List.cons_append,quoteB_take hlt,(qc_hex (by omega) (by omega) (by omega))]⟩,by show s.length - (i + 1) < s.length - i;omega⟩
   ·refine OT.and15 rfl rfl rfl rfl rfl hc ?_
    refine ⟨Mem.le_refl _,_,List.Perm.refl _, ?_⟩
    refine DO.fork 2 [6] (by kernel_rfl) ⟨⟨_,rfl,rfl,rfl, ?_⟩,⟨_,rfl,rfl,rfl, ?_⟩,trivial⟩
    ·refine OT.shK rfl (.inr rfl) rfl rfl rfl rfl (by decide) (r:=((s[i].toNat / 16 : Nat) : Int)) (u8_shr4 _) ?_
     refine ⟨Mem.le_refl _,_,List.Perm.refl _, ?_⟩
     refine DO.fork 3 [6] (by kernel_rfl) ⟨⟨_,rfl,rfl,rfl, ?_⟩,⟨_,rfl,rfl,rfl, ?_⟩,trivial⟩
     ·refine OT.sidxK tab (s[i].toNat / 16) rfl rfl rfl rfl rfl rfl rfl (hexS_get (by omega)) ?_
      refine ⟨Mem.le_refl _,_,List.Perm.refl _, ?_⟩
      refine DO.run 6 rfl rfl (by kernel_rfl) rfl ?_
      refine OT.sidxK tab (s[i].toNat % 16) rfl rfl rfl rfl rfl rfl rfl (hexS_get (by omega)) ?_
      refine ⟨Mem.le_refl _,_,List.Perm.refl _, ?_⟩
      refine DO.run 7 rfl rfl (by kernel_rfl) rfl ?_
      refine OT.lit tab rfl rfl rfl rfl (fun b => ?_)
      refine ⟨Mem.le_refl _,_,List.Perm.refl _, ?_⟩
      refine DO.run 8 rfl rfl (by kernel_rfl) rfl ?_
      refine OT.freeze fun m2 hm2 hA=>OT.append tab rByte 0 (hsl.mono hm2) hown (SlRep.bytes (bs:=[92,120,hexD (s[i].toNat / 16),hexD (s[i].toNat % 16)]) (n:=4) hA rfl (by decide)) rfl rfl rfl rfl rfl rfl rfl (by show (acc.length + 4) * 1 ≤ _;omega) (fun s' m3 hm3 hs' ho' => ?_)
      refine ⟨Mem.le_trans hm2 hm3,_,List.Perm.refl _, ?_⟩
      refine DO.pure tab (by repeat (first|exact Calm.ret|refine Calm.then ?_|refine Calm.block ?_)) (by kernel_rfl) [9] (by kernel_rfl) rfl ?_
      refine DO.nil (by kernel_rfl) ?_
      repeat (first|refine q3 ?_|refine q6 ?_|refine q7 ?_)
      refine TO.step rfl (OT.arith (r':=((i + 1 : Nat) : Int)) rfl rfl rfl rfl rfl rfl rfl (by omega) ?_)
      repeat (first|refine q4 tab rfl rfl ?_|refine q5 ?_|refine q6 ?_)
      exact ⟨⟨m3,s',i + 1,acc++[92,120,hexD (s[i].toNat / 16),hexD (s[i].toNat % 16)]⟩,(by repeat (first|exact trivial|refine And.intro rfl ?_)),(by repeat (first|exact trivial|refine And.intro rfl ?_)),rfl,rfl,(by repeat (exact List.Sublist.refl _)),⟨Mem.le_trans hm (Mem.le_trans hm2 hm3),by show i + 1 ≤ _;omega,hs',ho',by show acc++_=_;rw [hacc,List.cons_append,quoteB_take hlt,(qc_hex (by omega) (by omega) (by omega))]⟩,by show s.length - (i + 1) < s.length - i;omega⟩
     ·refine OT.sidxK tab (s[i].toNat % 16) rfl rfl rfl rfl rfl rfl rfl (hexS_get (by omega)) ?_
      refine ⟨Mem.le_refl _,_,List.Perm.refl _, ?_⟩
      refine DO.run 3 rfl rfl (by kernel_rfl) rfl ?_
      refine OT.sidxK tab (s[i].toNat / 16) rfl rfl rfl rfl rfl rfl rfl (hexS_get (by omega)) ?_
      refine ⟨Mem.le_refl _,_,List.Perm.refl _, ?_⟩
      refine DO.run 7 rfl rfl (by kernel_rfl) rfl ?_
      refine OT.lit tab rfl rfl rfl rfl (fun b => ?_)
      refine ⟨Mem.le_refl _,_,List.Perm.refl _, ?_⟩
      refine DO.run 8 rfl rfl (by kernel_rfl) rfl ?_
      refine OT.freeze fun m2 hm2 hA=>OT.append tab rByte 0 (hsl.mono hm2) hown (SlRep.bytes (bs:=[92,120,hexD (s[i].toNat / 16),hexD (s[i].toNat % 16)]) (n:=4) hA rfl (by decide)) rfl rfl rfl rfl rfl rfl rfl (by show (acc.length + 4) * 1 ≤ _;omega) (fun s' m3 hm3 hs' ho' => ?_)
      refine ⟨Mem.le_trans hm2 hm3,_,List.Perm.refl _, ?_⟩
      refine DO.pure tab (by repeat (first|exact Calm.ret|refine Calm.then ?_|refine Calm.block ?_)) (by kernel_rfl) [9] (by kernel_rfl) rfl ?_
      refine DO.nil (by kernel_rfl) ?_
      repeat (first|refine q3 ?_|refine q6 ?_|refine q7 ?_)
      refine TO.step rfl (OT.arith (r':=((i + 1 : Nat) : Int)) rfl rfl rfl rfl rfl rfl rfl (by omega) ?_)
      repeat (first|refine q4 tab rfl rfl ?_|refine q5 ?_|refine q6 ?_)
      exact ⟨⟨m3,s',i + 1,acc++[92,120,hexD (s[i].toNat / 16),hexD (s[i].toNat % 16)]⟩,(by repeat (first|exact trivial|refine And.intro rfl ?_)),(by repeat (first|exact trivial|refine And.intro rfl ?_)),rfl,rfl,(by repeat (exact List.Sublist.refl _)),⟨Mem.le_trans hm (Mem.le_trans hm2 hm3),by show i + 1 ≤ _;omega,hs',ho',by show acc++_=_;rw [hacc,List.cons_append,quoteB_take hlt,(qc_hex (by omega) (by omega) (by omega))]⟩,by show s.length - (i + 1) < s.length - i;omega⟩
    ·refine OT.sidxK tab (s[i].toNat % 16) rfl rfl rfl rfl rfl rfl rfl (hexS_get (by omega)) ?_
     refine ⟨Mem.le_refl _,_,List.Perm.refl _, ?_⟩
     refine DO.run 2 rfl rfl (by kernel_rfl) rfl ?_
     refine OT.shK rfl (.inr rfl) rfl rfl rfl rfl (by decide) (r:=((s[i].toNat / 16 : Nat) : Int)) (u8_shr4 _) ?_
     refine ⟨Mem.le_refl _,_,List.Perm.refl _, ?_⟩
     refine DO.run 3 rfl rfl (by kernel_rfl) rfl ?_
     refine OT.sidxK tab (s[i].toNat / 16) rfl rfl rfl rfl rfl rfl rfl (hexS_get (by omega)) ?_
     refine ⟨Mem.le_refl _,_,List.Perm.refl _, ?_⟩
     refine DO.run 7 rfl rfl (by kernel_rfl) rfl ?_
     refine OT.lit tab rfl rfl rfl rfl (fun b => ?_)
     refine ⟨Mem.le_refl _,_,List.Perm.refl _, ?_⟩
     refine DO.run 8 rfl rfl (by kernel_rfl) rfl ?_
     refine OT.freeze fun m2 hm2 hA=>OT.append tab rByte 0 (hsl.mono hm2) hown (SlRep.bytes (bs:=[92,120,hexD (s[i].toNat / 16),hexD (s[i].toNat % 16)]) (n:=4) hA rfl (by decide)) rfl rfl rfl rfl rfl rfl rfl (by show (acc.length + 4) * 1 ≤ _;omega) (fun s' m3 hm3 hs' ho' => ?_)
     refine ⟨Mem.le_trans hm2 hm3,_,List.Perm.refl _, ?_⟩
     refine DO.pure tab (by repeat (first|exact Calm.ret|refine Calm.then ?_|refine Calm.block ?_)) (by kernel_rfl) [9] (by kernel_rfl) rfl ?_
     refine DO.nil (by kernel_rfl) ?_
     repeat (first|refine q3 ?_|refine q6 ?_|refine q7 ?_)
     refine TO.step rfl (OT.arith (r':=((i + 1 : Nat) : Int)) rfl rfl rfl rfl rfl rfl rfl (by omega) ?_)
     repeat (first|refine q4 tab rfl rfl ?_|refine q5 ?_|refine q6 ?_)
     exact ⟨⟨m3,s',i + 1,acc++[92,120,hexD (s[i].toNat / 16),hexD (s[i].toNat % 16)]⟩,(by repeat (first|exact trivial|refine And.intro rfl ?_)),(by repeat (first|exact trivial|refine And.intro rfl ?_)),rfl,rfl,(by repeat (exact List.Sublist.refl _)),⟨Mem.le_trans hm (Mem.le_trans hm2 hm3),by show i + 1 ≤ _;omega,hs',ho',by show acc++_=_;rw [hacc,List.cons_append,quoteB_take hlt,(qc_hex (by omega) (by omega) (by omega))]⟩,by show s.length - (i + 1) < s.length - i;omega⟩
 ·skip
  repeat (first|refine q1 ?_|refine q3 ?_|refine q4 tab rfl rfl ?_|refine q6 ?_|refine q10 ?_|refine q11 ?_|refine q14 ?_)
  refine TO.step rfl (OT.lit tab rfl rfl rfl rfl (fun b => ?_))
  refine TO.freeze fun m2 hm2 hA => ?_
  refine TO.step rfl (OT.append tab rByte 0 (hsl.mono hm2) hown (SlRep.bytes (bs:=[34]) (n:=1) hA rfl (by decide)) rfl rfl rfl rfl rfl rfl rfl (by show (acc.length + 1) * 1 ≤ _;omega) (fun s' m3 hm3 hs' ho' => ?_))
  refine TO.step rfl (OT.bytesStr tab rfl rfl rfl rfl rfl rfl rfl hs' (by simp) ?_)
  repeat (first|refine q4 tab rfl rfl ?_|refine q5 ?_|refine q6 ?_|refine q15 ?_)
  refine retQ_ret rfl (by repeat (first|exact List.Sublist.refl _|refine List.Sublist.cons _ ?_)) ⟨Mem.le_trans hm (Mem.le_trans hm2 hm3),rfl, ?_⟩
  rw [hacc,show s.take i=s from List.take_of_length_le (by omega)]
  rfl
end Go.Sep


/- ScPlain -/
set_option linter.unusedVariables false
set_option linter.unusedSimpArgs false
namespace Go.Sep
theorem hexB_all : ∀ n : Fin 256,hexB (hexD (n.val / 16)) (hexD (n.val % 16))=some (UInt8.ofNat n.val):=by decide +kernel
theorem hexB_hexD (c : UInt8) : hexB (hexD (c.toNat / 16)) (hexD (c.toNat % 16))=some c:=by
 have:=hexB_all ⟨c.toNat,c.toNat_lt⟩
 simpa using this
theorem lit_quoteC (c : UInt8) (r : Str) : lit (quoteC c++r)=(lit r).map fun p=>(c :: p.1,p.2 + (quoteC c).length):=by
 by_cases h1 : c.toNat=10
 ·have hc : c=10:=UInt8.toNat_inj.1 h1
  rw [qc_nl h1,hc]
  exact (lit_esc_some (c:=92) rfl (esc_n (r:=r) rfl))
 by_cases h2 : c.toNat=9
 ·have hc : c=9:=UInt8.toNat_inj.1 h2
  rw [qc_tab h2,hc]
  exact (lit_esc_some (c:=92) rfl (esc_t (r:=r) rfl))
 by_cases h3 : c.toNat=34 ∨ c.toNat=92
 ·rw [qc_self h3]
  exact (lit_esc_some (c:=92) rfl (esc_self (r:=r) h3))
 by_cases h4 : 32 ≤ c.toNat∧c.toNat ≤ 126
 ·rw [qc_one (by omega) (by omega) h4.1 h4.2]
  exact lit_one (by omega) h1 (by omega)
 ·rw [qc_hex h1 h2 (by omega)]
  have he : escB (120 :: hexD (c.toNat / 16) :: hexD (c.toNat % 16) :: r)=some (c,3):=by rw [esc_x rfl,hexB_hexD];rfl
  exact lit_esc_some (c:=92) rfl he
theorem lit_quoteB : ∀ (s r : Str),lit (quoteB s++34 :: r)=some (s,(quoteB s).length + 1)
 | [],r=>by rw [quoteB,List.flatMap_nil,List.nil_append,lit_quote rfl];rfl
 | c :: s,r=>by
  have hq : quoteB (c :: s)=quoteC c++quoteB s:=by unfold quoteB;rw [List.flatMap_cons]
  rw [hq,List.append_assoc,lit_quoteC,lit_quoteB s r]
  simp
  omega
theorem tokD_str {r t : Str} {n : Nat} (h : lit r=some (t,n)) : tokD (34 :: r)=if 1024 < t.length then none else some (⟨3,t,0,0⟩,n + 1):=by
 have h1 : ¬ ltr 34=true:=by decide
 have h2 : ¬ dgt 34=true:=by decide
 rw [tokD,if_neg h1,if_neg h2,if_pos (by decide),h]
theorem quoteD_len (s : Str) : (quoteD s).length=(quoteB s).length + 2:=by simp [quoteD]
theorem blk_34 (r : Str) : blk false (34 :: r)=0:=by
 rw [blk,if_neg (by decide),if_neg (by intro h;exact absurd h.1 (by decide))]
end Go.Sep


/- ScPlain2 -/
set_option linter.unusedVariables false
set_option linter.unusedSimpArgs false
namespace Go.Sep
theorem cutF_ok : ∀ (f : Nat) (r : Str) (at_ k : Nat) (l : List Tok),cutF f r at_ k = .ok l→r.length < f→k ≤ 20000→l.length + k ≤ 20000∧(∀ t ∈ l,(at_ : Int) ≤ t.at_∧t.at_ < at_ + r.length)∧l.Pairwise (fun a b=>a.at_ < b.at_)
 | 0,r,at_,k,l,h,hf,hk=>by omega
 | f + 1,r,at_,k,l,h,hf,hk=>by
  have hb:=blk_le false r
  rw [cutF] at h
  by_cases h1 : r.drop (blk false r)=[]
  ·rw [if_pos h1] at h
   cases h
   exact ⟨by simpa using hk,by simp,List.Pairwise.nil⟩
  ·rw [if_neg h1] at h
   have hlt : blk false r < r.length:=Nat.lt_of_not_le fun hge=>h1 (List.drop_eq_nil_of_le hge)
   by_cases h2 : k=20000
   ·rw [if_pos h2] at h;cases h
   ·rw [if_neg h2] at h
    cases ht : tokD (r.drop (blk false r)) with
    | none=>rw [ht] at h;cases h
    | some p =>
     obtain ⟨t,n⟩:=p
     rw [ht] at h
     simp only at h
     have hn:=tokD_le ht
     rw [List.length_drop] at hn
     cases hc : cutF f ((r.drop (blk false r)).drop n) (at_ + blk false r + n) (k + 1) with
     | error e=>rw [hc] at h;cases h
     | ok l' =>
      rw [hc] at h
      cases h
      obtain ⟨g1,g2,g3⟩:=cutF_ok f _ _ _ _ hc (by rw [List.length_drop,List.length_drop];omega) (by omega)
      have g2' : ∀ t ∈ l',((at_ + blk false r + n : Nat) : Int) ≤ t.at_∧t.at_ < at_ + r.length:=fun t ht=>by
       have:=g2 t ht
       rw [List.length_drop,List.length_drop] at this
       omega
      refine ⟨by simp only [List.length_cons];omega,fun t' ht' => ?_,List.pairwise_cons.2 ⟨fun t' ht' => ?_,g3⟩⟩
      ·rcases List.mem_cons.1 ht' with rfl | ht'
       ·simp only;omega
       ·have:=g2' t' ht';omega
      ·have:=g2' t' ht'
       simp only;omega
theorem cutF_err : ∀ (f : Nat) (r : Str) (at_ k a : Nat) (e : Int),cutF f r at_ k = .error (a,e)→r.length < f→at_ ≤ a∧a < at_ + r.length∧(e=3 ∨ e=4)
 | 0,r,at_,k,a,e,h,hf=>by omega
 | f + 1,r,at_,k,a,e,h,hf=>by
  have hb:=blk_le false r
  rw [cutF] at h
  by_cases h1 : r.drop (blk false r)=[]
  ·rw [if_pos h1] at h;cases h
  ·rw [if_neg h1] at h
   have hlt : blk false r < r.length:=Nat.lt_of_not_le fun hge=>h1 (List.drop_eq_nil_of_le hge)
   by_cases h2 : k=20000
   ·rw [if_pos h2] at h
    simp only [Except.error.injEq,Prod.mk.injEq] at h
    omega
   ·rw [if_neg h2] at h
    cases ht : tokD (r.drop (blk false r)) with
    | none =>
     rw [ht] at h
     simp only [Except.error.injEq,Prod.mk.injEq] at h
     omega
    | some p =>
     obtain ⟨t,n⟩:=p
     rw [ht] at h
     simp only at h
     have hn:=tokD_le ht
     rw [List.length_drop] at hn
     cases hc : cutF f ((r.drop (blk false r)).drop n) (at_ + blk false r + n) (k + 1) with
     | ok l=>rw [hc] at h;cases h
     | error e' =>
      rw [hc] at h
      simp only [Except.error.injEq] at h
      subst h
      have:=cutF_err f _ _ _ _ _ hc (by rw [List.length_drop,List.length_drop];omega)
      rw [List.length_drop,List.length_drop] at this
      omega
theorem scanD_cases (s : Str) : (65536 < s.length∧scanD s = ⟨[],0,13⟩) ∨
  (s.length ≤ 65536 ∧ ∃ l : List Tok,scanD s = ⟨l,0,0⟩ ∧ cutF (s.length + 1) s 0 0 = .ok l∧l.length ≤ 20000∧(∀ t ∈ l,0 ≤ t.at_∧t.at_ < s.length)∧l.Pairwise (fun a b=>a.at_ < b.at_)) ∨
  (s.length ≤ 65536 ∧ ∃ a e,scanD s = ⟨[],a,e⟩ ∧ a < s.length∧(e=4 ∨ (e=3∧(scanD (s.take a)).e=0))):=by
 by_cases hl : 65536 < s.length
 ·exact .inl ⟨hl,by rw [scanD,if_pos hl]⟩
 ·refine .inr ?_
  have hs : scanD s = .of (cutF (s.length + 1) s 0 0):=by rw [scanD,if_neg hl]
  cases hc : cutF (s.length + 1) s 0 0 with
  | ok l =>
   obtain ⟨h1,h2,h3⟩:=cutF_ok _ _ _ _ _ hc (by omega) (by omega)
   refine .inl ⟨by omega,l,by rw [hs,hc];rfl,rfl,by omega,fun t ht => ?_,h3⟩
   have:=h2 t ht
   omega
  | error x =>
   obtain ⟨a,e⟩:=x
   obtain ⟨h1,h2,h3⟩:=cutF_err _ _ _ _ _ _ hc (by omega)
   refine .inr ⟨by omega,a,e,by rw [hs,hc];rfl,by omega, ?_⟩
   rcases h3 with rfl | rfl
   ·refine .inr ⟨rfl, ?_⟩
    obtain ⟨_,_,h4⟩:=cutF_take _ _ _ _ _ hc (by omega)
    obtain ⟨l,hl2⟩:=h4 (a + 1) (by omega)
    rw [Nat.sub_zero] at hl2
    rw [scanD,if_neg (by rw [List.length_take];omega),show (s.take a).length=a by rw [List.length_take];omega,hl2]
    rfl
   ·exact .inl rfl
theorem scanD_len (s : Str) : (scanD s).list.length ≤ 20000:=by
 rcases scanD_cases s with ⟨_,h⟩ | ⟨_,l,h,_,h2,_⟩ | ⟨_,a,e,h,_⟩
 ·rw [h];exact Nat.zero_le _
 ·rw [h];exact h2
 ·rw [h];exact Nat.zero_le _
end Go.Sep


/- ScPlain3 -/
set_option linter.unusedVariables false
set_option linter.unusedSimpArgs false
namespace Go.Sep
def valN : Str→Nat→Nat
 | [],a=>a
 | c :: r,a=>valN r (a * 10 + (c.toNat - 48))
theorem valN_ge : ∀ (s : Str) (a : Nat),a ≤ valN s a
 | [],a=>Nat.le_refl _
 | c :: r,a=>by
  have:=valN_ge r (a * 10 + (c.toNat - 48))
  rw [valN];omega
theorem dgt_le {c : UInt8} (h : dgt c=true) : 48 ≤ c.toNat∧c.toNat ≤ 57:=of_decide_eq_true h
theorem dv_dgt {c : UInt8} (h : dgt c=true) : dv c=some (c.toNat - 48):=dv_dig (dgt_le h).1 (dgt_le h).2
theorem pU_val : ∀ (s : Str) (a : Nat),s.all dgt=true→valN s a ≤ 18446744073709551615→pU 10 18446744073709551615 s a=some (valN s a)
 | [],a,_,_=>rfl
 | c :: r,a,h,hv=>by
  rw [List.all_cons,Bool.and_eq_true] at h
  have hc:=dgt_le h.1
  rw [valN] at hv
  have:=valN_ge r (a * 10 + (c.toNat - 48))
  rw [pU,dv_dgt h.1]
  simp only
  rw [if_pos ⟨by omega,by omega⟩,pU_val r _ h.2 hv,valN]
theorem numOf_val {s : Str} (h : s.all dgt=true) (hv : valN s 0 < 9223372036854775808) : numOf s=some (valN s 0):=by
 rw [numOf,pU_val s 0 h (by omega)]
 simp only
 rw [if_pos hv]
theorem dgt_lod {c : UInt8} (h : dgt c=true) : lod c=true:=by unfold lod;rw [h];simp
theorem dgt_nltr {c : UInt8} (h : dgt c=true) : ¬ ltr c=true:=by rw [dgt_ltr,h];simp
theorem all_dgt_lod {s : Str} (h : s.all dgt=true) : s.all lod=true:=List.all_eq_true.2 fun x hx=>dgt_lod (List.all_eq_true.1 h x hx)
theorem takeWhile_app {p : UInt8→Bool} : ∀ (s r : Str),s.all p=true→(s++r).takeWhile p=s++r.takeWhile p
 | [],r,_=>rfl
 | c :: s,r,h=>by
  rw [List.all_cons,Bool.and_eq_true] at h
  rw [List.cons_append,List.takeWhile_cons,if_pos h.1,takeWhile_app s r h.2];rfl
theorem span_app {p : UInt8→Bool} {s r : Str} (h : s.all p=true) : spanOf p (s++r)=s.length + spanOf p r:=by
 unfold spanOf
 rw [takeWhile_app s r h,List.length_append]
theorem span_stop {p : UInt8→Bool} {c : UInt8} {r : Str} (h : p c=false) : spanOf p (c :: r)=0:=by
 unfold spanOf
 rw [List.takeWhile_cons,if_neg (by rw [h];decide)];rfl
structure Dec (s : Str) (n : Nat) : Prop where
 pos : s ≠ []
 dig : s.all dgt=true
 val : valN s 0=n
 lead : s.head? ≠ some 48 ∨ s.length=1
theorem tok_num {s : Str} {n : Nat} {c : UInt8} {r : Str} (h : Dec s n) (hn : n < 9223372036854775808) (hc : lod c=false) : tokD (s++c :: r)=some (⟨2,[],n,0⟩,s.length):=by
 have hd : dgt c=false:=by
  cases hd : dgt c with
  | false=>rfl
  | true=>rw [dgt_lod hd] at hc;cases hc
 have hs1 : spanOf lod (s++c :: r)=s.length:=by rw [span_app (all_dgt_lod h.dig),span_stop hc];omega
 have hs2 : spanOf dgt (s++c :: r)=s.length:=by rw [span_app h.dig,span_stop hd];omega
 have ht : (s++c :: r).take s.length=s:=by simp
 have hnum : numOf s=some n:=by rw [numOf_val h.dig (by rw [h.val];exact hn),h.val]
 have hlead:=h.lead
 obtain ⟨x,s',rfl⟩ : ∃ x s',s=x :: s':=by
  cases s with
  | nil=>exact absurd rfl h.pos
  | cons x s'=>exact ⟨x,s',rfl⟩
 have hdx : dgt x=true:=List.all_eq_true.1 h.dig x (by simp)
 rw [List.cons_append] at hs1 hs2 ht ⊢
 rw [tokD,if_neg (dgt_nltr hdx),if_pos hdx,hs1,ht,hnum]
 simp only
 rw [if_neg]
 rintro (⟨h1,h2⟩ | h3)
 ·rcases hlead with h4 | h4
  ·exact h4 (by rw [List.head?_cons];congr 1;exact UInt8.toNat_inj.1 h1)
  ·omega
 ·exact h3 hs2
theorem blk_dgt {c : UInt8} {r : Str} (h : dgt c=true) : blk false (c :: r)=0:=by
 have:=dgt_le h
 rw [blk,if_neg,if_neg]
 ·rintro ⟨h1,_⟩;omega
 ·unfold isSp
  simp only [Bool.or_eq_true,decide_eq_true_eq]
  omega
theorem dec_head {s : Str} {n : Nat} (h : Dec s n) : ∃ x s',s=x :: s' ∧ dgt x=true:=by
 cases hs : s with
 | nil=>exact absurd hs h.pos
 | cons x s'=>exact ⟨x,s',rfl,List.all_eq_true.1 h.dig x (by simp [hs])⟩
structure DecAt (s : Str) (k n : Nat) : Prop where
 dig : s.all dgt=true
 val : k * 10 ^ s.length + valN s 0=n
 lead : k=0→s ≠ []→s.head? ≠ some 48 ∨ s.length=1
theorem valN_app : ∀ (s : Str) (a : Nat),valN s a=a * 10 ^ s.length + valN s 0
 | [],a=>by simp [valN]
 | c :: r,a=>by
  rw [valN,valN,valN_app r (a * 10 + (c.toNat - 48)),valN_app r (0 * 10 + (c.toNat - 48)),List.length_cons,Nat.pow_succ]
  rw [Nat.zero_mul,Nat.zero_add,Nat.add_mul]
  have : a * 10 * 10 ^ r.length=a * (10 ^ r.length * 10):=by rw [Nat.mul_assoc,Nat.mul_comm 10]
  omega
theorem DecAt.start (n : Nat) : DecAt [] n n:=⟨rfl,by simp [valN],fun _ h=>absurd rfl h⟩
theorem dig_lt (k : Nat) : (UInt8.ofNat (48 + k % 10)).toNat=48 + k % 10:=by
 rw [UInt8.toNat_ofNat',Nat.mod_eq_of_lt (by omega)]
theorem DecAt.step {s : Str} {k n : Nat} (h : DecAt s k n) (hk : 0 < k ∨ s=[]) : DecAt (UInt8.ofNat (48 + k % 10) :: s) (k / 10) n:=by
 have hd:=dig_lt k
 refine ⟨?_, ?_, ?_⟩
 ·rw [List.all_cons,h.dig,Bool.and_true]
  unfold dgt
  rw [hd]
  exact decide_eq_true (by omega)
 ·rw [valN,valN_app,hd,List.length_cons,Nat.pow_succ,← h.val,Nat.zero_mul,Nat.zero_add]
  have h1 : 48 + k % 10 - 48=k % 10:=by omega
  have h2 : k=k / 10 * 10 + k % 10:=by omega
  rw [h1]
  have h3 : k * 10 ^ s.length=k / 10 * (10 ^ s.length * 10) + k % 10 * 10 ^ s.length:=by
   conv=>lhs;rw [h2,Nat.add_mul]
   rw [Nat.mul_assoc,Nat.mul_comm 10]
  omega
 ·intro h0 _
  rcases hk with hk | rfl
  ·refine .inl fun e => ?_
   rw [List.head?_cons] at e
   have:=congrArg UInt8.toNat (Option.some.inj e)
   rw [hd] at this
   have h48 : (48 : UInt8).toNat=48:=rfl
   omega
  ·exact .inr rfl
theorem DecAt.done {s : Str} {n : Nat} (h : DecAt s 0 n) (hs : s ≠ []) : Dec s n:=⟨hs,h.dig,by have:=h.val;omega,h.lead rfl hs⟩
end Go.Sep


/- PsBlk -/
set_option linter.unusedVariables false
set_option linter.unusedSimpArgs false
namespace Go.Pb
open Go.Ps
open Go.Sep (Tree Str bulkL)
variable {α β : Type}
def FS (f : F) : Prop := ∀ i t,f i=some t→t.text.length ≤ 1024
def Wt (c : Nat) (w : α → Nat) (p : Pp α) : Prop := ∀ f,FS f → ∀ k a k',p f k = .ok a k' → w a + 1025 * k ≤ 1025 * k' + c
theorem Wt.up {c c' : Nat} {w : α → Nat} {p : Pp α} (h : Wt c w p) (hc : c ≤ c') : Wt c' w p:=fun f hf k a k' e=>by have:=h f hf k a k' e;omega
theorem Wt.ret {c : Nat} {w : α → Nat} {a : α} (h : w a ≤ c) : Wt c w (ret a):=fun f hf k b k' e=>by injection e with e1 e2;subst e1;subst e2;omega
theorem Wt.fail {c : Nat} {w : α → Nat} : Wt c w (fail : Pp α):=fun f hf k a k' e=>by cases e
theorem Wt.dry {c : Nat} {w : α → Nat} : Wt c w (dry : Pp α):=fun f hf k a k' e=>by cases e
theorem Wt.bind {c c1 : Nat} {w1 : α → Nat} {w : β → Nat} {p : Pp α} {g : α → Pp β} (hp : Wt c1 w1 p) (hg : ∀ a, ∃ d,d ≤ c + w1 a - c1∧c1 ≤ c + w1 a∧Wt d w (g a)) : Wt c w (bind p g):=fun f hf k b k' e=>by
 unfold Ps.bind at e
 cases hx : p f k with
 | ok a k1 =>
  simp only [hx] at e
  obtain ⟨d,h1,h2,h3⟩:=hg a
  have h4:=hp f hf k a k1 hx
  have h5:=h3 f hf k1 b k' e
  omega
 | bad k1=>simp only [hx] at e;cases e
 | out=>simp only [hx] at e;cases e
theorem Wt.tok {c : Nat} {w : α → Nat} {s : Str} {A B : Pp α} (hA : Wt (c + 1025) w A) (hB : Wt c w B) : Wt c w (tok s A B):=fun f hf k a k' e=>by
 unfold Ps.tok at e
 cases hb : isM s f k with
 | true=>simp only [hb,cond_true] at e;have:=hA f hf _ a k' e;omega
 | false=>simp only [hb,cond_false] at e;exact hB f hf k a k' e
theorem Wt.need {c : Nat} {w : α → Nat} {s : Str} {A : Pp α} (hA : Wt (c + 1025) w A) : Wt c w (need s A):=Wt.tok hA Wt.fail
theorem Wt.tkn {c : Nat} {w : α → Nat} {n : Int} {A : Tk→Pp α} {B : Pp α} (hA : ∀ t,t.text.length ≤ 1024→Wt (c + 1025) w (A t)) (hB : Wt c w B) : Wt c w (tkn n A B):=fun f hf k a k' e=>by
 unfold Ps.tkn at e
 cases hx : f k with
 | none=>simp only [hx] at e;exact hB f hf k a k' e
 | some t =>
  cases hb : decide (t.kind=n) with
  | true=>simp only [hx,hb,cond_true] at e;have:=hA t (hf k t hx) f hf _ a k' e;omega
  | false=>simp only [hx,hb,cond_false] at e;exact hB f hf k a k' e
theorem Wt.name {c : Nat} {w : α → Nat} {A : Str→Pp α} (hA : ∀ t,t.length ≤ 1024→Wt (c + 1025) w (A t)) : Wt c w (name A):=Wt.tkn (fun t ht=>hA t.text ht) Wt.fail
theorem Wt.oneOf {c : Nat} {w : α → Nat} {ops : List Str} {A : Str→Pp α} {B : Pp α} (hA : ∀ t ∈ ops,Wt (c + 1025) w (A t)) (hB : Wt c w B) : Wt c w (oneOf ops A B):=fun f hf k a k' e=>by
 unfold Ps.oneOf at e
 cases hx : ops.find? (fun s=>isM s f k) with
 | none=>simp only [hx] at e;exact hB f hf k a k' e
 | some t=>simp only [hx] at e;have:=hA t (List.mem_of_find?_eq_some hx) f hf _ a k' e;omega
theorem Wt.peek {c : Nat} {w : α → Nat} {q : F→Nat→Bool} {A B : Pp α} (hA : Wt c w A) (hB : Wt c w B) : Wt c w (peek q A B):=fun f hf k a k' e=>by
 unfold Ps.peek at e
 cases hb : q f k with
 | true=>simp only [hb,cond_true] at e;exact hA f hf k a k' e
 | false=>simp only [hb,cond_false] at e;exact hB f hf k a k' e
theorem Wt.tokIf {c : Nat} {w : α → Nat} {x : Bool} {s : Str} {A B : Pp α} (hA : Wt (c + 1025) w A) (hB : Wt c w B) : Wt c w (tokIf x s A B):=by
 cases x with
 | true=>exact Wt.tok hA hB
 | false=>exact hB
@[reducible] def T0 (p : Pp Tree) : Prop:=Wt 0 Tree.bulk p
@[reducible] def L0 (p : Pp (List Tree)) : Prop:=Wt 0 bulkL p
theorem szL_app (a b : List Tree) : bulkL (a++b)=bulkL a + bulkL b:=by
 induction a with
 | nil=>simp [bulkL]
 | cons x l ih=>simp only [List.cons_append,bulkL,ih];omega
variable {N : Nat}
structure GWt (g : Gr) : Prop where
 typ : T0 g.typ
 block : T0 g.block
 stmt : T0 g.stmt
 branch : T0 g.branch
 expr : ∀ b,T0 (g.expr b)
 unary : ∀ b,T0 (g.unary b)
end Go.Pb


/- PsScut -/
set_option linter.unusedVariables false
set_option linter.unusedSimpArgs false
namespace Go.Sep
end Go.Sep


/- PsAns -/
set_option linter.unusedVariables false
set_option linter.unusedSimpArgs false
namespace Go.Sep
def tkF (l : List Tok) : Ps.F:=fun i=>match l[i]? with
 | some t=>some ⟨t.kind,t.text,t.num⟩
 | none=>none
def placeD (s : Str) (l : List Tok) (k : Nat) : Int:=match l[k]? with
 | some t=>t.at_
 | none=>(s.length : Int)
structure PA where
 tree : Tree
 at_ : Int
 e : Int
def emptyT : Tree := .mk 0 [] 0 []
def parseL (s : Str) (l : List Tok) : PA :=
 match Ps.program l.length (tkF l) 0 with
 | .ok ds _=>if (Tree.mk 1 [] 0 ds).size ≤ 20000∧(Tree.mk 1 [] 0 ds).deep ≤ 100 then ⟨.mk 1 [] 0 ds,0,0⟩ else ⟨emptyT,0,4⟩
 | .bad k=>⟨emptyT,placeD s l k,3⟩
 | .out=>⟨emptyT,0,0⟩
def parseD (s : Str) : PA:=if (scanD s).e=0 then parseL s (scanD s).list else ⟨emptyT,((scanD s).at_ : Int),(scanD s).e⟩
def ParseR (a : PA) (r : Value) (m' : Mem) : Prop := ∃ x,r = .tuple ⟨[treeV x, .int .i64 a.at_, .int .i64 a.e]⟩ ∧ TreeRep m' x a.tree
theorem emptyT_rep (m : Mem) : TreeRep m ⟨0,[],0,⟨none,0,0⟩⟩ emptyT:=⟨rfl,rfl,rfl,SlRep.nil _ _⟩
end Go.Sep


/- PsFin -/
namespace Go.Sep
theorem tkF_none (l : List Tok) : ∀ i,l.length ≤ i→tkF l i=none:=fun i h=>by unfold tkF;rw [List.getElem?_eq_none h]
theorem program_ne (l : List Tok) : Ps.program l.length (tkF l) 0 ≠ .out:=(Ps.Run.program (tkF_none l)).out 0 (Nat.le_refl _) (Nat.zero_le _)
end Go.Sep


/- PsTokP -/
set_option linter.unusedVariables false
set_option linter.unusedSimpArgs false
namespace Go.Sep
structure TOk (t : Tok) : Prop where
 name : t.kind=1→isName t.text=true
 num : t.kind=2→0 ≤ t.num
 short : t.text.length ≤ 1024
end Go.Sep


/- PtScan -/
set_option linter.unusedVariables false
set_option linter.unusedSimpArgs false
namespace Go.Pt
open Go.Sep Go.Ps
def TkV (t : Tk) : Prop :=
 (t.kind=1∧isName t.text=true∧t.num=0) ∨ (t.kind=2∧t.text=[]∧0 ≤ t.num∧t.num < 9223372036854775808) ∨ (t.kind=3∧t.text.length ≤ 1024∧t.num=0) ∨ (t.kind=4∧t.text ∈ markL∧t.num=0) ∨ (t.kind=5∧t.text ∈ wordL∧t.num=0)
def txt (t : Tk) : Str:=if t.kind=2 then digN t.num.toNat else if t.kind=3 then quoteD t.text else t.text
def stopB (c : UInt8) : Bool := !lod c && (!decide (c=61) && (!decide (c=38) && (!decide (c=124) && !decide (c=47))))
structure Nx (t : Tk) (R : Str) : Prop where
 tk : tokD (txt t++R)=some (⟨t.kind,t.text,t.num,0⟩,(txt t).length)
 bl : blk false (txt t++R)=0
 pos : txt t ≠ []
theorem valN_append : ∀ (s r : Str) (a : Nat),valN (s++r) a=valN r (valN s a)
 | [],r,a=>rfl
 | c :: s,r,a=>by rw [List.cons_append,valN,valN,valN_append s r]
theorem digF_dec : ∀ (f n : Nat),1 ≤ f→n < 10 ^ f→Dec (digF f n) n
 | 0,n,h,_=>by omega
 | f + 1,n,_,hn=>by
  have hd : ∀ k,k < 10→dgt (UInt8.ofNat (48 + k))=true∧(UInt8.ofNat (48 + k)).toNat - 48=k:=by
   intro k hk
   have : ∀ k : Fin 10,dgt (UInt8.ofNat (48 + k.val))=true∧(UInt8.ofNat (48 + k.val)).toNat - 48=k.val:=by decide
   exact this ⟨k,hk⟩
  unfold digF
  by_cases h : n < 10
  ·rw [if_pos h]
   exact ⟨by simp,by rw [List.all_cons,(hd n h).1];rfl,by show 0 * 10 + ((UInt8.ofNat (48 + n)).toNat - 48)=n;rw [(hd n h).2];omega, .inr rfl⟩
  ·rw [if_neg h]
   have hf : 1 ≤ f:=by
    rcases Nat.eq_zero_or_pos f with rfl | h1
    ·simp at hn;omega
    ·exact h1
   have ih:=digF_dec f (n / 10) hf (by rw [Nat.pow_succ] at hn;omega)
   have hm:=hd (n % 10) (by omega)
   refine ⟨by simp, ?_, ?_, .inl ?_⟩
   ·rw [List.all_append,ih.dig,List.all_cons,hm.1];rfl
   ·rw [valN_append,ih.val]
    show n / 10 * 10 + ((UInt8.ofNat (48 + n % 10)).toNat - 48)=n
    rw [hm.2];omega
   ·have hp:=ih.pos
    obtain ⟨x,s,hs⟩ : ∃ x s,digF f (n / 10)=x :: s:=by
     cases hs : digF f (n / 10) with
     | nil=>exact absurd hs hp
     | cons x s=>exact ⟨x,s,rfl⟩
    have hl:=ih.lead
    have hv:=ih.val
    rw [hs] at hl hv ⊢
    intro h0
    have h0' : x=48:=by simpa using h0
    subst h0'
    rcases hl with h1 | h1
    ·exact h1 rfl
    ·have : s=[]:=by simpa using h1
     subst this
     simp [valN] at hv
     omega
theorem digN_dec {n : Nat} (h : n < 9223372036854775808) : Dec (digN n) n:=digF_dec 20 n (by decide) (by omega)
theorem tok_word {x : UInt8} {w : Str} {c : UInt8} {r : Str} (hx : ltr x=true) (hw : (x :: w).all lod=true) (hl : (x :: w).length ≤ 64) (hc : lod c=false) :
  tokD ((x :: w)++c :: r)=some (⟨if (x :: w) ∈ wordL then 5 else 1,x :: w,0,0⟩,(x :: w).length):=by
 have hs : spanOf lod ((x :: w)++c :: r)=(x :: w).length:=by rw [span_app hw,span_stop hc];rfl
 have ht : ((x :: w)++c :: r).take (x :: w).length=x :: w:=by simp
 rw [List.cons_append] at hs ht ⊢
 rw [tokD,if_pos hx,hs,if_neg (by omega),ht]
theorem blk_one {x : UInt8} {r : Str} (h1 : isSp x=false) (h2 : x.toNat ≠ 47) : blk false (x :: r)=0:=by
 rw [blk,if_neg (by rw [h1];decide),if_neg fun h=>h2 h.1]
theorem ltr_blk {x : UInt8} {r : Str} (h : ltr x=true) : blk false (x :: r)=0:=by
 unfold ltr at h
 simp only [Bool.or_eq_true,decide_eq_true_eq] at h
 refine blk_one ?_ (by omega)
 unfold isSp
 simp only [Bool.or_eq_false_iff,decide_eq_false_iff_not]
 omega
theorem name_head {w : Str} (h : isName w=true) : ∃ x w',w=x :: w' ∧ ltr x=true∧w.all lod=true∧w.length ≤ 64∧w ∉ wordL:=by
 unfold isName at h
 simp only [Bool.and_eq_true,decide_eq_true_eq,Bool.not_eq_true'] at h
 obtain ⟨h1,h2,h3,h4,h5⟩:=h
 cases w with
 | nil=>simp at h1
 | cons x w' =>
  refine ⟨x,w',rfl, ?_,h4,h2,by simpa using h5⟩
  have : lod x=true:=List.all_eq_true.1 h4 x (by simp)
  rw [dgt_ltr,this]
  simpa using h3
theorem word_head : ∀ w ∈ wordL, ∃ x w',w=x :: w' ∧ ltr x=true∧w.all lod=true∧w.length ≤ 64:=by
 have : ∀ w ∈ wordL,w.head?.any ltr=true∧w.all lod=true∧w.length ≤ 64:=by decide
 intro w hw
 obtain ⟨h1,h2,h3⟩:=this w hw
 cases w with
 | nil=>simp at h1
 | cons x w'=>exact ⟨x,w',rfl,by simpa using h1,h2,h3⟩
theorem prefixB_take (p s : Str) (k : Nat) (h : p.length ≤ k) : prefixB p s=prefixB p (s.take k):=by
 unfold prefixB
 rw [List.take_take,show min p.length k=p.length by omega,List.length_take]
 congr 1
 exact decide_eq_decide.2 (by omega)
theorem mark_fin : ∀ m ∈ markL, ∀ c : Fin 256,stopB (UInt8.ofNat c.val)=true→markL.find? (fun p=>prefixB p ((m++[UInt8.ofNat c.val]).take 2))=some m:=by decide +kernel
theorem mark_len : ∀ m ∈ markL,m.length=1 ∨ m.length=2:=by decide
theorem mark_head : ∀ m ∈ markL,m.head?.any (fun x => !ltr x && (!dgt x && (!decide (x.toNat=34) && !isSp x)))=true:=by decide
theorem mark_slash : ∀ m ∈ markL,m.head? = some 47→m=[47]:=by decide
theorem tok_mark {m : Str} (hm : m ∈ markL) {c : UInt8} {r : Str} (hc : stopB c=true) : tokD (m++c :: r)=some (⟨4,m,0,0⟩,m.length)∧blk false (m++c :: r)=0:=by
 have h1:=mark_fin m hm ⟨c.toNat,c.toNat_lt⟩ (by simpa using hc)
 simp only [UInt8.ofNat_toNat] at h1
 have h2 : (m++c :: r).take 2=(m++[c]).take 2:=by
  rcases mark_len m hm with h | h
  ·obtain ⟨x,rfl⟩:=List.length_eq_one_iff.1 h;rfl
  ·match m,h with
   | [x,y],_=>rfl
 have h3 : markL.find? (fun p=>prefixB p (m++c :: r))=some m:=by
  rw [← h1]
  have e : ∀ l : List Str,(∀ p ∈ l,p.length ≤ 2)→l.find? (fun p=>prefixB p (m++c :: r))=l.find? (fun p=>prefixB p ((m++[c]).take 2)):=by
   intro l
   induction l with
   | nil=>intro _;rfl
   | cons p l ih =>
    intro hl
    rw [List.find?_cons,List.find?_cons,ih fun q hq=>hl q (by simp [hq]),prefixB_take p (m++c :: r) 2 (hl p (by simp)),h2]
  exact e markL (by decide)
 have h4:=mark_head m hm
 have h5:=mark_slash m hm
 cases m with
 | nil=>simp at h4
 | cons x m' =>
  simp only [List.head?_cons,Option.any_some,Bool.and_eq_true,Bool.not_eq_true',decide_eq_false_iff_not] at h4
  rw [List.cons_append] at h3 ⊢
  refine ⟨by rw [tokD,if_neg (by rw [h4.1];decide),if_neg (by rw [h4.2.1];decide),if_neg h4.2.2.1,h3], ?_⟩
  by_cases h47 : x.toNat=47
  ·have hx : x=47:=UInt8.toNat_inj.1 h47
   have:=h5 (by rw [hx];rfl)
   injection this with _ hm'
   subst hm'
   rw [blk,if_neg (by rw [h4.2.2.2];decide),if_neg]
   rintro ⟨_,h6⟩
   have : c=47:=by simpa using h6
   subst this
   revert hc;decide
  ·exact blk_one h4.2.2.2 h47
theorem Nx.of {t : Tk} (h : TkV t) {c : UInt8} (hc : stopB c=true) (r : Str) : Nx t (c :: r):=by
 have hl : lod c=false:=by
  unfold stopB at hc
  simp only [Bool.and_eq_true,Bool.not_eq_true'] at hc
  exact hc.1
 obtain ⟨k,w,u⟩:=t
 rcases h with ⟨h1,h2,h3⟩ | ⟨h1,h2,h3,h4⟩ | ⟨h1,h2,h3⟩ | ⟨h1,h2,h3⟩ | ⟨h1,h2,h3⟩
 ·obtain rfl : k=1:=h1
  obtain rfl : u=0:=h3
  have h2' : isName w=true:=h2
  obtain ⟨x,w',rfl,g1,g2,g3,g4⟩:=name_head h2'
  have ht:=tok_word (r:=r) g1 g2 g3 hl
  rw [if_neg g4] at ht
  exact ⟨ht,ltr_blk g1,by simp [txt]⟩
 ·obtain rfl : k=2:=h1
  obtain rfl : w=[]:=h2
  have h3' : 0 ≤ u:=h3
  have h4' : u < 9223372036854775808:=h4
  have hd:=digN_dec (n:=u.toNat) (by omega)
  have ht:=tok_num (r:=r) hd (by omega) hl
  obtain ⟨x,s',hs,hx⟩:=dec_head hd
  have e : txt ⟨2,[],u⟩ = digN u.toNat:=rfl
  refine ⟨?_, ?_,by rw [e];exact hd.pos⟩
  ·rw [e,ht]
   show some (Tok.mk 2 [] ((u.toNat : Nat) : Int) 0,_)=some (Tok.mk 2 [] u 0,_)
   rw [show ((u.toNat : Nat) : Int)=u by omega]
  ·rw [e,hs,List.cons_append,blk_dgt hx]
 ·obtain rfl : k=3:=h1
  obtain rfl : u=0:=h3
  have h2' : w.length ≤ 1024:=h2
  have e : txt ⟨3,w,0⟩ = quoteD w:=rfl
  refine ⟨?_, ?_,by rw [e,quoteD];simp⟩
  ·rw [e]
   have e2 : quoteD w++c :: r=34 :: (quoteB w++34 :: (c :: r)):=by rw [quoteD];simp
   rw [e2,tokD_str (lit_quoteB w (c :: r)),if_neg (by omega),quoteD_len]
  ·rw [e,quoteD,List.cons_append,blk_34]
 ·obtain rfl : k=4:=h1
  obtain rfl : u=0:=h3
  have h2' : w ∈ markL:=h2
  have:=tok_mark (r:=r) h2' hc
  exact ⟨this.1,this.2,fun e=>by
   have h4:=mark_head w h2'
   have e' : w=[]:=e
   rw [e'] at h4;simp at h4⟩
 ·obtain rfl : k=5:=h1
  obtain rfl : u=0:=h3
  have h2' : w ∈ wordL:=h2
  obtain ⟨x,w',rfl,g1,g2,g3⟩:=word_head w h2'
  have ht:=tok_word (r:=r) g1 g2 g3 hl
  rw [if_pos h2'] at ht
  exact ⟨ht,ltr_blk g1,by simp [txt]⟩
def lay : List (Tk × Str)→Str
 | []=>[]
 | (t,g) :: ps=>txt t++(g++lay ps)
def OkL : List (Tk × Str)→Prop
 | []=>True
 | (t,g) :: ps=>Nx t (g++lay ps)∧g.all isSp=true∧OkL ps
theorem lay_blk {ps : List (Tk × Str)} (h : OkL ps) : blk false (lay ps)=0:=by
 match ps,h with
 | [],_=>rfl
 | (t,g) :: ps,h=>exact h.1.bl
theorem blk_sp : ∀ (g r : Str),g.all isSp=true→blk false (g++r)=g.length + blk false r
 | [],r,_=>by simp
 | c :: g,r,h=>by
  rw [List.all_cons,Bool.and_eq_true] at h
  rw [List.cons_append,blk,if_pos h.1,blk_sp g r h.2,List.length_cons];omega
def bareT (t : Tok) : Tk:=⟨t.kind,t.text,t.num⟩
theorem cut_lay : ∀ (ps : List (Tk × Str)) (g0 : Str) (f at_ k : Nat),OkL ps→g0.all isSp=true→(g0++lay ps).length < f→k ≤ 20000 →
  (k + ps.length ≤ 20000 → ∃ l,cutF f (g0++lay ps) at_ k = .ok l∧l.map bareT=ps.map Prod.fst)∧(20000 < k + ps.length → ∃ a,cutF f (g0++lay ps) at_ k = .error (a,4)∧at_ + (20000 - k) ≤ a)
 | ps,g0,0,at_,k,_,_,hf,_=>by omega
 | [],g0,f + 1,at_,k,_,hg,hf,hk=>by
  have hb : blk false (g0++lay [])=g0.length:=by rw [blk_sp g0 _ hg];rfl
  have hd : (g0++lay []).drop g0.length=[]:=by simp [lay]
  refine ⟨fun _=>⟨[],by rw [cutF,hb,hd,if_pos rfl],rfl⟩,fun h=>by simp at h;omega⟩
 | (t,g) :: ps,g0,f + 1,at_,k,ho,hg,hf,hk=>by
  have hb : blk false (g0++lay ((t,g) :: ps))=g0.length:=by rw [blk_sp g0 _ hg,lay_blk ho];omega
  have hd : (g0++lay ((t,g) :: ps)).drop g0.length=txt t++(g++lay ps):=by simp [lay]
  have hne : txt t++(g++lay ps) ≠ []:=fun e=>ho.1.pos (List.append_eq_nil_iff.1 e).1
  have hp : 1 ≤ (txt t).length:=List.length_pos_iff.2 ho.1.pos
  rw [cutF,hb,hd,if_neg hne]
  by_cases h20 : k=20000
  ·rw [if_pos h20]
   refine ⟨fun h=>by simp at h;omega,fun _=>⟨_,rfl,by omega⟩⟩
  rw [if_neg h20,ho.1.tk]
  have hd2 : (txt t++(g++lay ps)).drop (txt t).length=g++lay ps:=List.drop_left
  simp only [hd2]
  have hlen : (g++lay ps).length < f:=by
   have e : (g0++lay ((t,g) :: ps)).length=g0.length + ((txt t).length + (g++lay ps).length):=by simp [lay]
   omega
  have ih:=cut_lay ps g f (at_ + g0.length + (txt t).length) (k + 1) ho.2.2 ho.2.1 hlen (by omega)
  refine ⟨fun h => ?_,fun h => ?_⟩
  ·obtain ⟨l,h1,h2⟩:=ih.1 (by simp at h;omega)
   rw [h1]
   exact ⟨_,rfl,by rw [List.map_cons,List.map_cons,h2];rfl⟩
  ·obtain ⟨a,h1,h2⟩:=ih.2 (by simp at h;omega)
   rw [h1]
   exact ⟨a,rfl,by omega⟩
theorem scan_lay {ps : List (Tk × Str)} (h : OkL ps) (hl : (lay ps).length ≤ 65536) :
  (ps.length ≤ 20000 → ∃ l,scanD (lay ps) = ⟨l,0,0⟩ ∧ l.map bareT=ps.map Prod.fst)∧(20000 < ps.length → ∃ a,scanD (lay ps) = ⟨[],a,4⟩ ∧ 0 < a):=by
 have hc:=cut_lay ps [] ((lay ps).length + 1) 0 0 h rfl (by simp) (by omega)
 rw [List.nil_append,Nat.zero_add] at hc
 unfold scanD
 rw [if_neg (by omega)]
 refine ⟨fun h1 => ?_,fun h1 => ?_⟩
 ·obtain ⟨l,h2,h3⟩:=hc.1 h1
  exact ⟨l,by rw [h2];rfl,h3⟩
 ·obtain ⟨a,h2,h3⟩:=hc.2 h1
  exact ⟨a,by rw [h2];rfl,by omega⟩
theorem tkF_bare (l : List Tok) : tkF l=fun i=>(l.map bareT)[i]?:=by
 funext i
 unfold tkF
 rw [List.getElem?_map]
 cases l[i]? <;> rfl
end Go.Pt

