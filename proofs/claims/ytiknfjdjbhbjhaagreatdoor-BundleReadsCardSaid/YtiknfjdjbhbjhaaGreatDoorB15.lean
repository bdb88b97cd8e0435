/-
  Part 15 of the proof: library, walks and plain laws.
-/
import Derived.Lib.Bytealg
import Derived.Test.YtiknfjdjbhbjhaaGreatDoorB14
set_option linter.unusedVariables false
set_option linter.unusedSimpArgs false
namespace Go.Sep
open Go.Proofs
attribute [local irreducible] TC TO OT TCallX TCall DO DOt thenQ blockQ retQ At
theorem OT.assignO {P : Program} {N : Nat} {ρ : Env} {D : List Deferred} {m : Mem} {L : List Item} {Q : EPost} {o : Oper} {K : Env→Mem→List Item→Prop} {x : Operand} {d : Nat} {v : Value} (ho : o.op = .assign x) (hd : o.dst=some d) (hN : Nat.blt d N=true) (hx : ev ρ x=some v) (hK : K ((d,v) :: ρ) m L) : OT P N o ρ D m L Q K :=
 OT.run hd hN (fun ac w ha=>⟨w,by simp only [execOp,ho,ha.env.eval hx,Sem.run_pure],ha.st⟩) hK
def joinX (l : List Ch) : Str:=if errD l=0 then joinD (ordF l) else []
theorem join_law (s : Sl) (l : List Ch) (m : Mem) (L : List Item) (hs : SlRep rCh m s l) (hw : Wide l) : TCall Tryz.prog 10 ⟨[s.v]⟩ m L (Made m L fun r _=>r = .tuple ⟨[strV (joinX l), .int .i64 (errD l)]⟩):=by
 unfold TCall
 refine TCallX.enter Tryz.func10 rfl 18 rfl ?_
 refine uA ?_
 refine TO.step rfl (OT.call rfl rfl rfl rfl rfl rfl goes23 ((open_law s l m L hs hw).x ?_));
 rintro r1 m1 _ ⟨hm1,rfl,hR⟩
 rcases hR with ⟨h0,rfl⟩ | ⟨h0,b,sf,sb,rfl,hA,hf,hb⟩
 ·refine uA ?_
  refine TC.condN rfl (fun h1 => ?_) (fun h1 => ?_)
  ·refine uA ?_
   refine retQ_ret rfl (L':=L) uS ⟨hm1,rfl,by rw [joinX,if_neg h0]⟩
  ·exact absurd h1 h0
 ·refine uA ?_
  (refine TO.step rfl (OT.loadA tab hA rfl rfl rfl rfl rfl ?_))
  refine uA ?_
  refine retQ_ret rfl (L':=L) uS ⟨hm1,rfl,by rw [joinX,if_pos h0,h0]⟩
set_option maxHeartbeats 1000000 in
theorem runB_law (s : Sl) (l : List Ch) (m : Mem) (L : List Item) (hs : SlRep rCh m s l) (hw : Wide l) (h0 : errD l=0) (ht : joinD (ordF l)=[102,117,110,99,32,109,97,105,110,40,41,32,123,32,112,114,105,110,116,40,49,41,59,32,125,10]) :
  TCall Tryz.prog 26 ⟨[s.v, .int .i64 0, .agg ⟨[.int .i64 40000, .int .i64 40000, .int .i64 2000000, .slice none 0 0, .slice none 0 0]⟩]⟩ m L (Made m L fun r m' => ∃ k0 k1 k2 k4 k5 x0 x1 x2 x4 x5 b o c,r = .tuple ⟨[.agg ⟨[.int k0 x0, .int k1 x1, .int k2 x2, .slice (some ⟨b,o,none⟩) 2 c, .int k4 x4, .int k5 x5]⟩, .int .i64 0]⟩ ∧ At m' b o [.int .u8 49, .int .u8 10]∧2 ≤ c):=by
 unfold TCall
 refine TCallX.enter Tryz.func26 rfl 28 rfl ?_
 refine uA ?_
 refine TO.step rfl (OT.box rfl rfl rfl rfl rfl (fun b5 => ?_))
 refine uA ?_
 refine TO.step rfl (OT.alloc tab rfl rfl rfl rfl (fun b6 => ?_))
 refine uA ?_
 refine TO.step rfl (OT.call rfl rfl rfl rfl rfl rfl goes23 ((open_law s l m _ hs hw).x ?_));
 rintro r1 m1 _ ⟨hm1,rfl,hR⟩
 rcases hR with ⟨h1,rfl⟩ | ⟨h1,b,sf,sb,rfl,hA,hf,hb⟩
 ·exact absurd h0 h1
 ·rw [ht] at hA
  refine uA ?_
  refine TC.draw [9,10] mixed 11 rfl [.cells b6 0 _, .cells b5 0 [.int .i64 40000, .int .i64 40000, .int .i64 2000000, .slice none 0 0, .slice none 0 0]] L uP ?_
  refine DO.pure tab uC (by kernel_rfl) [0,1,2] (by kernel_rfl) rfl ?_
  (refine DO.loadA tab 3 hA uC (by kernel_rfl) (by kernel_rfl) rfl rfl rfl rfl rfl rfl rfl ?_)
  refine DO.pure tab uC (by kernel_rfl) [4] (by kernel_rfl) rfl ?_
  (refine DO.loadL (k:=0) tab 5 1 uC (by kernel_rfl) (by kernel_rfl) rfl rfl rfl rfl rfl rfl rfl rfl ?_)
  refine DO.run 6 rfl rfl (by kernel_rfl) rfl (OT.call rfl rfl rfl rfl rfl rfl goes52 ((Ev.run_law m1 _).x ?_))
  rintro _ m2 _ ⟨hm2,rfl,k0,k1,k2,k4,k5,x0,x1,x2,x4,x5,bo,oo,co,rfl,hO,hc2⟩;refine ⟨hm2,_,List.Perm.refl _, ?_⟩
  refine DO.pure tab uC (by kernel_rfl) [7,8] (by kernel_rfl) rfl ?_
  refine DO.tail ?_
  refine DOt.run 9 rfl rfl (by kernel_rfl) rfl ?_
  refine OT.storeL0 tab 0 rfl rfl rfl rfl rfl rfl rfl rfl ?_
  refine DOt.run 10 rfl rfl (by kernel_rfl) rfl ?_
  refine OT.assignO rfl rfl rfl rfl ?_
  refine DOt.nil (by kernel_rfl) ?_
  rotate_left 1
  refine uA ?_
  refine retQ_ret_c tab 0 rfl rfl rfl rfl rfl (L':=L) uS ⟨Mem.le_trans hm1 hm2,rfl,k0,k1,k2,k4,k5,x0,x1,x2,x4,x5,bo,oo,co,rfl,hO,hc2⟩
end Go.Sep
set_option linter.unusedVariables false
set_option linter.unusedSimpArgs false
namespace Go.Sep
open Go.Proofs
attribute [local irreducible] TC TO OT TCallX TCall DO DOt thenQ blockQ retQ At
theorem count_law (m : Mem) (L : List Item) (s : Str) (c : UInt8) : TCall Tryz.prog 54 ⟨[strV s,strV [c]]⟩ m L (Ret (.int .i64 ((s.count c : Nat) : Int)) m L):=by
 unfold TCall
 refine TCallX.enter Tryz.func54 rfl 34 rfl ?_
 refine uA ?_
 refine TO.step rfl (OT.sidxK tab (s:=[c]) (b:=c) 0 rfl rfl rfl rfl rfl rfl rfl rfl ?_)
 refine uA ?_
 refine TO.step rfl (OT.callX (E:=Extern.BytealgCount.count) (vs:=[strV s,byteV c]) (v := .int .i64 ((s.count c : Nat) : Int)) rfl rfl rfl rfl rfl Tryz.func92 (by kernel_rfl) (by kernel_rfl) (by kernel_rfl) (by kernel_rfl) (fun w _ => ?_) ?_)
 ·have:=Lib.run_countString (P:=Tryz.prog) ⟨⟨s⟩⟩ (c.toNat : Int) w
  simpa [Lib.countByte] using this
 ·refine uA ?_
  refine retQ_ret rfl uS ⟨rfl,rfl, ?_⟩
  rfl
def lastB (s : Str) (c : UInt8) : Nat→Int
 | 0 => -1
 | k + 1=>if s[k]? = some c then (k : Int) else lastB s c k
theorem lastS_law (m : Mem) (L : List Item) (s : Str) (c : UInt8) (hs : s.length ≤ 140737488355328) : TCall Tryz.prog 94 ⟨[strV s,byteV c]⟩ m L (Ret (.int .i64 (lastB s c s.length)) m L):=by
 unfold TCall
 refine TCallX.enter Tryz.func94 rfl 19 rfl ?_
 refine uA ?_
 refine TO.step rfl (OT.arith (r':=(s.length : Int) - 1) rfl rfl rfl rfl rfl rfl rfl (by omega) ?_)
 refine uA ?_
 refine TC.loopK (ι:=Nat) [0,1] rfl (fun k=>[(5, .int .i64 ((k : Int) - 1))]) (fun _=>m) (fun _=>L) (fun k=>k ≤ s.length∧lastB s c s.length=lastB s c k) (fun k=>k) s.length uH rfl uS ⟨Nat.le_refl _,rfl⟩ ?_
 rintro k ⟨hk,hI⟩
 refine uA ?_
 refine TC.condP rfl (fun h1 => ?_) (fun h1 => ?_)
 ·obtain ⟨j,rfl⟩ : ∃ j,k=j + 1:=⟨k - 1,by omega⟩
  have hlt : j < s.length:=by omega
  have hx : s[j]? = some s[j]:=by simp [hlt]
  refine uA ?_
  refine TO.step rfl (OT.sidx tab j rfl rfl rfl rfl rfl rfl (by omega) hx ?_)
  refine uA ?_
  refine TC.condP rfl (fun h2 => ?_) (fun h2 => ?_)
  ·refine uA ?_
   refine retQ_ret rfl uS ⟨rfl,rfl, ?_⟩
   have e : s[j]=c:=UInt8.toNat_inj.1 (by omega)
   rw [hI,lastB,if_pos (by rw [hx,e])]
   congr 1
   omega
  ·refine uA ?_
   refine TO.step rfl (OT.arith (r':=(j : Int) - 1) rfl rfl rfl rfl rfl rfl (by omega) (by omega) ?_)
   refine uA ?_
   refine ⟨j,uH,uH,rfl,rfl,uS,⟨by omega, ?_⟩,by omega⟩
   rw [hI,lastB,if_neg (fun e=>h2 (by rw [hx] at e;rw [Option.some.inj e]))]
 ·have : k=0:=by omega
  subst this
  refine uA ?_
  refine retQ_ret rfl uS ⟨rfl,rfl, ?_⟩
  rw [hI];rfl
theorem last_law (m : Mem) (L : List Item) (s : Str) (c : UInt8) (hs : s.length ≤ 140737488355328) : TCall Tryz.prog 55 ⟨[strV s,byteV c]⟩ m L (Ret (.int .i64 (lastB s c s.length)) m L):=by
 unfold TCall
 refine TCallX.enter Tryz.func55 rfl 8 rfl ?_
 refine uA ?_
 refine TO.step rfl (OT.call rfl rfl rfl rfl rfl rfl goes94 ((lastS_law m L s c hs).x ?_));
 rintro _ _ _ ⟨rfl,rfl,rfl⟩
 refine uA ?_
 refine retQ_ret rfl uS ⟨rfl,rfl, ?_⟩
 rfl
theorem nanI_law (m : Mem) (L : List Item) (x : Int) : TCall Tryz.prog 162 ⟨[.int .i64 x]⟩ m L (Ret (.bool false) m L):=by
 unfold TCall
 refine TCallX.enter Tryz.func162 rfl 6 rfl ?_
 refine uA ?_
 refine retQ_ret rfl uS ⟨rfl,rfl, ?_⟩
 simp
theorem nanJ_law (m : Mem) (L : List Item) (x : Int) : TCall Tryz.prog 90 ⟨[.int .i64 x]⟩ m L (Ret (.bool false) m L):=by
 unfold TCall
 refine TCallX.enter Tryz.func90 rfl 6 rfl ?_
 refine uA ?_
 refine retQ_ret rfl uS ⟨rfl,rfl, ?_⟩
 simp
theorem less_law (m : Mem) (L : List Item) (x y : Int) : TCall Tryz.prog 89 ⟨[.int .i64 x, .int .i64 y]⟩ m L (Ret (.bool (decide (x < y))) m L):=by
 unfold TCall
 refine TCallX.enter Tryz.func89 rfl 17 rfl ?_
 refine uA ?_
 refine TO.step rfl (OT.call rfl rfl rfl rfl rfl rfl goes162 ((nanI_law m L x).x ?_));
 rintro _ _ _ ⟨rfl,rfl,rfl⟩
 refine uA ?_
 refine retQ_ret rfl uS ⟨rfl,rfl, ?_⟩
 rfl
def Inc (l : List Int) : Prop := ∀ (i j : Nat) (x y : Int),i < j→l[i]? = some x→l[j]? = some y→x < y
structure At0 (l : List Int) (t : Int) (i : Nat) : Prop where
 le : i ≤ l.length
 lo : ∀ (j : Nat) (x : Int),j < i→l[j]? = some x→x < t
 hi : ∀ (j : Nat) (x : Int),i ≤ j→l[j]? = some x→t ≤ x
set_option maxHeartbeats 1000000 in
theorem bsearch_law (m : Mem) (L : List Item) (s : Sl) (l : List Int) (t : Int) (hs : SlRep rInt m s l) (hl : l.length ≤ 1000000) (hi : Inc l) : TCall Tryz.prog 53 ⟨[s.v, .int .i64 t]⟩ m L (fun r m' L'=>m=m' ∧ L=L' ∧ ∃ i : Nat,At0 l t i∧r = .tuple ⟨[.int .i64 (i : Int), .bool (decide (l[i]? = some t))]⟩):=by
 have hlen:=hs.len
 unfold TCall
 refine TCallX.enter Tryz.func53 rfl 54 rfl ?_
 refine uA ?_
 refine TC.loopK (ι:=Nat × Nat) [0,1,6] rfl (fun x=>[(7, .int .i64 (x.1 : Int)),(8, .int .i64 (x.2 : Int))]) (fun _=>m) (fun _=>L) (fun x=>x.1 ≤ x.2∧x.2 ≤ l.length∧(∀ (j : Nat) (y : Int),j < x.1→l[j]? = some y→y < t)∧(∀ (j : Nat) (y : Int),x.2 ≤ j→l[j]? = some y→t ≤ y)) (fun x=>x.2 - x.1) (0,s.len) uH rfl uS ⟨Nat.zero_le _,by simp only;omega,fun j y h=>by simp only at h;omega,fun j y h hy=>by simp only at h;rw [List.getElem?_eq_none (by omega)] at hy;cases hy⟩ ?_
 rintro ⟨a,b⟩ ⟨h1,h2,h3,h4⟩
 simp only at h1 h2 h3 h4 ⊢
 refine uA ?_
 refine TC.condP rfl (fun h5 => ?_) (fun h5 => ?_)
 ·obtain ⟨c,hc⟩ : ∃ c,c=(a + b) / 2:=⟨_,rfl⟩
  have hlt : c < l.length:=by omega
  have hx : l[c]? = some l[c]:=by simp [hlt]
  refine uA ?_
  refine TO.step rfl (OT.arith (r':=((a + b : Nat) : Int)) rfl rfl rfl rfl rfl rfl (by omega) (by omega) ?_)
  refine uA ?_
  refine TO.step rfl (OT.conv tab (r:=((a + b : Nat) : Int)) rfl rfl rfl rfl rfl rfl (u64_in' (by omega) (by omega)) ?_)
  refine uA ?_
  refine TO.step rfl (OT.shK rfl (.inr rfl) rfl rfl rfl rfl (by decide) (shr_u64 (a + b) 1 2 (by decide) (by decide)) ?_)
  refine uA ?_
  rw [← hc]
  refine TO.step rfl (OT.conv tab (r:=(c : Int)) rfl rfl rfl rfl rfl rfl (wrap64_in (by omega) (by omega)) ?_)
  refine uA ?_
  refine TO.step rfl (OT.index tab rInt c hs rfl rfl rfl rfl rfl (by first | rfl | omega | (simp only;omega)) rfl hx ?_)
  rintro b1 i1 f1 hr1 hA1
  obtain rfl : f1=l[c]:=hr1
  (refine TO.step rfl (OT.loadA0 tab hA1 rfl rfl rfl rfl rfl ?_))
  refine uA ?_
  refine TO.step rfl (OT.call rfl rfl rfl rfl rfl rfl goes89 ((less_law m L l[c] t).x ?_));
  rintro _ _ _ ⟨rfl,rfl,rfl⟩
  refine uA ?_
  refine TC.condP rfl (fun h6 => ?_) (fun h6 => ?_)
  ·refine uA ?_
   refine TO.step rfl (OT.arith (r':=((c + 1 : Nat) : Int)) rfl rfl rfl rfl rfl rfl (by omega) (by omega) ?_)
   refine uA ?_
   refine ⟨(c + 1,b),uH,uH,rfl,rfl,uS,⟨by simp only;omega,h2,fun j y hj hy => ?_,h4⟩,by simp only;omega⟩
   simp only at hj
   by_cases e : j=c
   ·subst e;rw [hx] at hy;rw [← Option.some.inj hy];exact h6
   ·exact Int.lt_trans (hi j _ y _ (by omega) hy hx) h6
  ·refine uA ?_
   refine ⟨(a,c),uH,uH,rfl,rfl,uS,⟨by simp only;omega,by simp only;omega,h3,fun j y hj hy => ?_⟩,by simp only;omega⟩
   simp only at hj
   by_cases e : j=c
   ·subst e;rw [hx] at hy;rw [← Option.some.inj hy];omega
   ·have:=hi _ j _ _ (by omega) hx hy;omega
 ·obtain rfl : a=b:=by omega
  refine uA ?_
  have hA : At0 l t a:=⟨h2,h3,h4⟩
  (refine TO.splitP rfl rfl (fun e1 => ?_) (fun e1 => ?_))
  ·have hlt : a < l.length:=by omega
   have hx : l[a]? = some l[a]:=by simp [hlt]
   refine uA ?_
   refine TO.step rfl (OT.index tab rInt a hs rfl rfl rfl rfl rfl (by first | rfl | omega | (simp only;omega)) rfl hx ?_)
   rintro b1 i1 f1 hr1 hA1
   obtain rfl : f1=l[a]:=hr1
   (refine TO.step rfl (OT.loadA0 tab hA1 rfl rfl rfl rfl rfl ?_))
   refine uA ?_
   (refine TO.splitP rfl rfl (fun e2 => ?_) (fun e2 => ?_))
   ·refine uA ?_
    refine retQ_ret rfl uS ⟨rfl,rfl,a,hA, ?_⟩
    rw [hx]
    simp [e2]
   ·refine uA ?_
    refine TO.step rfl (OT.index tab rInt a hs rfl rfl rfl rfl rfl (by first | rfl | omega | (simp only;omega)) rfl hx ?_)
    rintro b2 i2 f2 hr2 hA2
    obtain rfl : f2=l[a]:=hr2
    (refine TO.step rfl (OT.loadA0 tab hA2 rfl rfl rfl rfl rfl ?_))
    refine uA ?_
    refine TO.step rfl (OT.call rfl rfl rfl rfl rfl rfl goes90 ((nanJ_law m L l[a]).x ?_));
    rintro _ _ _ ⟨rfl,rfl,rfl⟩
    refine uA ?_
    refine retQ_ret rfl uS ⟨rfl,rfl,a,hA, ?_⟩
    rw [hx]
    simp [e2]
  ·refine uA ?_
   refine retQ_ret rfl uS ⟨rfl,rfl,a,hA, ?_⟩
   rw [List.getElem?_eq_none (by omega)]
   rfl
end Go.Sep
set_option linter.unusedVariables false
set_option linter.unusedSimpArgs false
namespace Go.Sep
open Go.Proofs
attribute [local irreducible] TC TO OT TCallX TCall DO DOt thenQ blockQ retQ At
theorem begD_get (l : List Ch) {i : Nat} (h : i < l.length) : (begD l)[i]? = some ((sumD (l.take i) : Nat) : Int):=by
 simp [begD,begT,h]
theorem begD_len (l : List Ch) : (begD l).length=l.length:=by simp [begD,begT]
theorem sumD_lt (l : List Ch) {i j : Nat} (h : i < j) (hj : j ≤ l.length) : sumD (l.take i) < sumD (l.take j):=by
 induction j with
 | zero=>omega
 | succ j ih =>
  have h1:=sumD_next (l:=l) (k:=j) (by omega)
  by_cases e : i=j
  ·subst e;omega
  ·have:=ih (by omega) (by omega);omega
theorem begD_inc (l : List Ch) : Inc (begD l):=by
 intro i j x y h hx hy
 have hi : i < l.length:=by
  rcases Nat.lt_or_ge i l.length with h | h
  ·exact h
  ·rw [List.getElem?_eq_none (by rw [begD_len];exact h)] at hx;cases hx
 have hj : j < l.length:=by
  rcases Nat.lt_or_ge j l.length with h | h
  ·exact h
  ·rw [List.getElem?_eq_none (by rw [begD_len];exact h)] at hy;cases hy
 rw [begD_get l hi] at hx
 rw [begD_get l hj] at hy
 obtain rfl:=Option.some.inj hx
 obtain rfl:=Option.some.inj hy
 have:=sumD_lt l h (by omega)
 omega
def byteOf (a : Str) : Int:=(a.length : Int) - lastB a 10 a.length
def spotV (f : Nat) (a : Str) : Value := .agg ⟨[.int .i64 ((f + 1 : Nat) : Int), .int .i64 ((1 + a.count 10 : Nat) : Int), .int .i64 (byteOf a)]⟩
structure InF (ys : List Ch) (t f : Nat) : Prop where
 lt : f < ys.length
 lo : sumD (ys.take f) ≤ t
 hi : t < sumD (ys.take (f + 1))
theorem lastB_rng (s : Str) (c : UInt8) : ∀ k, -1 ≤ lastB s c k∧lastB s c k < k
 | 0=>by simp [lastB]
 | k + 1=>by
  have:=lastB_rng s c k
  unfold lastB
  split <;> omega
set_option maxHeartbeats 2000000 in
theorem spot_law (m : Mem) (L : List Item) (b : Nat) (sf sb : Sl) (ys : List Ch) (t : Nat) (hA : At m b 0 [sf.v,sb.v,strV (joinD ys)]) (hb : SlRep rInt m sb (begD ys)) (hl : ys.length ≤ 64) (hsum : sumD ys ≤ 65536) (ht : t < sumD ys) :
  TCall Tryz.prog 29 ⟨[.pointer (some ⟨b,0,none⟩), .int .i64 (t : Int)]⟩ m L (fun r m' L'=>m=m' ∧ L=L' ∧ ∃ f,InF ys t f∧r=spotV f (((joinD ys).take t).drop (sumD (ys.take f)))):=by
 have hjl:=joinD_len ys
 unfold TCall
 refine TCallX.enter Tryz.func29 rfl 45 rfl ?_
 refine uA ?_
 refine TO.step rfl (OT.alloc tab rfl rfl rfl rfl (fun b4 => ?_))
 refine uA ?_
 (refine TO.step rfl (OT.loadA tab hA rfl rfl rfl rfl rfl ?_))
 refine uA ?_
 refine TO.step rfl (OT.call rfl rfl rfl rfl rfl rfl goes53 ((bsearch_law m _ sb (begD ys) (t : Int) hb (by rw [begD_len];omega) (begD_inc ys)).x ?_));
 rintro _ _ _ ⟨rfl,rfl,i,hI,rfl⟩
 have hil:=hI.le
 rw [begD_len] at hil
 have hstep : ∀ j,j < i→j < ys.length→sumD (ys.take j) < t:=fun j h1 h2=>by
  have:=hI.lo j _ h1 (begD_get ys h2);omega
 have hstep2 : ∀ j,i ≤ j→j < ys.length→t ≤ sumD (ys.take j):=fun j h1 h2=>by
  have:=hI.hi j _ h1 (begD_get ys h2);omega
 refine uA ?_
 by_cases e : (begD ys)[i]? = some (t : Int)
 ·obtain ⟨f,hfi⟩ : ∃ f,f=i:=⟨_,rfl⟩
  have hd : decide ((begD ys)[i]? = some (t : Int))=true:=decide_eq_true e
  rw [hd]
  rw [← hfi]
  have hif : i < ys.length:=by
   rcases Nat.lt_or_ge i ys.length with h | h
   ·exact h
   ·rw [List.getElem?_eq_none (by rw [begD_len];exact h)] at e;cases e
  have heq : sumD (ys.take i)=t:=by
   rw [begD_get ys hif] at e
   have:=Option.some.inj e;omega
  have hpf : InF ys t f:=⟨by omega,by rw [hfi];omega,by rw [hfi];have:=sumD_lt ys (show i < i + 1 by omega) (by omega);omega⟩
  refine uA ?_
  have hF : InF ys t f:=hpf
  have hx : (begD ys)[f]? = some ((sumD (ys.take f) : Nat) : Int):=begD_get ys hF.lt
  have hle:=hF.lo
  refine uA ?_
  refine TC.draw [] mixed 14 rfl [.cells b4 0 [.int .i64 0, .int .i64 0, .int .i64 0]] L uP ?_
  refine DO.pure tab uC (by kernel_rfl) [0,1,2] (by kernel_rfl) rfl ?_
  (refine DO.loadA tab 3 hA uC (by kernel_rfl) (by kernel_rfl) rfl rfl rfl rfl rfl rfl rfl ?_)
  refine DO.pure tab uC (by kernel_rfl) [4,5,6] (by kernel_rfl) rfl ?_
  (refine DO.loadA tab 7 hA uC (by kernel_rfl) (by kernel_rfl) rfl rfl rfl rfl rfl rfl rfl ?_)
  refine DO.pure tab uC (by kernel_rfl) [8] (by kernel_rfl) rfl ?_
  refine DO.index tab rInt 9 f hb uC (by kernel_rfl) (by kernel_rfl) rfl rfl rfl rfl rfl rfl rfl (by first | rfl | omega) rfl hx ?_
  rintro b1 i1 f1 hr1 hA1;obtain rfl : f1=((sumD (ys.take f) : Nat) : Int):=hr1
  (refine DO.loadA (k:=0) tab 10 hA1 uC (by kernel_rfl) (by kernel_rfl) rfl rfl rfl rfl rfl rfl rfl ?_)
  refine DO.pure tab uC (by kernel_rfl) [11] (by kernel_rfl) rfl ?_
  refine DO.run 12 rfl rfl (by kernel_rfl) rfl ?_
  refine OT.sub tab (sumD (ys.take f)) t rfl rfl rfl rfl rfl rfl rfl (.inr rfl) (.inr rfl) hle (by omega) ?_;refine ⟨Mem.le_refl _,_,List.Perm.refl _, ?_⟩
  refine DO.pure tab uC (by kernel_rfl) [13] (by kernel_rfl) rfl ?_
  (refine DO.nil (by kernel_rfl) ?_)
  rotate_left 1
  obtain ⟨a,ha⟩ : ∃ a,a=((joinD ys).take t).drop (sumD (ys.take f)):=⟨_,rfl⟩
  have hal : a.length ≤ 65536:=by rw [ha];simp;omega
  have hlb:=lastB_rng a 10 a.length
  have hco : a.count 10 ≤ a.length:=List.count_le_length
  rw [← ha]
  refine uA ?_
  refine TO.step rfl (OT.arith (r':=((f + 1 : Nat) : Int)) rfl rfl rfl rfl rfl rfl (by omega) (by have:=hF.lt;omega) ?_)
  refine uA ?_
  refine TO.step rfl (OT.call rfl rfl rfl rfl rfl rfl goes54 ((count_law m _ a 10).x ?_));
  rintro _ _ _ ⟨rfl,rfl,rfl⟩
  refine uA ?_
  refine TO.step rfl (OT.arith (r':=((1 + a.count 10 : Nat) : Int)) rfl rfl rfl rfl rfl rfl (by omega) (by omega) ?_)
  refine uA ?_
  refine TO.step rfl (OT.call rfl rfl rfl rfl rfl rfl goes55 ((last_law m _ a 10 (by omega)).x ?_));
  rintro _ _ _ ⟨rfl,rfl,rfl⟩
  refine uA ?_
  refine TO.step rfl (OT.arith (r':=byteOf a) rfl rfl rfl rfl rfl rfl (by unfold byteOf;omega) (by unfold byteOf;omega) ?_)
  refine uA ?_
  refine uT ?_
  refine uA ?_
  refine retQ_ret_c1 tab 0 rfl rfl rfl rfl (L':=L) uS ⟨rfl,rfl,f,hF,by rw [← ha];rfl⟩
 ·have hd : decide ((begD ys)[i]? = some (t : Int))=false:=decide_eq_false e
  rw [hd]
  have hpos : 0 < ys.length:=by
   rcases Nat.eq_zero_or_pos ys.length with h | h
   ·rw [List.eq_nil_of_length_eq_zero h] at ht;simp [sumD] at ht
   ·exact h
  have hi0 : 0 < i:=by
   rcases Nat.eq_zero_or_pos i with h | h
   ·exfalso
    subst h
    have h1:=hstep2 0 (Nat.le_refl _) hpos
    have h2 : sumD (ys.take 0)=0:=rfl
    exact e (by rw [begD_get ys hpos,h2,show t=0 by omega])
   ·exact h
  obtain ⟨f,hfi⟩ : ∃ f,f=i - 1:=⟨_,rfl⟩
  have hpf : InF ys t f:=⟨by omega,by rw [hfi];have:=hstep (i - 1) (by omega) (by omega);omega,by
   rw [hfi,show i - 1 + 1=i by omega]
   rcases Nat.lt_or_ge i ys.length with h | h
   ·have h1:=hstep2 i (Nat.le_refl _) h
    rcases Nat.lt_or_ge t (sumD (ys.take i)) with h2 | h2
    ·exact h2
    ·exact absurd (by rw [begD_get ys h,show sumD (ys.take i)=t by omega]) e
   ·rw [List.take_of_length_le h];exact ht⟩
  refine uA ?_
  refine TO.step rfl (OT.arith (r':=(f : Int)) rfl rfl rfl rfl rfl rfl (by omega) (by omega) ?_)
  refine uA ?_
  have hF : InF ys t f:=hpf
  have hx : (begD ys)[f]? = some ((sumD (ys.take f) : Nat) : Int):=begD_get ys hF.lt
  have hle:=hF.lo
  refine uA ?_
  refine TC.draw [] mixed 14 rfl [.cells b4 0 [.int .i64 0, .int .i64 0, .int .i64 0]] L uP ?_
  refine DO.pure tab uC (by kernel_rfl) [0,1,2] (by kernel_rfl) rfl ?_
  (refine DO.loadA tab 3 hA uC (by kernel_rfl) (by kernel_rfl) rfl rfl rfl rfl rfl rfl rfl ?_)
  refine DO.pure tab uC (by kernel_rfl) [4,5,6] (by kernel_rfl) rfl ?_
  (refine DO.loadA tab 7 hA uC (by kernel_rfl) (by kernel_rfl) rfl rfl rfl rfl rfl rfl rfl ?_)
  refine DO.pure tab uC (by kernel_rfl) [8] (by kernel_rfl) rfl ?_
  refine DO.index tab rInt 9 f hb uC (by kernel_rfl) (by kernel_rfl) rfl rfl rfl rfl rfl rfl rfl (by first | rfl | omega) rfl hx ?_
  rintro b1 i1 f1 hr1 hA1;obtain rfl : f1=((sumD (ys.take f) : Nat) : Int):=hr1
  (refine DO.loadA (k:=0) tab 10 hA1 uC (by kernel_rfl) (by kernel_rfl) rfl rfl rfl rfl rfl rfl rfl ?_)
  refine DO.pure tab uC (by kernel_rfl) [11] (by kernel_rfl) rfl ?_
  refine DO.run 12 rfl rfl (by kernel_rfl) rfl ?_
  refine OT.sub tab (sumD (ys.take f)) t rfl rfl rfl rfl rfl rfl rfl (.inr rfl) (.inr rfl) hle (by omega) ?_;refine ⟨Mem.le_refl _,_,List.Perm.refl _, ?_⟩
  refine DO.pure tab uC (by kernel_rfl) [13] (by kernel_rfl) rfl ?_
  (refine DO.nil (by kernel_rfl) ?_)
  rotate_left 1
  obtain ⟨a,ha⟩ : ∃ a,a=((joinD ys).take t).drop (sumD (ys.take f)):=⟨_,rfl⟩
  have hal : a.length ≤ 65536:=by rw [ha];simp;omega
  have hlb:=lastB_rng a 10 a.length
  have hco : a.count 10 ≤ a.length:=List.count_le_length
  rw [← ha]
  refine uA ?_
  refine TO.step rfl (OT.arith (r':=((f + 1 : Nat) : Int)) rfl rfl rfl rfl rfl rfl (by omega) (by have:=hF.lt;omega) ?_)
  refine uA ?_
  refine TO.step rfl (OT.call rfl rfl rfl rfl rfl rfl goes54 ((count_law m _ a 10).x ?_));
  rintro _ _ _ ⟨rfl,rfl,rfl⟩
  refine uA ?_
  refine TO.step rfl (OT.arith (r':=((1 + a.count 10 : Nat) : Int)) rfl rfl rfl rfl rfl rfl (by omega) (by omega) ?_)
  refine uA ?_
  refine TO.step rfl (OT.call rfl rfl rfl rfl rfl rfl goes55 ((last_law m _ a 10 (by omega)).x ?_));
  rintro _ _ _ ⟨rfl,rfl,rfl⟩
  refine uA ?_
  refine TO.step rfl (OT.arith (r':=byteOf a) rfl rfl rfl rfl rfl rfl (by unfold byteOf;omega) (by unfold byteOf;omega) ?_)
  refine uA ?_
  refine uT ?_
  refine uA ?_
  refine retQ_ret_c1 tab 0 rfl rfl rfl rfl (L':=L) uS ⟨rfl,rfl,f,hF,by rw [← ha];rfl⟩
theorem openOk {l : List Ch} (h : errD l=0) : l.length ≤ 64∧Nam l∧sumD l ≤ 65536:=by
 unfold errD at h
 split at h
 ·cases h
 ·split at h
  ·cases h
  ·split at h
   ·cases h
   ·split at h
    ·cases h
    ·rename_i h1 _ h3 h4
     exact ⟨by omega,by simpa using h3,by omega⟩
def WhereR (l : List Ch) (t : Int) (r : Value) : Prop :=
 (errD l ≠ 0∧r = .tuple ⟨[.agg ⟨[.int .i64 0, .int .i64 0, .int .i64 0]⟩, .int .i64 (errD l)]⟩) ∨
 (errD l=0∧(t < 0 ∨ (sumD l : Int) ≤ t)∧r = .tuple ⟨[.agg ⟨[.int .i64 0, .int .i64 0, .int .i64 0]⟩, .int .i64 11]⟩) ∨
 (errD l=0 ∧ ∃ k f : Nat,t=(k : Int)∧k < sumD l∧InF (ordF l) k f∧r = .tuple ⟨[spotV f (((joinD (ordF l)).take k).drop (sumD ((ordF l).take f))), .int .i64 0]⟩)
set_option maxHeartbeats 1000000 in
theorem where_law (s : Sl) (l : List Ch) (t : Int) (m : Mem) (L : List Item) (hs : SlRep rCh m s l) (hw : Wide l) : TCall Tryz.prog 15 ⟨[s.v, .int .i64 t]⟩ m L (Made m L fun r _=>WhereR l t r):=by
 unfold TCall
 refine TCallX.enter Tryz.func15 rfl 32 rfl ?_
 refine uA ?_
 refine TO.step rfl (OT.alloc tab rfl rfl rfl rfl (fun b4 => ?_))
 refine uA ?_
 refine TO.step rfl (OT.call rfl rfl rfl rfl rfl rfl goes23 ((open_law s l m _ hs hw).x ?_));
 rintro r1 m1 _ ⟨hm1,rfl,hR⟩
 rcases hR with ⟨h0,rfl⟩ | ⟨h0,b,sf,sb,rfl,hA,hf,hb⟩
 ·refine uA ?_
  refine TC.condN rfl (fun h1 => ?_) (fun h1 => ?_)
  ·refine uA ?_
   refine uT ?_
   refine uA ?_
   refine retQ_ret_c tab 0 rfl rfl rfl rfl rfl (L':=L) uS ⟨hm1,rfl, .inl ⟨h0,rfl⟩⟩
  ·exact absurd h1 h0
 ·obtain ⟨hl64,hnam,hsum⟩:=openOk h0
  have hpe:=ordF_perm l
  have hsu:=sumD_perm hpe
  have hjl:=joinD_len (ordF l)
  refine uA ?_
  (refine TO.splitP rfl rfl (fun e1 => ?_) (fun e1 => ?_))
  ·refine uA ?_
   refine uT ?_
   refine uA ?_
   refine retQ_ret_c tab 0 rfl rfl rfl rfl rfl (L':=L) uS ⟨hm1,rfl, .inr (.inl ⟨h0, .inl e1,rfl⟩)⟩
  ·refine uA ?_
   (refine TO.step rfl (OT.loadA tab hA rfl rfl rfl rfl rfl ?_))
   refine uA ?_
   refine TC.condP rfl (fun h2 => ?_) (fun h2 => ?_)
   ·refine uA ?_
    refine uT ?_
    refine uA ?_
    refine retQ_ret_c tab 0 rfl rfl rfl rfl rfl (L':=L) uS ⟨hm1,rfl, .inr (.inl ⟨h0, .inr (by omega),rfl⟩)⟩
   ·obtain ⟨k,rfl⟩ : ∃ k : Nat,t=(k : Int):=⟨t.toNat,by omega⟩
    refine uA ?_
    refine TO.step rfl (OT.call rfl rfl rfl rfl rfl rfl goes29 ((spot_law m1 _ b sf sb (ordF l) k hA hb (by rw [hpe.length_eq];exact hl64) (by omega) (by omega)).x ?_));
    rintro _ _ _ ⟨rfl,rfl,f,hF,rfl⟩
    refine uA ?_
    refine uT ?_
    refine uA ?_
    refine retQ_ret_c tab 0 rfl rfl rfl rfl rfl (L':=L) uS ⟨hm1,rfl, .inr (.inr ⟨h0,k,f,rfl,by omega,hF,rfl⟩)⟩
end Go.Sep
