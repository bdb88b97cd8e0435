/- PsW9 -/
import Derived.Test.YtlfiikhclgeadaaGreatDoorB9
set_option linter.unusedVariables false
set_option linter.unusedSimpArgs false
namespace Go.Ps
theorem tokIf_eq {α : Type} (c : Bool) (s : Sep.Str) (A B : Pp α) (f : F) (k : Nat) : tokIf c s A B f k = bif (isM s f k && c) then A f (k + 1) else B f k := by
 unfold tokIf tok
 cases c <;> cases h : isM s f k <;> simp [h]
end Go.Ps
namespace Go.Sep
open Go.Proofs
attribute [local irreducible] TC TO OT TCallX TCall DO DOt thenQ blockQ retQ At
section
variable {mb : Mem} {E : PE}
theorem perm_simple {α : Type} {e t n s b : α} {l : List α} : (e :: t :: n :: s :: b :: l).Perm ([n] ++ (e :: s :: b :: t :: l)) := by
 refine List.Perm.trans (List.Perm.cons _ (List.Perm.swap _ _ _)) (List.Perm.trans (List.Perm.swap _ _ _) (List.Perm.cons _ (List.Perm.cons _ ?_)))
 exact List.Perm.trans (List.Perm.swap _ _ _) (List.Perm.cons _ (List.Perm.swap _ _ _))
def Tells (fn : FuncId) (p : Tree → Bool) : Prop := Goes Tryz.prog fn ∧ ∀ (m : Mem) (L : List Item) (h : HTree) (a : Tree), TreeRep m h a → TCall Tryz.prog fn ⟨[treeV h]⟩ m L (Ret (.bool (p a)) m L)
theorem isNm_tells : Tells 140 Ps.isNm := by
 refine ⟨goes140, fun m L h a hr => ?_⟩
 obtain ⟨h1, h2, h3, h4⟩ := hr
 unfold TCall
 refine TCallX.enter Tryz.func140 rfl 6 rfl ?_
 repeat (first|refine q1 ?_|refine q3 ?_)
 refine TO.step rfl (OT.box rfl rfl rfl rfl rfl (fun b => ?_))
 repeat (first|(first|refine q1 ?_|refine q3 ?_|refine q4 tab rfl rfl ?_|refine q5 ?_|refine q6 ?_|refine q15 ?_)|(refine qs rfl (ql tab 0 rfl rfl rfl rfl rfl rfl ?_)))
 refine retQ_ret rfl (by repeat (first|exact List.Sublist.refl _|refine List.Sublist.cons _ ?_)) ⟨rfl, rfl, ?_⟩
 unfold Ps.isNm
 rw [h1]
set_option maxHeartbeats 800000 in
theorem isPl_tells : Tells 131 Ps.isPl := by
 refine ⟨goes131, fun m L h a hr => ?_⟩
 obtain ⟨h1, h2, h3, h4⟩ := hr
 unfold TCall
 refine TCallX.enter Tryz.func131 rfl 26 rfl ?_
 repeat (first|refine q1 ?_|refine q3 ?_)
 refine TO.step rfl (OT.box rfl rfl rfl rfl rfl (fun b => ?_))
 repeat' (first|(first|refine q1 ?_|refine q3 ?_|refine q4 tab rfl rfl ?_|refine q5 ?_|refine q6 ?_|refine q15 ?_)|(refine qs rfl (ql tab 0 rfl rfl rfl rfl rfl rfl ?_))|(refine TO.splitP rfl rfl (fun hb => ?_) (fun hb => ?_)))
 all_goals
  refine retQ_ret rfl (by repeat (first|exact List.Sublist.refl _|refine List.Sublist.cons _ ?_)) ⟨rfl, rfl, ?_⟩
  refine congrArg Value.bool ?_
  unfold Ps.isPl
  rw [← h1, ← h2]
  simp_all
theorem all_law (m : Mem) (L : List Item) (s : Sl) (l : List Tree) (hs : SlRep rTree m s l) (b5 : Nat) (hA : At m b5 0 [s.v]) (fn : FuncId) (p : Tree → Bool) (hp : Tells fn p) :
  TCall Tryz.prog 139 ⟨[.func (.func fn) ⟨[]⟩ ⟨[]⟩, .pointer (some ⟨b5, 0, none⟩)]⟩ m L (Ret (.bool (l.all p)) m L) := by
 have hlen := hs.len
 have hsm := hs.small rfl
 unfold TCall
 refine TCallX.enter Tryz.func139 rfl 17 rfl ?_
 repeat (first|refine q1 ?_|refine q3 ?_|refine q4 tab rfl rfl ?_|refine q5 ?_|refine q6 ?_)
 (refine TO.step rfl (OT.loadA0 tab hA rfl rfl rfl rfl rfl ?_))
 repeat (first|refine q2 ?_|refine q4 tab rfl rfl ?_|refine q5 ?_|refine q6 ?_)
 refine TC.loopK (ι := Nat) [0, 1, 6, 7] rfl (fun k => [(8, .int .i64 (k : Int))]) (fun _ => m) (fun _ => L) (fun k => k ≤ l.length ∧ (l.take k).all p = true) (fun k => l.length - k) 0 (by repeat (first|exact trivial|refine And.intro rfl ?_)) rfl (by repeat (exact List.Sublist.refl _)) ⟨Nat.zero_le _, by simp⟩ ?_
 rintro k ⟨hk, hI⟩
 repeat (first|refine q1 ?_|refine q3 ?_|refine q4 tab rfl rfl ?_|refine q5 ?_|refine q6 ?_)
 refine TC.condP rfl (fun hc => ?_) (fun hc => ?_)
 ·have hlt : k < l.length := by omega
  have hx : l[k]? = some l[k] := List.getElem?_eq_getElem hlt
  repeat (first|refine q1 ?_|refine q2 ?_|refine q3 ?_|refine q6 ?_|refine q13 ?_)
  refine TO.step rfl (OT.index tab rTree k hs rfl rfl rfl rfl rfl (by first | rfl | omega | (simp only; omega)) rfl hx ?_)
  rintro bx ix hx' hrx hAx
  skip
  (refine TO.step rfl (OT.loadA0 tab hAx rfl rfl rfl rfl rfl ?_))
  skip
  refine TO.step rfl (OT.alloc tab rfl rfl rfl rfl (fun b9 => ?_))
  skip
  (refine TO.step rfl (OT.storeL0 tab 0 rfl rfl rfl rfl rfl rfl rfl rfl ?_))
  repeat (first|refine q1 ?_|refine q3 ?_|refine q4 tab rfl rfl ?_|refine q5 ?_|refine q6 ?_)
  (refine qs rfl (qz tab 0 rfl rfl rfl rfl rfl rfl ?_))
  refine TO.step rfl (OT.call (all := [treeV hx']) rfl rfl rfl rfl rfl (by rw [fl_eq]; rfl) hp.1 ((hp.2 _ _ hx' l[k] (rTree_iff.1 hrx)).x ?_))
  rintro _ _ _ ⟨rfl, rfl, rfl⟩
  repeat (first|refine q4 tab rfl rfl ?_|refine q5 ?_|refine q6 ?_)
  cases hb : p l[k] with
  | true =>
   repeat (first|refine q3 ?_|refine q6 ?_|refine q7 ?_|refine q13 ?_|refine q17 rfl ?_)
   refine TO.step rfl (OT.arith (r' := ((k + 1 : Nat) : Int)) rfl rfl rfl rfl rfl rfl rfl (by omega) ?_)
   repeat (first|refine q4 tab rfl rfl ?_|refine q5 ?_|refine q6 ?_)
   exact ⟨k + 1, (by repeat (first|exact trivial|refine And.intro rfl ?_)), (by repeat (first|exact trivial|refine And.intro rfl ?_)), rfl, rfl, (by repeat (first|exact List.Sublist.refl _|refine List.Sublist.cons _ ?_)), ⟨hlt, by rw [List.take_succ_eq_append_getElem hlt, List.all_append, hI]; simp [hb]⟩, by omega⟩
  | false =>
   repeat (first|refine q1 ?_|refine q3 ?_|refine q4 tab rfl rfl ?_|refine q5 ?_|refine q6 ?_|refine q8 ?_|refine q9 ?_|refine q15 ?_|refine q16 rfl ?_)
   refine retQ_ret rfl (by repeat (first|exact List.Sublist.refl _|refine List.Sublist.cons _ ?_)) ⟨rfl, rfl, ?_⟩
   refine congrArg Value.bool ?_
   symm
   rw [List.all_eq_false]
   exact ⟨l[k], List.getElem_mem hlt, by simp [hb]⟩
 ·repeat (first|refine q1 ?_|refine q3 ?_|refine q4 tab rfl rfl ?_|refine q5 ?_|refine q6 ?_|refine q10 ?_|refine q11 ?_|refine q14 ?_|refine q15 ?_)
  refine retQ_ret rfl (by repeat (exact List.Sublist.refl _)) ⟨rfl, rfl, ?_⟩
  rw [List.take_of_length_le (by omega)] at hI
  rw [hI]
set_option maxHeartbeats 2000000 in
theorem simple_par {X Y : Ps.Pp Tree} (hX : Par Tryz.prog mb E vTree 99 [E.v] 0 X) (hY : Par Tryz.prog mb E vTree 138 [E.v] 0 Y) :
  Par Tryz.prog mb E vTree 126 [E.v] 0 (Ps.simpleP E.N X Y) := by
 refine Par.enter Tryz.func126 rfl 109 rfl fun m L k T hm0 hE hk hT hn => ?_
 replace hX := hX.up hm0
 replace hY := hY.up hm0
 have hm : m ≤ m := Mem.le_refl _
 have hrows := hE.rows
 unfold Ps.simpleP at hT
 repeat (first|refine q1 ?_|refine q3 ?_)
 refine TO.step rfl (OT.alloc tab rfl rfl rfl rfl (fun b2 => ?_)); refine TO.perm (List.Perm.swap _ _ _) ?_
 repeat (first|refine q1 ?_|refine q2 ?_|refine q3 ?_|refine q4 tab rfl rfl ?_|refine q5 ?_|refine q6 ?_)
 refine TO.step rfl (OT.takeP hT hE hk rfl rfl rfl rfl rfl rfl (fun hT hk => ?_) (fun hT => ?_))
 ·repeat (first|refine q1 ?_|refine q3 ?_|refine q4 tab rfl rfl ?_|refine q5 ?_|refine q6 ?_|refine q16 rfl ?_)
  refine TO.step rfl (OT.nameP (L0 := L) hT hE hk (by repeat (first|exact Bad.ret|refine Bad.then ?_|refine Bad.block ?_)) hm (by repeat (first|exact List.Sublist.refl _|refine List.Sublist.cons _ ?_)) rfl rfl rfl rfl rfl rfl (fun nm hT hk => ?_))
  repeat (refine q4 tab rfl rfl ?_)
  refine TO.step rfl (OT.alloc tab rfl rfl rfl rfl (fun b3 => ?_)); refine TO.perm (List.Perm.swap _ _ _) ?_
  skip
  (refine TO.step rfl (OT.storeL0 tab 1 rfl rfl rfl rfl rfl rfl rfl rfl ?_))
  repeat (first|refine q1 ?_|refine q3 ?_|refine q4 tab rfl rfl ?_|refine q5 ?_|refine q6 ?_)
  refine TO.step rfl (OT.parT (L0 := L) (hX) hm hT hn hE hk (by repeat (first|exact Bad.ret|refine Bad.then ?_|refine Bad.block ?_)) hm (by repeat (first|exact List.Sublist.refl _|refine List.Sublist.cons _ ?_)) rfl rfl rfl rfl rfl rfl goes99 (fun t m2 tt k2 hT hm hE hlet hk hrt => ?_))
  skip
  refine TO.step rfl (OT.litR tab rTree (hs := [t]) (l := [tt]) ⟨rTree_iff.2 hrt, trivial⟩ rfl rfl rfl rfl rfl (by decide) (fun s m3 hle3 hs ho hc => ?_))
  replace hm := Mem.le_trans hm hle3
  replace hE := hE.mono hle3
  refine TO.tokFo hc ho 4 ?_
  refine TO.perm (List.Perm.trans (List.Perm.swap _ _ _) (List.Perm.cons _ (List.Perm.swap _ _ _))) ?_
  repeat (refine q4 tab rfl rfl ?_)
  refine TO.step rfl (OT.storeL (k := 3) tab 1 rfl rfl rfl rfl rfl rfl rfl rfl ?_)
  repeat (first|refine q1 ?_|refine q3 ?_|refine q4 tab rfl rfl ?_|refine q5 ?_|refine q6 ?_)
  refine TO.step rfl (OT.takeP hT hE hk rfl rfl rfl rfl rfl rfl (fun hT hk => ?_) (fun hT => ?_))
  ·repeat (first|refine q5 ?_|refine q6 ?_|refine q16 rfl ?_)
   refine TC.draw [7] mixed 8 rfl [.cells b3 0 [.int .i64 21, strV nm, .int .i64 0, s.v]] (E.I (k2+1) 0 :: tok s 4 :: .cells b2 0 [.int .i64 0, strV [], .int .i64 0, .slice none 0 0] :: L) (List.Perm.swap _ _ _) ?_
   refine DO.pure tab (by repeat (first|exact Calm.ret|refine Calm.then ?_|refine Calm.block ?_)) (by kernel_rfl) [0] (by kernel_rfl) rfl ?_
   (refine DO.loadL tab 1 0 (by repeat (first|exact Calm.ret|refine Calm.then ?_|refine Calm.block ?_)) (by kernel_rfl) (by kernel_rfl) rfl rfl rfl rfl rfl rfl rfl rfl ?_)
   refine DO.pure tab (by repeat (first|exact Calm.ret|refine Calm.then ?_|refine Calm.block ?_)) (by kernel_rfl) [2] (by kernel_rfl) rfl ?_
   refine DO.run 3 rfl rfl (by kernel_rfl) rfl ?_
   refine OT.perm (List.Perm.swap _ _ _) (OT.parT (L0 := L) (hY) hm hT hn hE hk (by repeat (first|exact Bad.ret|refine Bad.then ?_|refine Bad.block ?_)) hm (by repeat (first|exact List.Sublist.refl _|refine List.Sublist.cons _ ?_)) rfl rfl rfl rfl rfl rfl goes138 (fun x4 mA a4 k4 hT hm hE hleA hk hr4 => ?_)); refine ⟨hleA, E.I k4 0 :: tok s 4 :: .cells b2 0 [.int .i64 0, strV [], .int .i64 0, .slice none 0 0] :: L, List.Perm.swap _ _ _, ?_⟩
   refine DO.run 4 rfl rfl (by kernel_rfl) rfl ?_
   refine OT.litR tab rTree (hs := [x4]) (l := [a4]) ⟨rTree_iff.2 hr4, trivial⟩ rfl rfl rfl rfl rfl (by decide) (fun sB mB hleB hsB hoB hcB => ?_); refine ⟨hleB, _, List.Perm.refl _, ?_⟩
   refine DO.run 5 rfl rfl (by kernel_rfl) rfl ?_
   refine OT.append tab rTree 2 (hs.mono (Mem.le_trans hleA hleB)) ho hsB rfl rfl rfl rfl rfl rfl rfl (by simp only [List.length_append, List.length_cons, List.length_nil, rTree, mkR]; omega) (fun s4 mC hleC hs4 ho4 => ?_); refine ⟨hleC, E.I k4 0 :: tok s4 4 :: .cells b2 0 [.int .i64 0, strV [], .int .i64 0, .slice none 0 0] :: L, List.Perm.refl _, ?_⟩
   refine DO.pure tab (by repeat (first|exact Calm.ret|refine Calm.then ?_|refine Calm.block ?_)) (by kernel_rfl) [6] (by kernel_rfl) rfl ?_
   refine DO.tail ?_
   refine DOt.run 7 rfl rfl (by kernel_rfl) rfl ?_
   refine OT.storeL (k := 3) tab 0 rfl rfl rfl rfl rfl rfl rfl rfl ?_; refine DOt.perm (List.Perm.swap _ _ _) ?_
   refine DOt.nil (by kernel_rfl) ?_
   rotate_left 1
   replace hm := Mem.le_trans hm (Mem.le_trans hleB hleC)
   replace hE := hE.mono (Mem.le_trans hleB hleC)
   repeat (first|refine q1 ?_|refine q3 ?_|refine q6 ?_)
   (refine qs rfl (qz tab 1 rfl rfl rfl rfl rfl rfl ?_))
   skip
   refine TO.step rfl (OT.storeL0 tab 3 rfl rfl rfl rfl rfl rfl rfl rfl ?_)
   repeat (first|refine q5 ?_|refine q6 ?_|refine q8 ?_|refine q9 ?_|refine q15 ?_)
   refine retQ_ret_c1 tab 3 rfl rfl rfl rfl (L' := E.I k4 0 :: L) (by repeat (first|exact List.Sublist.refl _|refine List.Sublist.cons_cons _ ?_|refine List.Sublist.cons _ ?_)) ⟨_, k4, [], hT, hm, hk, ⟨⟨21, nm, 0, s4⟩, rfl, rfl, ⟨rfl, rfl, rfl, hs4⟩⟩, rfl⟩
  ·repeat (first|refine q1 ?_|refine q3 ?_|refine q5 ?_|refine q6 ?_|refine q13 ?_|refine q17 rfl ?_)
   (refine qs rfl (qz tab 1 rfl rfl rfl rfl rfl rfl ?_))
   skip
   refine TO.step rfl (OT.storeL0 tab 3 rfl rfl rfl rfl rfl rfl rfl rfl ?_)
   repeat (first|refine q5 ?_|refine q6 ?_|refine q8 ?_|refine q9 ?_|refine q15 ?_)
   refine retQ_ret_c1 tab 3 rfl rfl rfl rfl (L' := E.I k2 0 :: L) (by repeat (first|exact List.Sublist.refl _|refine List.Sublist.cons_cons _ ?_|refine List.Sublist.cons _ ?_)) ⟨_, k2, [], hT, hm, hk, ⟨⟨21, nm, 0, s⟩, rfl, rfl, ⟨rfl, rfl, rfl, hs⟩⟩, rfl⟩
 repeat (first|refine q1 ?_|refine q3 ?_|refine q4 tab rfl rfl ?_|refine q5 ?_|refine q6 ?_|refine q17 rfl ?_)
 refine TO.step rfl (OT.takeP hT hE hk rfl rfl rfl rfl rfl rfl (fun hT hk => ?_) (fun hT => ?_))
 ·repeat (first|refine q1 ?_|refine q3 ?_|refine q4 tab rfl rfl ?_|refine q5 ?_|refine q6 ?_|refine q16 rfl ?_)
  refine TO.step rfl (OT.alloc tab rfl rfl rfl rfl (fun b4 => ?_)); refine TO.perm (List.Perm.swap _ _ _) ?_
  skip
  (refine TO.step rfl (OT.storeL0 tab 1 rfl rfl rfl rfl rfl rfl rfl rfl ?_))
  repeat (first|refine q1 ?_|refine q3 ?_|refine q4 tab rfl rfl ?_|refine q5 ?_|refine q6 ?_)
  refine TO.step rfl (OT.peekP hT hE hk rfl rfl rfl rfl rfl rfl (fun hT => ?_) (fun hT => ?_))
  ·repeat (first|refine q1 ?_|refine q3 ?_|refine q4 tab rfl rfl ?_|refine q5 ?_|refine q6 ?_|refine q13 ?_|refine q17 rfl ?_)
   (refine qs rfl (qz tab 1 rfl rfl rfl rfl rfl rfl ?_))
   skip
   refine TO.step rfl (OT.storeL0 tab 2 rfl rfl rfl rfl rfl rfl rfl rfl ?_)
   repeat (first|refine q5 ?_|refine q6 ?_|refine q8 ?_|refine q9 ?_|refine q15 ?_)
   refine retQ_ret_c1 tab 2 rfl rfl rfl rfl (L' := E.I (k + 1) 0 :: L) (by repeat (first|exact List.Sublist.refl _|refine List.Sublist.cons_cons _ ?_|refine List.Sublist.cons _ ?_)) ⟨_, k + 1, [], hT, hm, hk, ⟨⟨27, [], 0, ⟨none, 0, 0⟩⟩, rfl, rfl, ⟨rfl, rfl, rfl, SlRep.nil _ _⟩⟩, rfl⟩
  ·repeat (first|refine q3 ?_|refine q4 tab rfl rfl ?_|refine q5 ?_|refine q6 ?_|refine q16 rfl ?_)
   refine TO.step rfl (OT.parL (L0 := L) (list1_par (first := [E.v]) (cap := []) rfl goes138 hY) hm hT hn hE hk (by repeat (first|exact Bad.ret|refine Bad.then ?_|refine Bad.block ?_)) hm (by repeat (first|exact List.Sublist.refl _|refine List.Sublist.cons _ ?_)) rfl rfl rfl rfl rfl rfl goes102 (fun x m2 l k2 hT hm hE hlex hk hrx hox hlx => ?_))
   refine TO.perm (L' := E.I k2 0 :: .cells b4 0 [.int .i64 27, strV [], .int .i64 0, .slice none 0 0] :: tok x 4 :: .cells b2 0 [.int .i64 0, strV [], .int .i64 0, .slice none 0 0] :: L) (List.Perm.cons _ (List.Perm.swap _ _ _)) ?_
   repeat (refine q4 tab rfl rfl ?_)
   refine TO.step rfl (OT.storeL (k := 3) tab 1 rfl rfl rfl rfl rfl rfl rfl rfl ?_)
   repeat (first|refine q1 ?_|refine q3 ?_|refine q5 ?_|refine q6 ?_)
   (refine qs rfl (qz tab 1 rfl rfl rfl rfl rfl rfl ?_))
   skip
   refine TO.step rfl (OT.storeL0 tab 3 rfl rfl rfl rfl rfl rfl rfl rfl ?_)
   repeat (first|refine q5 ?_|refine q6 ?_|refine q8 ?_|refine q9 ?_|refine q15 ?_)
   refine retQ_ret_c1 tab 3 rfl rfl rfl rfl (L' := E.I k2 0 :: L) (by repeat (first|exact List.Sublist.refl _|refine List.Sublist.cons_cons _ ?_|refine List.Sublist.cons _ ?_)) ⟨_, k2, [], hT, hm, hk, ⟨⟨27, [], 0, x⟩, rfl, rfl, ⟨rfl, rfl, rfl, hrx⟩⟩, rfl⟩
 repeat (first|refine q1 ?_|refine q3 ?_|refine q4 tab rfl rfl ?_|refine q5 ?_|refine q6 ?_|refine q17 rfl ?_)
 refine TO.step rfl (OT.takeP hT hE hk rfl rfl rfl rfl rfl rfl (fun hT hk => ?_) (fun hT => ?_))
 ·repeat (first|refine q1 ?_|refine q3 ?_|refine q4 tab rfl rfl ?_|refine q5 ?_|refine q6 ?_|refine q16 rfl ?_)
  (refine TO.step rfl (OT.storeL0 tab 1 rfl rfl rfl rfl rfl rfl rfl rfl ?_))
  repeat (first|refine q5 ?_|refine q6 ?_|refine q8 ?_|refine q9 ?_|refine q15 ?_)
  refine retQ_ret_c1 tab 1 rfl rfl rfl rfl (L' := E.I (k + 1) 0 :: L) (by repeat (first|exact List.Sublist.refl _|refine List.Sublist.cons_cons _ ?_|refine List.Sublist.cons _ ?_)) ⟨_, k + 1, [], hT, hm, hk, ⟨⟨28, [], 0, ⟨none, 0, 0⟩⟩, rfl, rfl, ⟨rfl, rfl, rfl, SlRep.nil _ _⟩⟩, rfl⟩
 repeat (first|refine q1 ?_|refine q3 ?_|refine q4 tab rfl rfl ?_|refine q5 ?_|refine q6 ?_|refine q17 rfl ?_)
 refine TO.step rfl (OT.takeP hT hE hk rfl rfl rfl rfl rfl rfl (fun hT hk => ?_) (fun hT => ?_))
 ·repeat (first|refine q1 ?_|refine q3 ?_|refine q4 tab rfl rfl ?_|refine q5 ?_|refine q6 ?_|refine q16 rfl ?_)
  (refine TO.step rfl (OT.storeL0 tab 1 rfl rfl rfl rfl rfl rfl rfl rfl ?_))
  repeat (first|refine q5 ?_|refine q6 ?_|refine q8 ?_|refine q9 ?_|refine q15 ?_)
  refine retQ_ret_c1 tab 1 rfl rfl rfl rfl (L' := E.I (k + 1) 0 :: L) (by repeat (first|exact List.Sublist.refl _|refine List.Sublist.cons_cons _ ?_|refine List.Sublist.cons _ ?_)) ⟨_, k + 1, [], hT, hm, hk, ⟨⟨29, [], 0, ⟨none, 0, 0⟩⟩, rfl, rfl, ⟨rfl, rfl, rfl, SlRep.nil _ _⟩⟩, rfl⟩
 repeat (first|refine q1 ?_|refine q3 ?_|refine q4 tab rfl rfl ?_|refine q5 ?_|refine q6 ?_|refine q7 ?_|refine q13 ?_|refine q17 rfl ?_)
 refine TO.step rfl (OT.parL (L0 := L) (list1_par (first := [E.v]) (cap := []) rfl goes138 hY) hm hT hn hE hk (by repeat (first|exact Bad.ret|refine Bad.then ?_)) hm (by repeat (first|exact List.Sublist.refl _|refine List.Sublist.cons _ ?_)) rfl rfl rfl rfl rfl rfl goes102 (fun s m2 l k1 hT hm hE hles hk hrs hos hls => ?_))
 have hs := hrs
 have ho := hos
 have hl := hls
 have hlen := hs.len
 skip
 refine TO.step rfl (OT.alloc tab rfl rfl rfl rfl (fun b5 => ?_))
 skip
 (refine TO.step rfl (OT.storeL0 tab 0 rfl rfl rfl rfl rfl rfl rfl rfl ?_))
 refine TO.freeze fun m3 hle3 hA => ?_
 replace hm := Mem.le_trans hm hle3
 replace hE := hE.mono hle3
 replace hs := hs.mono hle3
 repeat (first|refine q1 ?_|refine q3 ?_|refine q4 tab rfl rfl ?_|refine q5 ?_|refine q6 ?_)
 refine TO.perm (L' := E.I k1 0 :: tok s 4 :: .cells b2 0 [.int .i64 0, strV [], .int .i64 0, .slice none 0 0] :: L) (List.Perm.refl _) ?_
 refine TO.step rfl (OT.alloc tab rfl rfl rfl rfl (fun b7 => ?_)); refine TO.perm (List.Perm.swap _ _ _) ?_
 skip
 (refine TO.step rfl (OT.storeL0 tab 1 rfl rfl rfl rfl rfl rfl rfl rfl ?_))
 unfold Ps.assignP at hT
 simp only [Ps.tokIf_eq] at hT
 refine TO.nil ?_
 refine thenQ_n ?_
 refine TC.cut (ι := Int) [0, 2, 5, 7] rfl (fun _ => []) (fun i => m3) (fun i => E.I k1 0 :: .cells b7 0 [.int .i64 i, strV [], .int .i64 0, .slice none 0 0] :: tok s 4 :: .cells b2 0 [.int .i64 0, strV [], .int .i64 0, .slice none 0 0] :: L) (fun i => k1 + 1 ≤ E.toks.length ∧ T = (Ps.bind (Ps.commas E.N Y) fun l2 => Ps.ret (Tree.mk i [] (l.length : Int) (l ++ l2))) E.f (k1 + 1)) ?_ ?_
 ·skip
  repeat (first|refine q1 ?_|refine q2 ?_|refine q3 ?_|refine q4 tab rfl rfl ?_)
  refine TO.step rfl (OT.call rfl rfl rfl rfl rfl rfl goes98 ((peek_law [58, 61] hE hk).x ?_));
  rintro _ _ _ ⟨rfl, rfl, rfl⟩
  repeat (refine q4 tab rfl rfl ?_)
  cases hb1 : Ps.isM [58, 61] E.f k1 with
  | false =>
   rw [hb1, Bool.false_and] at hT
   simp only [cond_false] at hT
   repeat (first|refine q1 ?_|refine q3 ?_|refine q4 tab rfl rfl ?_|refine q5 ?_|refine q6 ?_|refine q17 rfl ?_)
   refine TO.step rfl (OT.call rfl rfl rfl rfl rfl rfl goes98 ((peek_law [61] hE hk).x ?_));
   rintro _ _ _ ⟨rfl, rfl, rfl⟩
   repeat (refine q4 tab rfl rfl ?_)
   cases hb2 : Ps.isM [61] E.f k1 with
   | false =>
    rw [hb2, Bool.false_and] at hT
    simp only [cond_false] at hT
    repeat (first|refine q1 ?_|refine q3 ?_|refine q4 tab rfl rfl ?_|refine q5 ?_|refine q6 ?_|refine q17 rfl ?_)
    refine TO.step rfl (OT.call rfl rfl rfl rfl rfl rfl goes98 ((peek_law [59] hE hk).x ?_));
    rintro _ _ _ ⟨rfl, rfl, rfl⟩
    repeat (refine q4 tab rfl rfl ?_)
    cases hb3 : Ps.isM [59] E.f k1 with
    | false =>
     repeat (first|refine q3 ?_|refine q4 tab rfl rfl ?_|refine q5 ?_|refine q6 ?_|refine q17 rfl ?_)
     have hT : T = .bad k1 := by
      rw [hT]
      cases Ps.isC1 l
      ·rfl
      ·exact Ps.peek_f' hb3
     refine TO.step rfl (OT.stopP (L0 := L) hT hE hk (by repeat (first|exact Bad.ret|refine Bad.then ?_|refine Bad.block ?_)) hm (by repeat (first|exact List.Sublist.refl _|refine List.Sublist.cons _ ?_)) rfl rfl rfl rfl rfl rfl)
    | true =>
     skip
     (refine TO.step rfl (OT.loadA0 tab hA rfl rfl rfl rfl rfl ?_))
     repeat (refine q4 tab rfl rfl ?_)
     refine TO.split (b := decide (((s.len : Nat) : Int) = 1)) rfl rfl (fun h1 => ?_) (fun h1 => ?_)
     ·have h1' : l.length = 1 := by have := of_decide_eq_true h1; omega
      obtain ⟨t0, rfl⟩ := List.length_eq_one_iff.1 h1'
      skip
      (refine TO.step rfl (OT.loadA0 tab hA rfl rfl rfl rfl rfl ?_))
      skip
      refine TO.step rfl (OT.index tab rTree 0 hs rfl rfl rfl rfl rfl (by first | rfl | omega | (simp only; omega)) rfl (by rfl) ?_)
      rintro bx ix hx' hrx hAx
      have hrx' := rTree_iff.1 hrx
      repeat (refine q4 tab rfl rfl ?_)
      (refine TO.step rfl (OT.loadA tab hAx rfl rfl rfl rfl rfl ?_))
      repeat (first|refine q4 tab rfl rfl ?_|refine q5 ?_|refine q6 ?_)
      rw [hrx'.kind]
      refine TC.condP rfl (fun h2 => ?_) (fun h2 => ?_)
      ·have hT : T = .ok (Tree.mk 24 [] 0 [t0]) k1 := by
        rw [hT, show Ps.isC1 [t0] = true from decide_eq_true h2]
        exact Ps.peek_t' hb3
       repeat (first|refine q1 ?_|refine q3 ?_)
       (refine TO.step rfl (OT.loadA0 tab hA rfl rfl rfl rfl rfl ?_))
       repeat (refine q4 tab rfl rfl ?_)
       refine TO.step rfl (OT.storeL (k := 3) tab 1 rfl rfl rfl rfl rfl rfl rfl rfl ?_)
       repeat (first|refine q1 ?_|refine q3 ?_|refine q5 ?_|refine q6 ?_)
       (refine qs rfl (qz tab 1 rfl rfl rfl rfl rfl rfl ?_))
       skip
       refine TO.step rfl (OT.storeL0 tab 3 rfl rfl rfl rfl rfl rfl rfl rfl ?_)
       repeat (first|refine q5 ?_|refine q6 ?_|refine q8 ?_|refine q9 ?_|refine q15 ?_)
       refine retQ_ret_c1 tab 3 rfl rfl rfl rfl (L' := E.I k1 0 :: L) (by repeat (first|exact List.Sublist.refl _|refine List.Sublist.cons_cons _ ?_|refine List.Sublist.cons _ ?_)) ⟨_, k1, [], hT, hm, hk, ⟨⟨24, [], 0, s⟩, rfl, rfl, ⟨rfl, rfl, rfl, hs⟩⟩, rfl⟩
      ·have hT : T = .bad k1 := by
        rw [hT, show Ps.isC1 [t0] = false from decide_eq_false h2]
        rfl
       repeat (first|refine q3 ?_|refine q4 tab rfl rfl ?_)
       refine TO.step rfl (OT.stopP (L0 := L) hT hE hk (by repeat (first|exact Bad.ret|refine Bad.then ?_|refine Bad.block ?_)) hm (by repeat (first|exact List.Sublist.refl _|refine List.Sublist.cons _ ?_)) rfl rfl rfl rfl rfl rfl)
     ·have hT : T = .bad k1 := by
       rw [hT]
       have h1' : ¬ l.length = 1 := by have := of_decide_eq_false h1; omega
       have : Ps.isC1 l = false := by
        unfold Ps.isC1
        split
        ·exact absurd rfl h1'
        ·rfl
       rw [this]
       rfl
      repeat (first|refine q3 ?_|refine q4 tab rfl rfl ?_|refine q5 ?_|refine q6 ?_|refine q17 rfl ?_)
      refine TO.step rfl (OT.stopP (L0 := L) hT hE hk (by repeat (first|exact Bad.ret|refine Bad.then ?_|refine Bad.block ?_)) hm (by repeat (first|exact List.Sublist.refl _|refine List.Sublist.cons _ ?_)) rfl rfl rfl rfl rfl rfl)
   | true =>
    repeat (refine q4 tab rfl rfl ?_)
    refine TO.step rfl (OT.call rfl rfl rfl rfl rfl rfl goes139 ((all_law m3 _ s l hs b5 hA _ Ps.isPl isPl_tells).x ?_))
    rintro _ _ _ ⟨rfl, rfl, rfl⟩
    cases ha2 : l.all Ps.isPl with
    | true =>
     rw [hb2, ha2] at hT
     simp only [Bool.and_true, cond_true] at hT
     repeat (first|refine q3 ?_|refine q4 tab rfl rfl ?_|refine q5 ?_|refine q6 ?_|refine q16 rfl ?_)
     refine TO.step rfl (OT.storeL0 tab 1 rfl rfl rfl rfl rfl rfl rfl rfl ?_)
     repeat (first|refine q5 ?_|refine q6 ?_|refine q7 ?_)
     exact ⟨23, (by repeat (exact trivial)), (by repeat (first|exact trivial|refine And.intro rfl ?_)), rfl, rfl, (by repeat (exact List.Sublist.refl _)), PE.isM_lt hb2, hT⟩
    | false =>
     rw [ha2, Bool.and_false] at hT
     simp only [cond_false] at hT
     repeat (first|refine q1 ?_|refine q3 ?_|refine q4 tab rfl rfl ?_|refine q5 ?_|refine q6 ?_|refine q17 rfl ?_)
     refine TO.step rfl (OT.call rfl rfl rfl rfl rfl rfl goes98 ((peek_law [59] hE hk).x ?_));
     rintro _ _ _ ⟨rfl, rfl, rfl⟩
     repeat (refine q4 tab rfl rfl ?_)
     cases hb3 : Ps.isM [59] E.f k1 with
     | false =>
      repeat (first|refine q3 ?_|refine q4 tab rfl rfl ?_|refine q5 ?_|refine q6 ?_|refine q17 rfl ?_)
      have hT : T = .bad k1 := by
       rw [hT]
       cases Ps.isC1 l
       ·rfl
       ·exact Ps.peek_f' hb3
      refine TO.step rfl (OT.stopP (L0 := L) hT hE hk (by repeat (first|exact Bad.ret|refine Bad.then ?_|refine Bad.block ?_)) hm (by repeat (first|exact List.Sublist.refl _|refine List.Sublist.cons _ ?_)) rfl rfl rfl rfl rfl rfl)
     | true =>
      skip
      (refine TO.step rfl (OT.loadA0 tab hA rfl rfl rfl rfl rfl ?_))
      repeat (refine q4 tab rfl rfl ?_)
      refine TO.split (b := decide (((s.len : Nat) : Int) = 1)) rfl rfl (fun h1 => ?_) (fun h1 => ?_)
      ·have h1' : l.length = 1 := by have := of_decide_eq_true h1; omega
       obtain ⟨t0, rfl⟩ := List.length_eq_one_iff.1 h1'
       skip
       (refine TO.step rfl (OT.loadA0 tab hA rfl rfl rfl rfl rfl ?_))
       skip
       refine TO.step rfl (OT.index tab rTree 0 hs rfl rfl rfl rfl rfl (by first | rfl | omega | (simp only; omega)) rfl (by rfl) ?_)
       rintro bx ix hx' hrx hAx
       have hrx' := rTree_iff.1 hrx
       repeat (refine q4 tab rfl rfl ?_)
       (refine TO.step rfl (OT.loadA tab hAx rfl rfl rfl rfl rfl ?_))
       repeat (first|refine q4 tab rfl rfl ?_|refine q5 ?_|refine q6 ?_)
       rw [hrx'.kind]
       refine TC.condP rfl (fun h2 => ?_) (fun h2 => ?_)
       ·have hT : T = .ok (Tree.mk 24 [] 0 [t0]) k1 := by
         rw [hT, show Ps.isC1 [t0] = true from decide_eq_true h2]
         exact Ps.peek_t' hb3
        repeat (first|refine q1 ?_|refine q3 ?_)
        (refine TO.step rfl (OT.loadA0 tab hA rfl rfl rfl rfl rfl ?_))
        repeat (refine q4 tab rfl rfl ?_)
        refine TO.step rfl (OT.storeL (k := 3) tab 1 rfl rfl rfl rfl rfl rfl rfl rfl ?_)
        repeat (first|refine q1 ?_|refine q3 ?_|refine q5 ?_|refine q6 ?_)
        (refine qs rfl (qz tab 1 rfl rfl rfl rfl rfl rfl ?_))
        skip
        refine TO.step rfl (OT.storeL0 tab 3 rfl rfl rfl rfl rfl rfl rfl rfl ?_)
        repeat (first|refine q5 ?_|refine q6 ?_|refine q8 ?_|refine q9 ?_|refine q15 ?_)
        refine retQ_ret_c1 tab 3 rfl rfl rfl rfl (L' := E.I k1 0 :: L) (by repeat (first|exact List.Sublist.refl _|refine List.Sublist.cons_cons _ ?_|refine List.Sublist.cons _ ?_)) ⟨_, k1, [], hT, hm, hk, ⟨⟨24, [], 0, s⟩, rfl, rfl, ⟨rfl, rfl, rfl, hs⟩⟩, rfl⟩
       ·have hT : T = .bad k1 := by
         rw [hT, show Ps.isC1 [t0] = false from decide_eq_false h2]
         rfl
        repeat (first|refine q3 ?_|refine q4 tab rfl rfl ?_)
        refine TO.step rfl (OT.stopP (L0 := L) hT hE hk (by repeat (first|exact Bad.ret|refine Bad.then ?_|refine Bad.block ?_)) hm (by repeat (first|exact List.Sublist.refl _|refine List.Sublist.cons _ ?_)) rfl rfl rfl rfl rfl rfl)
      ·have hT : T = .bad k1 := by
        rw [hT]
        have h1' : ¬ l.length = 1 := by have := of_decide_eq_false h1; omega
        have : Ps.isC1 l = false := by
         unfold Ps.isC1
         split
         ·exact absurd rfl h1'
         ·rfl
        rw [this]
        rfl
       repeat (first|refine q3 ?_|refine q4 tab rfl rfl ?_|refine q5 ?_|refine q6 ?_|refine q17 rfl ?_)
       refine TO.step rfl (OT.stopP (L0 := L) hT hE hk (by repeat (first|exact Bad.ret|refine Bad.then ?_|refine Bad.block ?_)) hm (by repeat (first|exact List.Sublist.refl _|refine List.Sublist.cons _ ?_)) rfl rfl rfl rfl rfl rfl)
  | true =>
   repeat (refine q4 tab rfl rfl ?_)
   refine TO.step rfl (OT.call rfl rfl rfl rfl rfl rfl goes139 ((all_law m3 _ s l hs b5 hA _ Ps.isNm isNm_tells).x ?_))
   rintro _ _ _ ⟨rfl, rfl, rfl⟩
   cases ha1 : l.all Ps.isNm with
   | true =>
    rw [hb1, ha1] at hT
    simp only [Bool.and_true, cond_true] at hT
    repeat (first|refine q3 ?_|refine q4 tab rfl rfl ?_|refine q5 ?_|refine q6 ?_|refine q16 rfl ?_)
    refine TO.step rfl (OT.storeL0 tab 1 rfl rfl rfl rfl rfl rfl rfl rfl ?_)
    repeat (first|refine q5 ?_|refine q6 ?_|refine q7 ?_)
    exact ⟨22, (by repeat (exact trivial)), (by repeat (first|exact trivial|refine And.intro rfl ?_)), rfl, rfl, (by repeat (exact List.Sublist.refl _)), PE.isM_lt hb1, hT⟩
   | false =>
    rw [ha1, Bool.and_false] at hT
    simp only [cond_false] at hT
    repeat (first|refine q1 ?_|refine q3 ?_|refine q4 tab rfl rfl ?_|refine q5 ?_|refine q6 ?_|refine q17 rfl ?_)
    refine TO.step rfl (OT.call rfl rfl rfl rfl rfl rfl goes98 ((peek_law [61] hE hk).x ?_));
    rintro _ _ _ ⟨rfl, rfl, rfl⟩
    repeat (refine q4 tab rfl rfl ?_)
    cases hb2 : Ps.isM [61] E.f k1 with
    | false =>
     rw [hb2, Bool.false_and] at hT
     simp only [cond_false] at hT
     repeat (first|refine q1 ?_|refine q3 ?_|refine q4 tab rfl rfl ?_|refine q5 ?_|refine q6 ?_|refine q17 rfl ?_)
     refine TO.step rfl (OT.call rfl rfl rfl rfl rfl rfl goes98 ((peek_law [59] hE hk).x ?_));
     rintro _ _ _ ⟨rfl, rfl, rfl⟩
     repeat (refine q4 tab rfl rfl ?_)
     cases hb3 : Ps.isM [59] E.f k1 with
     | false =>
      repeat (first|refine q3 ?_|refine q4 tab rfl rfl ?_|refine q5 ?_|refine q6 ?_|refine q17 rfl ?_)
      have hT : T = .bad k1 := by
       rw [hT]
       cases Ps.isC1 l
       ·rfl
       ·exact Ps.peek_f' hb3
      refine TO.step rfl (OT.stopP (L0 := L) hT hE hk (by repeat (first|exact Bad.ret|refine Bad.then ?_|refine Bad.block ?_)) hm (by repeat (first|exact List.Sublist.refl _|refine List.Sublist.cons _ ?_)) rfl rfl rfl rfl rfl rfl)
     | true =>
      skip
      (refine TO.step rfl (OT.loadA0 tab hA rfl rfl rfl rfl rfl ?_))
      repeat (refine q4 tab rfl rfl ?_)
      refine TO.split (b := decide (((s.len : Nat) : Int) = 1)) rfl rfl (fun h1 => ?_) (fun h1 => ?_)
      ·have h1' : l.length = 1 := by have := of_decide_eq_true h1; omega
       obtain ⟨t0, rfl⟩ := List.length_eq_one_iff.1 h1'
       skip
       (refine TO.step rfl (OT.loadA0 tab hA rfl rfl rfl rfl rfl ?_))
       skip
       refine TO.step rfl (OT.index tab rTree 0 hs rfl rfl rfl rfl rfl (by first | rfl | omega | (simp only; omega)) rfl (by rfl) ?_)
       rintro bx ix hx' hrx hAx
       have hrx' := rTree_iff.1 hrx
       repeat (refine q4 tab rfl rfl ?_)
       (refine TO.step rfl (OT.loadA tab hAx rfl rfl rfl rfl rfl ?_))
       repeat (first|refine q4 tab rfl rfl ?_|refine q5 ?_|refine q6 ?_)
       rw [hrx'.kind]
       refine TC.condP rfl (fun h2 => ?_) (fun h2 => ?_)
       ·have hT : T = .ok (Tree.mk 24 [] 0 [t0]) k1 := by
         rw [hT, show Ps.isC1 [t0] = true from decide_eq_true h2]
         exact Ps.peek_t' hb3
        repeat (first|refine q1 ?_|refine q3 ?_)
        (refine TO.step rfl (OT.loadA0 tab hA rfl rfl rfl rfl rfl ?_))
        repeat (refine q4 tab rfl rfl ?_)
        refine TO.step rfl (OT.storeL (k := 3) tab 1 rfl rfl rfl rfl rfl rfl rfl rfl ?_)
        repeat (first|refine q1 ?_|refine q3 ?_|refine q5 ?_|refine q6 ?_)
        (refine qs rfl (qz tab 1 rfl rfl rfl rfl rfl rfl ?_))
        skip
        refine TO.step rfl (OT.storeL0 tab 3 rfl rfl rfl rfl rfl rfl rfl rfl ?_)
        repeat (first|refine q5 ?_|refine q6 ?_|refine q8 ?_|refine q9 ?_|refine q15 ?_)
        refine retQ_ret_c1 tab 3 rfl rfl rfl rfl (L' := E.I k1 0 :: L) (by repeat (first|exact List.Sublist.refl _|refine List.Sublist.cons_cons _ ?_|refine List.Sublist.cons _ ?_)) ⟨_, k1, [], hT, hm, hk, ⟨⟨24, [], 0, s⟩, rfl, rfl, ⟨rfl, rfl, rfl, hs⟩⟩, rfl⟩
       ·have hT : T = .bad k1 := by
         rw [hT, show Ps.isC1 [t0] = false from decide_eq_false h2]
         rfl
        repeat (first|refine q3 ?_|refine q4 tab rfl rfl ?_)
        refine TO.step rfl (OT.stopP (L0 := L) hT hE hk (by repeat (first|exact Bad.ret|refine Bad.then ?_|refine Bad.block ?_)) hm (by repeat (first|exact List.Sublist.refl _|refine List.Sublist.cons _ ?_)) rfl rfl rfl rfl rfl rfl)
      ·have hT : T = .bad k1 := by
        rw [hT]
        have h1' : ¬ l.length = 1 := by have := of_decide_eq_false h1; omega
        have : Ps.isC1 l = false := by
         unfold Ps.isC1
         split
         ·exact absurd rfl h1'
         ·rfl
        rw [this]
        rfl
       repeat (first|refine q3 ?_|refine q4 tab rfl rfl ?_|refine q5 ?_|refine q6 ?_|refine q17 rfl ?_)
       refine TO.step rfl (OT.stopP (L0 := L) hT hE hk (by repeat (first|exact Bad.ret|refine Bad.then ?_|refine Bad.block ?_)) hm (by repeat (first|exact List.Sublist.refl _|refine List.Sublist.cons _ ?_)) rfl rfl rfl rfl rfl rfl)
    | true =>
     repeat (refine q4 tab rfl rfl ?_)
     refine TO.step rfl (OT.call rfl rfl rfl rfl rfl rfl goes139 ((all_law m3 _ s l hs b5 hA _ Ps.isPl isPl_tells).x ?_))
     rintro _ _ _ ⟨rfl, rfl, rfl⟩
     cases ha2 : l.all Ps.isPl with
     | true =>
      rw [hb2, ha2] at hT
      simp only [Bool.and_true, cond_true] at hT
      repeat (first|refine q3 ?_|refine q4 tab rfl rfl ?_|refine q5 ?_|refine q6 ?_|refine q16 rfl ?_)
      refine TO.step rfl (OT.storeL0 tab 1 rfl rfl rfl rfl rfl rfl rfl rfl ?_)
      repeat (first|refine q5 ?_|refine q6 ?_|refine q7 ?_)
      exact ⟨23, (by repeat (exact trivial)), (by repeat (first|exact trivial|refine And.intro rfl ?_)), rfl, rfl, (by repeat (exact List.Sublist.refl _)), PE.isM_lt hb2, hT⟩
     | false =>
      rw [ha2, Bool.and_false] at hT
      simp only [cond_false] at hT
      repeat (first|refine q1 ?_|refine q3 ?_|refine q4 tab rfl rfl ?_|refine q5 ?_|refine q6 ?_|refine q17 rfl ?_)
      refine TO.step rfl (OT.call rfl rfl rfl rfl rfl rfl goes98 ((peek_law [59] hE hk).x ?_));
      rintro _ _ _ ⟨rfl, rfl, rfl⟩
      repeat (refine q4 tab rfl rfl ?_)
      cases hb3 : Ps.isM [59] E.f k1 with
      | false =>
       repeat (first|refine q3 ?_|refine q4 tab rfl rfl ?_|refine q5 ?_|refine q6 ?_|refine q17 rfl ?_)
       have hT : T = .bad k1 := by
        rw [hT]
        cases Ps.isC1 l
        ·rfl
        ·exact Ps.peek_f' hb3
       refine TO.step rfl (OT.stopP (L0 := L) hT hE hk (by repeat (first|exact Bad.ret|refine Bad.then ?_|refine Bad.block ?_)) hm (by repeat (first|exact List.Sublist.refl _|refine List.Sublist.cons _ ?_)) rfl rfl rfl rfl rfl rfl)
      | true =>
       skip
       (refine TO.step rfl (OT.loadA0 tab hA rfl rfl rfl rfl rfl ?_))
       repeat (refine q4 tab rfl rfl ?_)
       refine TO.split (b := decide (((s.len : Nat) : Int) = 1)) rfl rfl (fun h1 => ?_) (fun h1 => ?_)
       ·have h1' : l.length = 1 := by have := of_decide_eq_true h1; omega
        obtain ⟨t0, rfl⟩ := List.length_eq_one_iff.1 h1'
        skip
        (refine TO.step rfl (OT.loadA0 tab hA rfl rfl rfl rfl rfl ?_))
        skip
        refine TO.step rfl (OT.index tab rTree 0 hs rfl rfl rfl rfl rfl (by first | rfl | omega | (simp only; omega)) rfl (by rfl) ?_)
        rintro bx ix hx' hrx hAx
        have hrx' := rTree_iff.1 hrx
        repeat (refine q4 tab rfl rfl ?_)
        (refine TO.step rfl (OT.loadA tab hAx rfl rfl rfl rfl rfl ?_))
        repeat (first|refine q4 tab rfl rfl ?_|refine q5 ?_|refine q6 ?_)
        rw [hrx'.kind]
        refine TC.condP rfl (fun h2 => ?_) (fun h2 => ?_)
        ·have hT : T = .ok (Tree.mk 24 [] 0 [t0]) k1 := by
          rw [hT, show Ps.isC1 [t0] = true from decide_eq_true h2]
          exact Ps.peek_t' hb3
         repeat (first|refine q1 ?_|refine q3 ?_)
         (refine TO.step rfl (OT.loadA0 tab hA rfl rfl rfl rfl rfl ?_))
         repeat (refine q4 tab rfl rfl ?_)
         refine TO.step rfl (OT.storeL (k := 3) tab 1 rfl rfl rfl rfl rfl rfl rfl rfl ?_)
         repeat (first|refine q1 ?_|refine q3 ?_|refine q5 ?_|refine q6 ?_)
         (refine qs rfl (qz tab 1 rfl rfl rfl rfl rfl rfl ?_))
         skip
         refine TO.step rfl (OT.storeL0 tab 3 rfl rfl rfl rfl rfl rfl rfl rfl ?_)
         repeat (first|refine q5 ?_|refine q6 ?_|refine q8 ?_|refine q9 ?_|refine q15 ?_)
         refine retQ_ret_c1 tab 3 rfl rfl rfl rfl (L' := E.I k1 0 :: L) (by repeat (first|exact List.Sublist.refl _|refine List.Sublist.cons_cons _ ?_|refine List.Sublist.cons _ ?_)) ⟨_, k1, [], hT, hm, hk, ⟨⟨24, [], 0, s⟩, rfl, rfl, ⟨rfl, rfl, rfl, hs⟩⟩, rfl⟩
        ·have hT : T = .bad k1 := by
          rw [hT, show Ps.isC1 [t0] = false from decide_eq_false h2]
          rfl
         repeat (first|refine q3 ?_|refine q4 tab rfl rfl ?_)
         refine TO.step rfl (OT.stopP (L0 := L) hT hE hk (by repeat (first|exact Bad.ret|refine Bad.then ?_|refine Bad.block ?_)) hm (by repeat (first|exact List.Sublist.refl _|refine List.Sublist.cons _ ?_)) rfl rfl rfl rfl rfl rfl)
       ·have hT : T = .bad k1 := by
         rw [hT]
         have h1' : ¬ l.length = 1 := by have := of_decide_eq_false h1; omega
         have : Ps.isC1 l = false := by
          unfold Ps.isC1
          split
          ·exact absurd rfl h1'
          ·rfl
         rw [this]
         rfl
        repeat (first|refine q3 ?_|refine q4 tab rfl rfl ?_|refine q5 ?_|refine q6 ?_|refine q17 rfl ?_)
        refine TO.step rfl (OT.stopP (L0 := L) hT hE hk (by repeat (first|exact Bad.ret|refine Bad.then ?_|refine Bad.block ?_)) hm (by repeat (first|exact List.Sublist.refl _|refine List.Sublist.cons _ ?_)) rfl rfl rfl rfl rfl rfl)
 ·rintro kd ⟨hk, hT⟩
  have hfew := hE.few
  repeat (first|refine q1 ?_|refine q3 ?_|refine q4 tab rfl rfl ?_)
  (refine qs rfl (ql tab 0 rfl rfl rfl rfl rfl rfl ?_))
  refine TO.step rfl (OT.arith (r' := ((k1 + 1 : Nat) : Int)) rfl rfl rfl rfl rfl rfl rfl (by omega) ?_)
  repeat (refine q4 tab rfl rfl ?_)
  refine TO.step rfl (OT.storeL (k := 2) tab 0 rfl rfl rfl rfl rfl rfl rfl rfl ?_)
  repeat (first|refine q1 ?_|refine q3 ?_|refine q5 ?_|refine q6 ?_)
  (refine TO.step rfl (OT.loadA0 tab hA rfl rfl rfl rfl rfl ?_))
  repeat (refine q4 tab rfl rfl ?_)
  refine TO.step rfl (OT.storeL (k := 2) tab 1 rfl rfl rfl rfl rfl rfl rfl rfl ?_)
  repeat (first|refine q1 ?_|refine q5 ?_|refine q6 ?_)
  refine TC.draw [7] mixed 8 rfl [.cells b7 0 [.int .i64 kd, strV [], .int .i64 (s.len : Int), .slice none 0 0]] (E.I (k1 + 1) 0 :: tok s 4 :: .cells b2 0 [.int .i64 0, strV [], .int .i64 0, .slice none 0 0] :: L) (List.Perm.swap _ _ _) ?_
  (refine DO.loadA (k := 0) tab 0 hA (by repeat (first|exact Calm.ret|refine Calm.then ?_)) (by kernel_rfl) (by kernel_rfl) rfl rfl rfl rfl rfl rfl rfl ?_)
  refine DO.pure tab (by repeat (first|exact Calm.ret|refine Calm.then ?_)) (by kernel_rfl) [1, 2, 3] (by kernel_rfl) rfl ?_
  refine DO.run 4 rfl rfl (by kernel_rfl) rfl ?_
  refine OT.perm (List.Perm.swap _ _ _) (OT.parL (L0 := L) (list1_par (first := [E.v]) (cap := []) rfl goes138 hY) hm hT hn hE hk (by repeat (first|exact Bad.ret|refine Bad.then ?_)) hm (by repeat (first|exact List.Sublist.refl _|refine List.Sublist.cons _ ?_)) rfl rfl rfl rfl rfl rfl goes102 (fun x mA l2 k2 hT hm hE hleA hk hrx hox hlx => ?_)); refine ⟨hleA, E.I k2 0 :: tok s 4 :: .cells b2 0 [.int .i64 0, strV [], .int .i64 0, .slice none 0 0] :: tok x 4 :: L, perm_simple, ?_⟩
  refine DO.run 5 rfl rfl (by kernel_rfl) rfl ?_
  refine OT.append tab rTree 2 (hs.mono hleA) ho hrx rfl rfl rfl rfl rfl rfl rfl (by simp only [rTree, mkR]; omega) (fun s3 mC hleC hs3 ho3 => ?_); refine ⟨hleC, E.I k2 0 :: tok s3 4 :: .cells b2 0 [.int .i64 0, strV [], .int .i64 0, .slice none 0 0] :: tok x 4 :: L, List.Perm.refl _, ?_⟩
  refine DO.pure tab (by repeat (first|exact Calm.ret|refine Calm.then ?_)) (by kernel_rfl) [6] (by kernel_rfl) rfl ?_
  refine DO.tail ?_
  refine DOt.run 7 rfl rfl (by kernel_rfl) rfl ?_
  refine OT.storeL (k := 3) tab 0 rfl rfl rfl rfl rfl rfl rfl rfl ?_; refine DOt.perm (List.Perm.swap _ _ _) ?_
  refine DOt.nil (by kernel_rfl) ?_
  rotate_left 1
  repeat (first|refine q1 ?_|refine q3 ?_|refine q6 ?_)
  (refine qs rfl (qz tab 1 rfl rfl rfl rfl rfl rfl ?_))
  skip
  refine TO.step rfl (OT.storeL0 tab 3 rfl rfl rfl rfl rfl rfl rfl rfl ?_)
  repeat (first|refine q5 ?_|refine q6 ?_|refine q15 ?_)
  refine retQ_ret_c1 tab 3 rfl rfl rfl rfl (L' := E.I k2 0 :: L) (by repeat (first|exact List.Sublist.refl _|refine List.Sublist.cons_cons _ ?_|refine List.Sublist.cons _ ?_)) ⟨_, k2, [], hT, Mem.le_trans hm hleC, hk, ⟨⟨kd, [], (s.len : Int), s3⟩, rfl, rfl, ⟨rfl, rfl, by show (s.len : Int) = _; rw [hlen]; rfl, hs3⟩⟩, rfl⟩
end
end Go.Sep


/- PsW10 -/
set_option linter.unusedVariables false
set_option linter.unusedSimpArgs false
namespace Go.Ps
theorem oneOf_some {α : Type} {ops : List Sep.Str} {A : Sep.Str → Pp α} {B : Pp α} {f : F} {k : Nat} {s : Sep.Str} (h : ops.find? (fun s => isM s f k) = some s) : oneOf ops A B f k = A s f (k + 1) := by unfold oneOf; rw [h]
theorem oneOf_none {α : Type} {ops : List Sep.Str} {A : Sep.Str → Pp α} {B : Pp α} {f : F} {k : Nat} (h : ops.find? (fun s => isM s f k) = none) : oneOf ops A B f k = B f k := by unfold oneOf; rw [h]
theorem find_at {p : Sep.Str → Bool} {l : List Sep.Str} {i : Nat} (hi : i < l.length) (h1 : (l.take i).all (fun s => !p s) = true) (h2 : p l[i] = true) : l.find? p = some l[i] := by
 have e : l = l.take i ++ l[i] :: l.drop (i + 1) := by rw [List.getElem_cons_drop, List.take_append_drop]
 rw [List.find?_eq_some_iff_append]
 exact ⟨h2, l.take i, l.drop (i + 1), e, fun a ha => by simpa using List.all_eq_true.1 h1 a ha⟩
theorem find_no {p : Sep.Str → Bool} {l : List Sep.Str} (h1 : l.all (fun s => !p s) = true) : l.find? p = none := by
 rw [List.find?_eq_none]
 intro a ha
 simpa using List.all_eq_true.1 h1 a ha
end Go.Ps
namespace Go.Sep
open Go.Proofs
attribute [local irreducible] TC TO OT TCallX TCall DO DOt thenQ blockQ retQ At
section
variable {mb : Mem} {E : PE} {h : Int}
set_option maxHeartbeats 1000000 in
theorem levels_law (m : Mem) (L : List Item) : TCall Tryz.prog 130 ⟨[]⟩ m L (Made m L fun r m' => ∃ s : Sl, r = s.v ∧ SlRep (rSl rStr) m' s Ps.levels) := by
 unfold TCall
 refine TCallX.enter Tryz.func130 rfl 7 rfl ?_
 repeat (first|refine q1 ?_|refine q3 ?_|refine q4 tab rfl rfl ?_|refine q5 ?_|refine q6 ?_)
 refine TO.step rfl (OT.litR tab rStr (hs := [[124, 124]]) (l := [[124, 124]]) ⟨rfl, trivial⟩ rfl rfl rfl rfl rfl (by decide) (fun s1 m1 h1 hs1 _ _ => ?_))
 refine TO.step rfl (OT.litR tab rStr (hs := [[38, 38]]) (l := [[38, 38]]) ⟨rfl, trivial⟩ rfl rfl rfl rfl rfl (by decide) (fun s2 m2 h2 hs2 _ _ => ?_))
 refine TO.step rfl (OT.litR tab rStr (hs := [[61, 61], [33, 61], [60], [60, 61], [62], [62, 61]]) (l := [[61, 61], [33, 61], [60], [60, 61], [62], [62, 61]]) ⟨rfl, rfl, rfl, rfl, rfl, rfl, trivial⟩ rfl rfl rfl rfl rfl (by decide) (fun s3 m3 h3 hs3 _ _ => ?_))
 refine TO.step rfl (OT.litR tab rStr (hs := [[43], [45]]) (l := [[43], [45]]) ⟨rfl, rfl, trivial⟩ rfl rfl rfl rfl rfl (by decide) (fun s4 m4 h4 hs4 _ _ => ?_))
 refine TO.step rfl (OT.litR tab rStr (hs := [[42], [47], [37]]) (l := [[42], [47], [37]]) ⟨rfl, rfl, rfl, trivial⟩ rfl rfl rfl rfl rfl (by decide) (fun s5 m5 h5 hs5 _ _ => ?_))
 have k45 := h5
 have k35 := Mem.le_trans h4 k45
 have k25 := Mem.le_trans h3 k35
 have k15 := Mem.le_trans h2 k25
 refine TO.step rfl (OT.litR tab (rSl rStr) (hs := [s1, s2, s3, s4, s5]) (l := Ps.levels) ⟨hs1.mono k15, hs2.mono k25, hs3.mono k35, hs4.mono k45, hs5, trivial⟩ rfl rfl rfl rfl rfl (by decide) (fun s m6 h6 hs _ _ => ?_))
 repeat (first|refine q4 tab rfl rfl ?_|refine q5 ?_|refine q6 ?_|refine q15 ?_)
 refine retQ_ret rfl (by repeat (exact List.Sublist.refl _)) ⟨Mem.le_trans h1 (Mem.le_trans k15 h6), rfl, s, rfl, hs⟩
theorem levels_ne {ops : List Str} (ho : ops ∈ Ps.levels) {s : Str} (hs : s ∈ ops) : s ≠ [] := by
 have : ∀ ops ∈ Ps.levels, ∀ s ∈ ops, s ≠ [] := by decide
 exact this ops ho s hs
set_option maxHeartbeats 2000000 in
theorem binary_par {U : Ps.Pp Tree} (hU : Par Tryz.prog mb E vTree 147 [E.v] h U) :
  ∀ d j : Nat, j + d = 5 → Par Tryz.prog mb E vTree 144 [E.v, .int .i64 (j : Int)] h (Ps.binL E.N U (Ps.levels.drop j)) := by
 intro d
 induction d with
 | zero =>
  intro j hj
  refine Par.enter Tryz.func144 rfl 46 rfl fun m L k T hm0 hE hk hT hn => ?_
  replace hU := hU.up hm0
  obtain rfl : j = 5 := by omega
  have hm : m ≤ m := Mem.le_refl _
  replace hT : T = Ps.bind U Ps.ret E.f k := by rw [Ps.bind_ret]; exact hT
  repeat (first|refine q1 ?_|refine q3 ?_)
  refine TO.step rfl (OT.alloc tab rfl rfl rfl rfl (fun b4 => ?_)); refine TO.perm (List.Perm.swap _ _ _) ?_
  repeat (first|refine q1 ?_|refine q3 ?_|refine q5 ?_|refine q6 ?_)
  refine TO.step rfl (OT.call rfl rfl rfl rfl rfl rfl goes130 ((levels_law _ _).x ?_));
  rintro _ m1 _ ⟨hm1, rfl, s, rfl, hs⟩
  have hlen := hs.len
  replace hm := hm1
  replace hE := hE.mono hm1
  repeat (first|refine q1 ?_|refine q3 ?_|refine q4 tab rfl rfl ?_|refine q5 ?_|refine q6 ?_)
  refine TC.condP rfl (fun hc => ?_) (fun hc => ?_)
  ·repeat (first|refine q1 ?_|refine q3 ?_|refine q4 tab rfl rfl ?_)
   refine TO.step rfl (OT.parT (L0 := L) (hU) hm hT hn hE hk (by repeat (first|exact Bad.ret|refine Bad.then ?_)) hm (by repeat (first|exact List.Sublist.refl _|refine List.Sublist.cons _ ?_)) rfl rfl rfl rfl rfl rfl goes147 (fun x m2 a k2 hT hm hE hlex hk hrx => ?_))
   skip
   (refine TO.step rfl (OT.storeL0 tab 1 rfl rfl rfl rfl rfl rfl rfl rfl ?_))
   repeat (first|refine q5 ?_|refine q6 ?_|refine q8 ?_|refine q15 ?_)
   refine retQ_ret_c1 tab 1 rfl rfl rfl rfl (L' := E.I k2 h :: L) (by repeat (first|exact List.Sublist.refl _|refine List.Sublist.cons_cons _ ?_|refine List.Sublist.cons _ ?_)) ⟨_, k2, [], hT, hm, hk, ⟨x, rfl, rfl, hrx⟩, rfl⟩
  ·exact absurd (by rw [hlen]; rfl) hc
 | succ d ih =>
  intro j hj
  have ihj := ih (j + 1) (by omega)
  have hjl : j < Ps.levels.length := by show j < 5; omega
  have hops : Ps.levels.drop j = Ps.levels[j] :: Ps.levels.drop (j + 1) := List.drop_eq_getElem_cons hjl
  have hne : ∀ s ∈ Ps.levels[j], s ≠ [] := fun s hs => levels_ne (List.getElem_mem hjl) hs
  have hget : Ps.levels[j]? = some Ps.levels[j] := List.getElem?_eq_getElem hjl
  generalize Ps.levels[j] = ops at hops hne hget
  generalize hXe : Ps.binL E.N U (Ps.levels.drop (j + 1)) = X at ihj
  have hspec : Ps.binL E.N U (Ps.levels.drop j) = Ps.bind X (Ps.loopB E.N ops X) := by rw [hops, ← hXe]; rfl
  rw [hspec]
  clear hspec hXe hops
  refine Par.enter Tryz.func144 rfl 46 rfl fun m L k T hm0 hE hk hT hn => ?_
  replace ihj := ihj.up hm0
  have hm : m ≤ m := Mem.le_refl _
  repeat (first|refine q1 ?_|refine q3 ?_)
  refine TO.step rfl (OT.alloc tab rfl rfl rfl rfl (fun b4 => ?_)); refine TO.perm (List.Perm.swap _ _ _) ?_
  repeat (first|refine q1 ?_|refine q3 ?_|refine q5 ?_|refine q6 ?_)
  refine TO.step rfl (OT.call rfl rfl rfl rfl rfl rfl goes130 ((levels_law _ _).x ?_));
  rintro _ m1 _ ⟨hm1, rfl, s, rfl, hs⟩
  have hlen := hs.len
  replace hm := hm1
  replace hE := hE.mono hm1
  repeat (first|refine q1 ?_|refine q3 ?_|refine q4 tab rfl rfl ?_|refine q5 ?_|refine q6 ?_)
  refine TC.condP rfl (fun hc => ?_) (fun hc => ?_)
  ·have : s.len = 5 := by rw [hlen]; rfl
   omega
  repeat (first|refine q1 ?_|refine q3 ?_|refine q4 tab rfl rfl ?_|refine q6 ?_|refine q13 ?_)
  refine TO.step rfl (OT.arith (r' := ((j + 1 : Nat) : Int)) rfl rfl rfl rfl rfl rfl rfl (by omega) ?_)
  refine TO.step rfl (OT.parT (L0 := L) (ihj) hm hT hn hE hk (by repeat (first|exact Bad.ret|refine Bad.then ?_)) hm (by repeat (first|exact List.Sublist.refl _|refine List.Sublist.cons _ ?_)) rfl rfl rfl rfl rfl rfl goes144 (fun x m2 a k2 hT hm hE hlex hk hrx => ?_))
  replace hs := hs.mono hlex
  have hlex' : m ≤ m2 := hm
  skip
  refine TO.step rfl (OT.alloc tab rfl rfl rfl rfl (fun b6 => ?_)); refine TO.perm (List.Perm.swap _ _ _) ?_
  skip
  (refine TO.step rfl (OT.storeL0 tab 1 rfl rfl rfl rfl rfl rfl rfl rfl ?_))
  repeat (first|refine q2 ?_|refine q5 ?_|refine q6 ?_)
  refine TC.loopK (ι := HTree × Mem × Tree × Nat × Nat) [0, 1, 4, 5, 6] rfl (fun _ => []) (fun x => x.2.1) (fun x => E.I x.2.2.2.1 h :: .cells b6 0 (treeC x.1) :: .cells b4 0 [.int .i64 0, strV [], .int .i64 0, .slice none 0 0] :: L) (fun x => m2 ≤ x.2.1 ∧ x.2.2.2.1 ≤ E.toks.length ∧ TreeRep x.2.1 x.1 x.2.2.1 ∧ T = Ps.loopB x.2.2.2.2 ops X x.2.2.1 E.f x.2.2.2.1) (fun x => x.2.2.2.2) (x, m2, a, k2, E.N) (by repeat (exact trivial)) rfl (by repeat (exact List.Sublist.refl _)) ⟨Mem.le_refl _, hk, hrx, hT⟩ ?_
  rintro ⟨x, m3, a, k3, N⟩ ⟨hm3, hk, hrx, hT⟩
  simp only at hm3 hk hrx hT
  replace hm := Mem.le_trans hm hm3
  replace hE := hE.mono hm3
  replace hs := hs.mono hm3
  cases N with
  | zero => exact absurd hT hn
  | succ N =>
   replace hT : T = Ps.oneOf ops (fun op => Ps.bind X fun m => Ps.loopB N ops X (Ps.binT op a m)) (Ps.ret a) E.f k3 := hT
   refine q2 ?_
   refine q1 ?_
   refine q3 ?_
   refine q4 tab rfl rfl ?_
   refine q5 ?_
   refine q6 ?_
   refine TC.cut (ι := Str × Nat) [0, 1, 4, 5, 6] rfl (fun i => [(7, strV i.1)]) (fun _ => m3) (fun i => E.I i.2 h :: .cells b6 0 (treeC x) :: .cells b4 0 [.int .i64 0, strV [], .int .i64 0, .slice none 0 0] :: L) (fun i => (i.1 = [] ∧ i.2 = k3 ∧ ops.find? (fun s => Ps.isM s E.f k3) = none) ∨ (i.1 ≠ [] ∧ i.2 = k3 + 1 ∧ k3 + 1 ≤ E.toks.length ∧ ops.find? (fun s => Ps.isM s E.f k3) = some i.1)) ?_ ?_
   ·repeat (first|refine q1 ?_|refine q3 ?_|refine q4 tab rfl rfl ?_)
    refine TO.step rfl (OT.index tab (rSl rStr) j hs rfl rfl rfl rfl rfl rfl rfl hget ?_)
    intro bi ii row hrow hAr
    have hrow' : SlRep rStr m3 row ops := hrow
    have hlr := hrow'.len
    have hsm := hrow'.small rfl
    skip
    (refine TO.step rfl (OT.loadA0 tab hAr rfl rfl rfl rfl rfl ?_))
    repeat (first|refine q2 ?_|refine q4 tab rfl rfl ?_|refine q5 ?_|refine q6 ?_)
    refine TC.loopK (ι := Nat) [0, 1, 4, 5, 6, 7, 24, 25] rfl (fun i => [(26, .int .i64 (i : Int))]) (fun _ => m3) (fun i => E.I k3 h :: .cells b6 0 (treeC x) :: .cells b4 0 [.int .i64 0, strV [], .int .i64 0, .slice none 0 0] :: L) (fun i => i ≤ ops.length ∧ (ops.take i).all (fun s => !Ps.isM s E.f k3) = true) (fun i => ops.length - i) 0 (by repeat (first|exact trivial|refine And.intro rfl ?_)) rfl (by repeat (exact List.Sublist.refl _)) ⟨Nat.zero_le _, by simp⟩ ?_
    rintro i ⟨hi, hI⟩
    repeat (first|refine q1 ?_|refine q3 ?_|refine q4 tab rfl rfl ?_|refine q5 ?_|refine q6 ?_)
    refine TC.condP rfl (fun hc2 => ?_) (fun hc2 => ?_)
    ·have hlt : i < ops.length := by omega
     have hx : ops[i]? = some ops[i] := List.getElem?_eq_getElem hlt
     repeat (first|refine q1 ?_|refine q2 ?_|refine q3 ?_|refine q6 ?_|refine q13 ?_)
     refine TO.step rfl (OT.index tab rStr i hrow' rfl rfl rfl rfl rfl (by first | rfl | omega | (simp only; omega)) rfl hx ?_)
     rintro bs is' sv hsv hAs
     obtain rfl := (show sv = ops[i] from hsv)
     skip
     (refine TO.step rfl (OT.loadA0 tab hAs rfl rfl rfl rfl rfl ?_))
     repeat (first|refine q1 ?_|refine q3 ?_|refine q4 tab rfl rfl ?_|refine q5 ?_|refine q6 ?_)
     refine TO.step rfl (OT.call rfl rfl rfl rfl rfl rfl goes65 ((take_law ops[i] hE hk).x ?_));
     rintro _ _ _ ⟨rfl, rfl, rfl⟩
     unfold PE.step
     cases hb : Ps.isM ops[i] E.f k3 with
     | true =>
      repeat (first|refine q1 ?_|refine q3 ?_|refine q4 tab rfl rfl ?_|refine q5 ?_|refine q6 ?_|refine q10 ?_|refine q11 ?_|refine q12 rfl ?_|refine q14 ?_|refine q16 rfl ?_)
      exact ⟨(ops[i], k3 + 1), (by repeat (first|exact trivial|refine And.intro rfl ?_)), (by repeat (first|exact trivial|refine And.intro rfl ?_)), rfl, rfl, (by repeat (exact List.Sublist.refl _)), .inr ⟨hne _ (List.getElem_mem hlt), rfl, PE.isM_lt hb, Ps.find_at hlt hI hb⟩⟩
     | false =>
      repeat (first|refine q3 ?_|refine q5 ?_|refine q6 ?_|refine q7 ?_|refine q13 ?_|refine q17 rfl ?_)
      refine TO.step rfl (OT.arith (r' := ((i + 1 : Nat) : Int)) rfl rfl rfl rfl rfl rfl rfl (by omega) ?_)
      repeat (first|refine q4 tab rfl rfl ?_|refine q5 ?_|refine q6 ?_)
      exact ⟨i + 1, (by repeat (first|exact trivial|refine And.intro rfl ?_)), (by repeat (first|exact trivial|refine And.intro rfl ?_)), rfl, rfl, (by repeat (exact List.Sublist.refl _)), ⟨hlt, by rw [List.take_succ_eq_append_getElem hlt, List.all_append, hI]; simp [hb]⟩, by omega⟩
    ·rw [List.take_of_length_le (by omega)] at hI
     repeat (first|refine q6 ?_|refine q10 ?_|refine q11 ?_|refine q14 ?_)
     exact ⟨([], k3), (by repeat (first|exact trivial|refine And.intro rfl ?_)), (by repeat (first|exact trivial|refine And.intro rfl ?_)), rfl, rfl, (by repeat (exact List.Sublist.refl _)), .inl ⟨rfl, rfl, Ps.find_no hI⟩⟩
   ·rintro ⟨found, k4⟩ hI
    simp only at hI
    repeat (first|refine q1 ?_|refine q3 ?_|refine q4 tab rfl rfl ?_|refine q5 ?_|refine q6 ?_)
    refine TC.condP rfl (fun hf => ?_) (fun hf => ?_)
    ·rcases hI with ⟨rfl, rfl, hI⟩ | ⟨h1, _⟩
     ·rw [Ps.oneOf_none hI] at hT
      repeat (first|refine q1 ?_|refine q3 ?_)
      (refine qs rfl (qz tab 1 rfl rfl rfl rfl rfl rfl ?_))
      skip
      refine TO.step rfl (OT.storeL0 tab 2 rfl rfl rfl rfl rfl rfl rfl rfl ?_)
      repeat (first|refine q5 ?_|refine q6 ?_|refine q8 ?_|refine q9 ?_|refine q15 ?_)
      refine retQ_ret_c1 tab 2 rfl rfl rfl rfl (L' := E.I k4 h :: L) (by repeat (first|exact List.Sublist.refl _|refine List.Sublist.cons_cons _ ?_|refine List.Sublist.cons _ ?_)) ⟨_, k4, [], hT, hm, hk, ⟨x, rfl, rfl, hrx⟩, rfl⟩
     ·exact absurd hf h1
    ·rcases hI with ⟨h1, _⟩ | ⟨_, rfl, hk, hI⟩
     ·exact absurd h1 hf
     rw [Ps.oneOf_some hI] at hT
     repeat (first|refine q6 ?_|refine q13 ?_)
     refine TC.draw [8] mixed 9 rfl [.cells b6 0 (treeC x)] (E.I (k3 + 1) h :: .cells b4 0 [.int .i64 0, strV [], .int .i64 0, .slice none 0 0] :: L) (List.Perm.swap _ _ _) ?_
     refine DO.pure tab (by repeat (first|exact Calm.ret|refine Calm.then ?_|refine Calm.block ?_)) (by kernel_rfl) [0] (by kernel_rfl) rfl ?_
     (refine DO.loadL (k := 0) tab 1 0 (by repeat (first|exact Calm.ret|refine Calm.then ?_|refine Calm.block ?_)) (by kernel_rfl) (by kernel_rfl) rfl rfl rfl rfl rfl rfl rfl rfl ?_)
     refine DO.pure tab (by repeat (first|exact Calm.ret|refine Calm.then ?_|refine Calm.block ?_)) (by kernel_rfl) [2, 3] (by kernel_rfl) rfl ?_
     refine DO.arith 4 (r' := ((j + 1 : Nat) : Int)) (by repeat (first|exact Calm.ret|refine Calm.then ?_|refine Calm.block ?_)) (by kernel_rfl) (by kernel_rfl) rfl rfl rfl rfl rfl rfl rfl rfl (by first | rfl | omega | (simp only; omega)) (by omega) ?_
     refine DO.run 5 rfl rfl (by kernel_rfl) rfl ?_
     refine OT.perm (List.Perm.swap _ _ _) (OT.parT (L0 := L) ihj (Mem.le_trans hlex' hm3) hT hn hE hk (by repeat (first|exact Bad.ret|refine Bad.then ?_|refine Bad.block ?_)) hm (by repeat (first|exact List.Sublist.refl _|refine List.Sublist.cons _ ?_)) rfl rfl rfl rfl rfl rfl goes144 (fun y m5 b k5 hT hm hE hle5 hk hry => ?_)); refine ⟨hle5, E.I k5 h :: .cells b4 0 [.int .i64 0, strV [], .int .i64 0, .slice none 0 0] :: L, List.Perm.swap _ _ _, ?_⟩
     refine DO.run 6 rfl rfl (by kernel_rfl) rfl ?_
     refine OT.litR tab rTree (hs := [x, y]) (l := [a, b]) ⟨rTree_iff.2 (hrx.mono hle5), rTree_iff.2 hry, trivial⟩ rfl rfl rfl rfl rfl (by decide) (fun s9 m6 hle6 hs9 ho9 hc9 => ?_); refine ⟨hle6, _, List.Perm.refl _, ?_⟩
     refine DO.pure tab (by repeat (first|exact Calm.ret|refine Calm.then ?_|refine Calm.block ?_)) (by kernel_rfl) [7] (by kernel_rfl) rfl ?_
     refine DO.tail ?_
     refine DOt.run 8 rfl rfl (by kernel_rfl) rfl ?_
     refine OT.storeL0 tab 0 rfl rfl rfl rfl rfl rfl rfl rfl ?_; refine DOt.perm (List.Perm.swap _ _ _) ?_
     refine DOt.nil (by kernel_rfl) ?_
     rotate_left 1
     repeat (first|refine q6 ?_|refine q7 ?_)
     exact ⟨(⟨53, found, 0, s9⟩, m6, Ps.binT found a b, k5, N), (by repeat (exact trivial)), (by repeat (first|exact trivial|refine And.intro rfl ?_)), rfl, rfl, (by repeat (exact List.Sublist.refl _)), ⟨Mem.le_trans hm3 (Mem.le_trans hle5 hle6), hk, ⟨rfl, rfl, rfl, hs9⟩, hT⟩, by simp only; omega⟩
theorem expr_par {U : Ps.Pp Tree} (hU : Par Tryz.prog mb E vTree 147 [E.v] h U) :
  Par Tryz.prog mb E vTree 138 [E.v] h (Ps.binL E.N U Ps.levels) := by
 refine Par.enter Tryz.func138 rfl 5 rfl fun m L k T hm0 hE hk hT hn => ?_
 have hB := (binary_par hU 5 0 rfl).up hm0
 have hm : m ≤ m := Mem.le_refl _
 replace hT : T = Ps.bind (Ps.binL E.N U Ps.levels) Ps.ret E.f k := by rw [Ps.bind_ret]; exact hT
 repeat (first|refine q1 ?_|refine q3 ?_)
 refine TO.step rfl (OT.alloc tab rfl rfl rfl rfl (fun b2 => ?_)); refine TO.perm (List.Perm.swap _ _ _) ?_
 repeat (first|refine q1 ?_|refine q3 ?_|refine q4 tab rfl rfl ?_|refine q5 ?_|refine q6 ?_)
 refine TO.step rfl (OT.parT (L0 := L) (hB) hm hT hn hE hk (by repeat (first|exact Bad.ret|refine Bad.then ?_)) hm (by repeat (first|exact List.Sublist.refl _|refine List.Sublist.cons _ ?_)) rfl rfl rfl rfl rfl rfl goes144 (fun x m2 a k2 hT hm hE hlex hk hrx => ?_))
 skip
 (refine TO.step rfl (OT.storeL0 tab 1 rfl rfl rfl rfl rfl rfl rfl rfl ?_))
 repeat (first|refine q5 ?_|refine q6 ?_|refine q15 ?_)
 refine retQ_ret_c1 tab 1 rfl rfl rfl rfl (L' := E.I k2 h :: L) (by repeat (first|exact List.Sublist.refl _|refine List.Sublist.cons_cons _ ?_|refine List.Sublist.cons _ ?_)) ⟨_, k2, [], hT, hm, hk, ⟨x, rfl, rfl, hrx⟩, rfl⟩
set_option maxHeartbeats 1000000 in
theorem unary_par {X Y : Ps.Pp Tree} (hX : Par Tryz.prog mb E vTree 147 [E.v] h X) (hY : Par Tryz.prog mb E vTree 155 [E.v] h Y) :
  Par Tryz.prog mb E vTree 147 [E.v] h (Ps.oneOf [[45], [33], [38], [42]] (fun op => Ps.bind X fun t => Ps.ret (.mk 52 op 0 [t])) Y) := by
 refine Par.enter Tryz.func147 rfl 22 rfl fun m L k T hm0 hE hk hT hn => ?_
 replace hX := hX.up hm0
 replace hY := hY.up hm0
 have hm : m ≤ m := Mem.le_refl _
 generalize hops : ([[45], [33], [38], [42]] : List Str) = ops at hT
 repeat (first|refine q1 ?_|refine q3 ?_)
 refine TO.step rfl (OT.alloc tab rfl rfl rfl rfl (fun b2 => ?_)); refine TO.perm (List.Perm.swap _ _ _) ?_
 repeat (first|refine q1 ?_|refine q3 ?_|refine q5 ?_|refine q6 ?_)
 refine TO.step rfl (OT.litR tab rStr (hs := [[45], [33], [38], [42]]) (l := ops) (by rw [← hops]; exact ⟨rfl, rfl, rfl, rfl, trivial⟩) rfl rfl rfl rfl (by rw [← hops]; rfl) (by decide) (fun s m1 hm1 hs _ _ => ?_))
 have hlen := hs.len
 have hsm := hs.small rfl
 replace hm := hm1
 replace hE := hE.mono hm1
 repeat (first|refine q2 ?_|refine q4 tab rfl rfl ?_|refine q5 ?_|refine q6 ?_)
 refine TC.loopK (ι := Nat) [0, 2, 5, 6] rfl (fun i => [(7, .int .i64 (i : Int))]) (fun _ => m1) (fun i => E.I k h :: .cells b2 0 [.int .i64 0, strV [], .int .i64 0, .slice none 0 0] :: L) (fun i => i ≤ ops.length ∧ (ops.take i).all (fun s => !Ps.isM s E.f k) = true) (fun i => ops.length - i) 0 (by repeat (first|exact trivial|refine And.intro rfl ?_)) rfl (by repeat (exact List.Sublist.refl _)) ⟨Nat.zero_le _, by simp⟩ ?_
 rintro i ⟨hi, hI⟩
 repeat (first|refine q1 ?_|refine q3 ?_|refine q4 tab rfl rfl ?_|refine q5 ?_|refine q6 ?_)
 refine TC.condP rfl (fun hc2 => ?_) (fun hc2 => ?_)
 ·have hlt : i < ops.length := by omega
  have hx : ops[i]? = some ops[i] := List.getElem?_eq_getElem hlt
  repeat (first|refine q1 ?_|refine q2 ?_|refine q3 ?_|refine q6 ?_|refine q13 ?_)
  refine TO.step rfl (OT.index tab rStr i hs rfl rfl rfl rfl rfl (by first | rfl | omega | (simp only; omega)) rfl hx ?_)
  rintro bs is' sv hsv hAs
  obtain rfl := (show sv = ops[i] from hsv)
  skip
  (refine TO.step rfl (OT.loadA0 tab hAs rfl rfl rfl rfl rfl ?_))
  repeat (first|refine q1 ?_|refine q3 ?_|refine q4 tab rfl rfl ?_|refine q5 ?_|refine q6 ?_)
  refine TO.step rfl (OT.call rfl rfl rfl rfl rfl rfl goes65 ((take_law ops[i] hE hk).x ?_));
  rintro _ _ _ ⟨rfl, rfl, rfl⟩
  unfold PE.step
  cases hb : Ps.isM ops[i] E.f k with
  | true =>
   replace hk := PE.isM_lt hb
   rw [Ps.oneOf_some (Ps.find_at hlt hI hb)] at hT
   repeat (first|refine q1 ?_|refine q3 ?_|refine q4 tab rfl rfl ?_|refine q5 ?_|refine q6 ?_|refine q16 rfl ?_)
   refine TO.step rfl (OT.parT (L0 := L) (hX) hm hT hn hE hk (by repeat (first|exact Bad.ret|refine Bad.then ?_|refine Bad.block ?_)) hm (by repeat (first|exact List.Sublist.refl _|refine List.Sublist.cons _ ?_)) rfl rfl rfl rfl rfl rfl goes147 (fun x m2 a k2 hT hm hE hlex hk hrx => ?_))
   skip
   refine TO.step rfl (OT.litR tab rTree (hs := [x]) (l := [a]) ⟨rTree_iff.2 hrx, trivial⟩ rfl rfl rfl rfl rfl (by decide) (fun s m3 hle3 hs ho hc => ?_))
   repeat (refine q4 tab rfl rfl ?_)
   (refine TO.step rfl (OT.storeL0 tab 1 rfl rfl rfl rfl rfl rfl rfl rfl ?_))
   repeat (first|refine q5 ?_|refine q6 ?_|refine q8 ?_|refine q9 ?_|refine q15 ?_)
   refine retQ_ret_c1 tab 1 rfl rfl rfl rfl (L' := E.I k2 h :: L) (by repeat (first|exact List.Sublist.refl _|refine List.Sublist.cons_cons _ ?_|refine List.Sublist.cons _ ?_)) ⟨_, k2, [], hT, Mem.le_trans hm hle3, hk, ⟨⟨52, ops[i], 0, s⟩, rfl, rfl, ⟨rfl, rfl, rfl, hs⟩⟩, rfl⟩
  | false =>
   repeat (first|refine q3 ?_|refine q5 ?_|refine q6 ?_|refine q7 ?_|refine q13 ?_|refine q17 rfl ?_)
   refine TO.step rfl (OT.arith (r' := ((i + 1 : Nat) : Int)) rfl rfl rfl rfl rfl rfl rfl (by omega) ?_)
   repeat (first|refine q4 tab rfl rfl ?_|refine q5 ?_|refine q6 ?_)
   exact ⟨i + 1, (by repeat (first|exact trivial|refine And.intro rfl ?_)), (by repeat (first|exact trivial|refine And.intro rfl ?_)), rfl, rfl, (by repeat (exact List.Sublist.refl _)), ⟨hlt, by rw [List.take_succ_eq_append_getElem hlt, List.all_append, hI]; simp [hb]⟩, by omega⟩
 ·rw [List.take_of_length_le (by omega)] at hI
  rw [Ps.oneOf_none (Ps.find_no hI), ← Ps.bind_ret Y] at hT
  repeat (first|refine q1 ?_|refine q3 ?_|refine q4 tab rfl rfl ?_|refine q6 ?_|refine q10 ?_|refine q11 ?_|refine q14 ?_)
  refine TO.step rfl (OT.parT (L0 := L) (hY) hm hT hn hE hk (by repeat (first|exact Bad.ret|refine Bad.then ?_)) hm (by repeat (first|exact List.Sublist.refl _|refine List.Sublist.cons _ ?_)) rfl rfl rfl rfl rfl rfl goes155 (fun x m2 a k2 hT hm hE hlex hk hrx => ?_))
  skip
  (refine TO.step rfl (OT.storeL0 tab 1 rfl rfl rfl rfl rfl rfl rfl rfl ?_))
  repeat (first|refine q5 ?_|refine q6 ?_|refine q15 ?_)
  refine retQ_ret_c1 tab 1 rfl rfl rfl rfl (L' := E.I k2 h :: L) (by repeat (first|exact List.Sublist.refl _|refine List.Sublist.cons_cons _ ?_|refine List.Sublist.cons _ ?_)) ⟨_, k2, [], hT, hm, hk, ⟨x, rfl, rfl, hrx⟩, rfl⟩
end
end Go.Sep


/- PsW11 -/
set_option linter.unusedVariables false
set_option linter.unusedSimpArgs false
namespace Go.Sep
open Go.Proofs
attribute [local irreducible] TC TO OT TCallX TCall DO DOt thenQ blockQ retQ At
def ParAt {α : Type} (P : Program) (E : PE) (V : RV α) (f : FuncId) (args : List Value) (h : Int) (X : Ps.Pp α) (m : Mem) (L : List Item) (k : Nat) : Prop :=
 X E.f k ≠ .out → TCallX P f ⟨args⟩ m (E.I k h :: L) (pR E V (X E.f k) m L h) (pX E (X E.f k) m L)
theorem ParAt.enter {α : Type} {P : Program} {E : PE} {V : RV α} {f : FuncId} {args : List Value} {h : Int} {X : Ps.Pp α} {m : Mem} {L : List Item} {k : Nat} {fn : Func} {c : Code} (hf : P.funcs[f]? = some fn) (hb : fn.body = some c) (N : Nat) (hN : Nat.ble N fn.ntmps = true)
  (hK : ∀ (T : Ps.Res α), T = X E.f k → T ≠ .out → TC P N c (argEnv args 0) [] m (E.I k h :: L) (retQ P fn (pR E V T m L h) (pX E T m L))) : ParAt P E V f args h X m L k :=
 fun h3 => TCallX.enter hf hb N hN (hK _ rfl h3)
theorem Par.at {α : Type} {P : Program} {mb : Mem} {E : PE} {V : RV α} {f : FuncId} {args : List Value} {h : Int} {X : Ps.Pp α} (hp : Par P mb E V f args h X) {m : Mem} (L : List Item) {k : Nat} (hm : mb ≤ m) (hE : E.Ok m) (hk : k ≤ E.toks.length) : ParAt P E V f args h X m L k := hp m L k hm hE hk
section
variable {P : Program} {N : Nat} {ρ : Env} {m : Mem} {L : List Item} {Q : EPost} {o : Oper} {K : Env → Mem → List Item → Prop} {E : PE} {α β : Type}
theorem OT.parGA {V : RV α} {FF : Operand} {args : List Operand} {ats : Array TypeId} {f : FuncId} {first cap vs all : List Value} {d : Nat} {h : Int} {p : Ps.Pp α} {g : α → Ps.Pp β} {T : Ps.Res β} {k : Nat} {m0 : Mem} {L0 : List Item}
  (ho : o.op = .call ⟨.value FF, ⟨args⟩, ats⟩) (hd : o.dst = some d) (hN : Nat.blt d N = true)
  (hF : ev ρ FF = some (.func (.func f) ⟨first⟩ ⟨cap⟩)) (ha : evs ρ args = some vs) (hall : fl (first ++ (vs ++ cap)) = some all) (hg : Goes P f)
  (hp : ParAt P E V f all h p m L k) (hT : T = Ps.bind p g E.f k) (hn : T ≠ .out) (hb : Bad Q E T m0 L0) (hm : m0 ≤ m) (hL : L0.Sublist L)
  (hK : ∀ v m' a k' xs, T = g a E.f k' → m ≤ m' → k' ≤ E.toks.length → V m' v xs a → K ((d, v) :: ρ) m' (E.I k' h :: (xs ++ L))) : OT P N o ρ [] m (E.I k h :: L) Q K := by
 refine OT.call ho hd hN hF ha hall hg (TCallX.mono (hp (bind_out' hT hn)) ?_ ?_)
 ·rintro v m' L' ⟨a, k', xs, h1, h2, h3, h4, rfl⟩
  exact hK v m' a k' xs (by rw [hT]; unfold Ps.bind; rw [h1]) h2 h3 h4
 ·rintro ch m' L' ⟨k', h', h1, h2, h3, rfl, rfl⟩
  exact hb _ _ _ _ _ (Mem.le_trans hm h2) h3 (by rw [hT]; unfold Ps.bind; rw [h1]) hL
variable {FF : Operand} {args : List Operand} {ats : Array TypeId} {f : FuncId} {first cap vs all : List Value} {d : Nat} {h : Int} {T : Ps.Res β} {k : Nat} {m0 : Mem} {L0 : List Item}
theorem OT.parTA {p : Ps.Pp Tree} {g : Tree → Ps.Pp β} (hp : ParAt P E vTree f all h p m L k) (hT : T = Ps.bind p g E.f k) (hn : T ≠ .out) (hE : E.Ok m) (hb : Bad Q E T m0 L0) (hm : m0 ≤ m) (hL : L0.Sublist L)
  (ho : o.op = .call ⟨.value FF, ⟨args⟩, ats⟩) (hd : o.dst = some d) (hN : Nat.blt d N = true)
  (hF : ev ρ FF = some (.func (.func f) ⟨first⟩ ⟨cap⟩)) (ha : evs ρ args = some vs) (hall : fl (first ++ (vs ++ cap)) = some all) (hg : Goes P f)
  (hK : ∀ x m' a k', T = g a E.f k' → m0 ≤ m' → E.Ok m' → m ≤ m' → k' ≤ E.toks.length → TreeRep m' x a → K ((d, treeV x) :: ρ) m' (E.I k' h :: L)) : OT P N o ρ [] m (E.I k h :: L) Q K :=
 OT.parGA ho hd hN hF ha hall hg hp hT hn hb hm hL fun v m' a k' xs h1 h2 h3 h4 => by
  obtain ⟨x, rfl, rfl, h5⟩ := h4
  exact hK x m' a k' h1 (Mem.le_trans hm h2) (hE.mono h2) h2 h3 h5
theorem OT.parSA {p : Ps.Pp (List Tree)} {g : List Tree → Ps.Pp β} (hp : ParAt P E vSl f all h p m L k) (hT : T = Ps.bind p g E.f k) (hn : T ≠ .out) (hE : E.Ok m) (hb : Bad Q E T m0 L0) (hm : m0 ≤ m) (hL : L0.Sublist L)
  (ho : o.op = .call ⟨.value FF, ⟨args⟩, ats⟩) (hd : o.dst = some d) (hN : Nat.blt d N = true)
  (hF : ev ρ FF = some (.func (.func f) ⟨first⟩ ⟨cap⟩)) (ha : evs ρ args = some vs) (hall : fl (first ++ (vs ++ cap)) = some all) (hg : Goes P f)
  (hK : ∀ (x : Sl) m' a k', T = g a E.f k' → m0 ≤ m' → E.Ok m' → m ≤ m' → k' ≤ E.toks.length → SlRep rTree m' x a → a.length ≤ 20001 → K ((d, x.v) :: ρ) m' (E.I k' h :: L)) : OT P N o ρ [] m (E.I k h :: L) Q K :=
 OT.parGA ho hd hN hF ha hall hg hp hT hn hb hm hL fun v m' a k' xs h1 h2 h3 h4 => by
  obtain ⟨x, rfl, rfl, h5, h6⟩ := h4
  exact hK x m' a k' h1 (Mem.le_trans hm h2) (hE.mono h2) h2 h3 h5 h6
end
section
variable {mb : Mem} {E : PE} {h : Int}
theorem inside_at {f : FuncId} {first cap all : List Value} {X : Ps.Pp Tree} {m : Mem} {L : List Item} {k : Nat} (hall : fl (first ++ ([] ++ cap)) = some all) (hg : Goes Tryz.prog f) (hE : E.Ok m)
  (hX : ∀ b, ParAt Tryz.prog E vTree f all 0 X m (.cells b 0 [.int .i64 0, strV [], .int .i64 0, .slice none 0 0] :: L) k) :
  ParAt Tryz.prog E vTree 162 [E.v, .func (.func f) ⟨first⟩ ⟨cap⟩] h X m L k := by
 refine ParAt.enter Tryz.func162 rfl 21 rfl fun T hT hn => ?_
 have hm : m ≤ m := Mem.le_refl _
 rw [← Ps.bind_ret X] at hT
 repeat (first|refine q1 ?_|refine q3 ?_)
 refine TO.step rfl (OT.alloc tab rfl rfl rfl rfl (fun b4 => ?_)); refine TO.perm (List.Perm.swap _ _ _) ?_
 repeat (first|refine q1 ?_|refine q3 ?_|refine q4 tab rfl rfl ?_|refine q5 ?_|refine q6 ?_)
 (refine qs rfl (ql tab 0 rfl rfl rfl rfl rfl rfl ?_))
 repeat (first|refine q1 ?_|refine q3 ?_|refine q4 tab rfl rfl ?_|refine q5 ?_|refine q6 ?_)
 refine TO.step rfl (OT.storeL (k := 3) tab 0 rfl rfl rfl rfl rfl rfl rfl rfl ?_)
 repeat (first|refine q1 ?_|refine q3 ?_|refine q4 tab rfl rfl ?_|refine q5 ?_|refine q6 ?_)
 refine TO.step rfl (OT.parTA (L0 := L) (hX b4) hT hn hE (by repeat (first|exact Bad.ret|refine Bad.then ?_)) hm (by repeat (first|exact List.Sublist.refl _|refine List.Sublist.cons _ ?_)) rfl rfl rfl rfl rfl hall hg (fun x m2 a k2 hT hm hE hle hk hrx => ?_))
 skip
 refine TO.step rfl (OT.alloc tab rfl rfl rfl rfl (fun b6 => ?_)); refine TO.perm (List.Perm.swap _ _ _) ?_
 skip
 (refine TO.step rfl (OT.storeL0 tab 1 rfl rfl rfl rfl rfl rfl rfl rfl ?_))
 repeat (first|refine q1 ?_|refine q3 ?_|refine q4 tab rfl rfl ?_|refine q5 ?_|refine q6 ?_)
 refine TO.step rfl (OT.storeL (k := 3) tab 0 rfl rfl rfl rfl rfl rfl rfl rfl ?_)
 repeat (first|refine q1 ?_|refine q3 ?_|refine q5 ?_|refine q6 ?_)
 (refine qs rfl (qz tab 1 rfl rfl rfl rfl rfl rfl ?_))
 skip
 refine TO.step rfl (OT.storeL0 tab 2 rfl rfl rfl rfl rfl rfl rfl rfl ?_)
 repeat (first|refine q5 ?_|refine q6 ?_|refine q15 ?_)
 refine retQ_ret_c1 tab 2 rfl rfl rfl rfl (L' := E.I k2 h :: L) (by repeat (first|exact List.Sublist.refl _|refine List.Sublist.cons_cons _ ?_|refine List.Sublist.cons _ ?_)) ⟨_, k2, [], hT, hm, hk, ⟨x, rfl, rfl, hrx⟩, rfl⟩
theorem insideS_at {f : FuncId} {first cap all : List Value} {X : Ps.Pp (List Tree)} {m : Mem} {L : List Item} {k : Nat} (hall : fl (first ++ ([] ++ cap)) = some all) (hg : Goes Tryz.prog f) (hE : E.Ok m)
  (hX : ParAt Tryz.prog E vSl f all 0 X m L k) :
  ParAt Tryz.prog E vSl 169 [E.v, .func (.func f) ⟨first⟩ ⟨cap⟩] h X m L k := by
 refine ParAt.enter Tryz.func169 rfl 21 rfl fun T hT hn => ?_
 have hm : m ≤ m := Mem.le_refl _
 rw [← Ps.bind_ret X] at hT
 repeat (first|refine q1 ?_|refine q3 ?_|refine q4 tab rfl rfl ?_|refine q5 ?_|refine q6 ?_)
 (refine qs rfl (ql tab 0 rfl rfl rfl rfl rfl rfl ?_))
 repeat (first|refine q1 ?_|refine q3 ?_|refine q4 tab rfl rfl ?_|refine q5 ?_|refine q6 ?_)
 refine TO.step rfl (OT.storeL (k := 3) tab 0 rfl rfl rfl rfl rfl rfl rfl rfl ?_)
 repeat (first|refine q1 ?_|refine q3 ?_|refine q4 tab rfl rfl ?_|refine q5 ?_|refine q6 ?_)
 refine TO.step rfl (OT.parSA (L0 := L) hX hT hn hE (by repeat (first|exact Bad.ret|refine Bad.then ?_)) hm (by repeat (exact List.Sublist.refl _)) rfl rfl rfl rfl rfl hall hg (fun x m2 a k2 hT hm hE hle hk hrx hlx => ?_))
 repeat (first|refine q1 ?_|refine q3 ?_|refine q4 tab rfl rfl ?_|refine q5 ?_|refine q6 ?_)
 refine TO.step rfl (OT.storeL (k := 3) tab 0 rfl rfl rfl rfl rfl rfl rfl rfl ?_)
 repeat (first|refine q1 ?_|refine q3 ?_|refine q4 tab rfl rfl ?_|refine q5 ?_|refine q6 ?_|refine q15 ?_)
 refine retQ_ret rfl (L' := E.I k2 h :: L) (by repeat (exact List.Sublist.refl _)) ⟨_, k2, [], hT, hm, hk, ⟨x, rfl, rfl, hrx, hlx⟩, rfl⟩
theorem exprs_par {Y : Ps.Pp Tree} (hY : Par Tryz.prog mb E vTree 138 [E.v] h Y) (e : Str) :
  Par Tryz.prog mb E vSl 166 [E.v, strV e] h (Ps.exprsP E.N e Y) := by
 refine Par.enter Tryz.func166 rfl 17 rfl fun m L k T hm0 hE hk hT hn => ?_
 replace hY := hY.up hm0
 have hm : m ≤ m := Mem.le_refl _
 unfold Ps.exprsP Ps.inP at hT
 repeat (first|refine q1 ?_|refine q3 ?_|refine q4 tab rfl rfl ?_|refine q5 ?_|refine q6 ?_)
 refine TO.step rfl (OT.takeP hT hE hk rfl rfl rfl rfl rfl rfl (fun hT hk => ?_) (fun hT => ?_))
 ·repeat (first|refine q1 ?_|refine q3 ?_|refine q4 tab rfl rfl ?_|refine q5 ?_|refine q6 ?_|refine q8 ?_|refine q15 ?_|refine q16 rfl ?_)
  refine retQ_ret rfl (L' := E.I (k + 1) h :: L) (by repeat (exact List.Sublist.refl _)) ⟨[], k + 1, [], hT, hm, hk, ⟨⟨none, 0, 0⟩, rfl, rfl, SlRep.nil _ _, by simp⟩, rfl⟩
 ·repeat (first|refine q1 ?_|refine q3 ?_|refine q4 tab rfl rfl ?_|refine q5 ?_|refine q6 ?_|refine q13 ?_|refine q17 rfl ?_)
  refine TO.step rfl (OT.parL (L0 := L) (list1_par (first := [E.v]) (cap := []) rfl goes138 hY) hm hT hn hE hk (by repeat (first|exact Bad.ret|refine Bad.then ?_)) hm (by repeat (exact List.Sublist.refl _)) rfl rfl rfl rfl rfl rfl goes102 (fun x m2 a k2 hT hm hE hlex hk hrx hox hlx => ?_))
  repeat (first|refine q1 ?_|refine q3 ?_|refine q4 tab rfl rfl ?_|refine q5 ?_|refine q6 ?_)
  refine TO.step rfl (OT.needP (L0 := L) hT hE hk (by repeat (first|exact Bad.ret|refine Bad.then ?_)) hm (by repeat (first|exact List.Sublist.refl _|refine List.Sublist.cons _ ?_)) rfl rfl rfl rfl rfl rfl (fun hT hk => ?_))
  repeat (first|refine q1 ?_|refine q3 ?_|refine q4 tab rfl rfl ?_|refine q5 ?_|refine q6 ?_|refine q15 ?_)
  refine retQ_ret rfl (L' := E.I (k2 + 1) h :: L) (by repeat (first|exact List.Sublist.refl _|refine List.Sublist.cons_cons _ ?_|refine List.Sublist.cons _ ?_)) ⟨a, k2 + 1, [], hT, hm, hk, ⟨x, rfl, rfl, hrx, hlx⟩, rfl⟩
set_option maxHeartbeats 1000000 in
theorem index_par {Y : Ps.Pp Tree} (hY : Par Tryz.prog mb E vTree 138 [E.v] 0 Y) (x : HTree) (n : Tree) (hr : TreeRep mb x n) :
  Par Tryz.prog mb E vTree 164 [E.v, treeV x] 0 (Ps.indexP Y n) := by
 refine Par.enter Tryz.func164 rfl 42 rfl fun m L k T hm0 hE hk hT hn => ?_
 replace hY := hY.up hm0
 replace hr := hr.mono hm0
 have hm : m ≤ m := Mem.le_refl _
 unfold Ps.indexP at hT
 repeat (first|refine q1 ?_|refine q3 ?_)
 refine TO.step rfl (OT.box rfl rfl rfl rfl rfl (fun b3 => ?_)); refine TO.perm (List.Perm.swap _ _ _) ?_
 refine TO.step rfl (OT.alloc tab rfl rfl rfl rfl (fun b4 => ?_)); refine TO.perm (List.Perm.swap _ _ _) ?_
 repeat (first|refine q1 ?_|refine q3 ?_|refine q5 ?_|refine q6 ?_)
 (refine qs rfl (qz tab 2 rfl rfl rfl rfl rfl rfl ?_))
 refine TO.step rfl (OT.litR tab rTree (hs := [x]) (l := [n]) ⟨rTree_iff.2 hr, trivial⟩ rfl rfl rfl rfl rfl (by decide) (fun s m1 hle1 hs ho hc => ?_))
 replace hm := hle1
 replace hE := hE.mono hle1
 refine TO.tokFo hc ho 4 ?_
 refine TO.perm (List.Perm.swap _ _ _) ?_
 repeat (first|refine q1 ?_|refine q3 ?_|refine q4 tab rfl rfl ?_|refine q5 ?_|refine q6 ?_)
 refine TO.step rfl (OT.alloc tab rfl rfl rfl rfl (fun b6 => ?_)); refine TO.perm (List.Perm.swap _ _ _) ?_
 skip
 (refine TO.step rfl (OT.storeL0 tab 1 rfl rfl rfl rfl rfl rfl rfl rfl ?_))
 refine TO.nil ?_
 refine thenQ_n ?_
 refine TC.cut (ι := Int × Sl × Mem × List Tree × Nat) [0, 4, 6] rfl (fun i => [(5, i.2.1.v)]) (fun i => i.2.2.1) (fun i => E.I i.2.2.2.2 0 :: .cells b6 0 [.int .i64 50, strV [], .int .i64 i.1, .slice none 0 0] :: tok i.2.1 4 :: .cells b4 0 [.int .i64 0, strV [], .int .i64 0, .slice none 0 0] :: L) (fun i => m ≤ i.2.2.1 ∧ E.Ok i.2.2.1 ∧ i.2.2.2.2 ≤ E.toks.length ∧ SlRep rTree i.2.2.1 i.2.1 i.2.2.2.1 ∧ Own i.2.1 ∧ i.2.2.2.1.length ≤ 2 ∧ 0 ≤ i.1 ∧ i.1 ≤ 1 ∧ T = Ps.cutP Y i.1 i.2.2.2.1 E.f i.2.2.2.2) ?_ ?_
 ·repeat (first|refine q1 ?_|refine q3 ?_|refine q4 tab rfl rfl ?_)
  refine TO.step rfl (OT.peekP hT hE hk rfl rfl rfl rfl rfl rfl (fun hT => ?_) (fun hT => ?_))
  ·repeat (first|refine q4 tab rfl rfl ?_|refine q5 ?_|refine q6 ?_|refine q13 ?_|refine q17 rfl ?_)
   exact ⟨(0, s, m1, [n], k), (by repeat (first|exact trivial|refine And.intro rfl ?_)), (by repeat (first|exact trivial|refine And.intro rfl ?_)), rfl, rfl, (by repeat (first|exact List.Sublist.refl _|refine List.Sublist.cons_cons _ ?_|refine List.Sublist.cons _ ?_)), hm, hE, hk, hs, ho, by simp, by simp only; omega, by simp only; omega, hT⟩
  ·repeat (first|refine q1 ?_|refine q3 ?_|refine q4 tab rfl rfl ?_|refine q5 ?_|refine q6 ?_|refine q16 rfl ?_)
   refine TO.step rfl (OT.parT (L0 := L) (hY) hm hT hn hE hk (by repeat (first|exact Bad.ret|refine Bad.then ?_)) hm (by repeat (first|exact List.Sublist.refl _|refine List.Sublist.cons _ ?_)) rfl rfl rfl rfl rfl rfl goes138 (fun y m2 e k2 hT hm hE hley hk hry => ?_))
   refine TO.step rfl (OT.litR tab rTree (hs := [y]) (l := [e]) ⟨rTree_iff.2 hry, trivial⟩ rfl rfl rfl rfl rfl (by decide) (fun s2 m3 hle3 hs2 ho2 hc2 => ?_))
   refine TO.step rfl (OT.append tab rTree 2 (hs.mono (Mem.le_trans hley hle3)) ho hs2 rfl rfl rfl rfl rfl rfl rfl (by simp only [List.length_cons, List.length_nil, rTree, mkR]; omega) (fun s3 m4 hle4 hs3 ho3 => ?_))
   replace hm := Mem.le_trans hm (Mem.le_trans hle3 hle4)
   replace hE := hE.mono (Mem.le_trans hle3 hle4)
   repeat (first|refine q1 ?_|refine q3 ?_|refine q4 tab rfl rfl ?_|refine q5 ?_|refine q6 ?_)
   refine TO.step rfl (OT.takeP hT hE hk rfl rfl rfl rfl rfl rfl (fun hT hk => ?_) (fun hT => ?_))
   ·repeat (first|refine q1 ?_|refine q3 ?_|refine q4 tab rfl rfl ?_|refine q5 ?_|refine q6 ?_|refine q16 rfl ?_)
    refine TO.step rfl (OT.storeL0 tab 3 rfl rfl rfl rfl rfl rfl rfl rfl ?_)
    repeat (first|refine q5 ?_|refine q6 ?_|refine q8 ?_|refine q15 ?_)
    refine retQ_ret_c1 tab 3 rfl rfl rfl rfl (L' := E.I (k2 + 1) 0 :: L) (by repeat (first|exact List.Sublist.refl _|refine List.Sublist.cons_cons _ ?_|refine List.Sublist.cons _ ?_)) ⟨_, k2 + 1, [], hT, hm, hk, ⟨⟨49, [], 0, s3⟩, rfl, rfl, ⟨rfl, rfl, rfl, hs3⟩⟩, rfl⟩
   ·repeat (first|refine q3 ?_|refine q4 tab rfl rfl ?_|refine q5 ?_|refine q6 ?_|refine q13 ?_|refine q17 rfl ?_)
    refine TO.step rfl (OT.storeL (k := 2) tab 1 rfl rfl rfl rfl rfl rfl rfl rfl ?_)
    repeat (first|refine q5 ?_|refine q6 ?_)
    exact ⟨(1, s3, m4, [n] ++ [e], k2), (by repeat (first|exact trivial|refine And.intro rfl ?_)), (by repeat (first|exact trivial|refine And.intro rfl ?_)), rfl, rfl, (by repeat (first|exact List.Sublist.refl _|refine List.Sublist.cons_cons _ ?_|refine List.Sublist.cons _ ?_)), hm, hE, hk, hs3, ho3, by simp, by simp only; omega, by simp only; omega, hT⟩
 ·rintro ⟨num, s, m1, ks, k⟩ ⟨hm, hE, hk, hs, ho, hl, hn0, hn1, hT⟩
  simp only at hm hE hk hs ho hl hn0 hn1 hT
  unfold Ps.cutP at hT
  repeat (first|refine q1 ?_|refine q3 ?_|refine q4 tab rfl rfl ?_)
  refine TO.step rfl (OT.needP (L0 := L) hT hE hk (by repeat (first|exact Bad.ret|refine Bad.then ?_)) hm (by repeat (first|exact List.Sublist.refl _|refine List.Sublist.cons _ ?_)) rfl rfl rfl rfl rfl rfl (fun hT hk => ?_))
  repeat (first|refine q1 ?_|refine q3 ?_|refine q4 tab rfl rfl ?_|refine q5 ?_|refine q6 ?_)
  refine TO.step rfl (OT.takeP hT hE hk rfl rfl rfl rfl rfl rfl (fun hT hk => ?_) (fun hT => ?_))
  ·repeat (first|refine q1 ?_|refine q3 ?_|refine q4 tab rfl rfl ?_|refine q5 ?_|refine q6 ?_|refine q13 ?_|refine q17 rfl ?_)
   refine TO.step rfl (OT.storeL (k := 3) tab 1 rfl rfl rfl rfl rfl rfl rfl rfl ?_)
   repeat (first|refine q1 ?_|refine q3 ?_|refine q5 ?_|refine q6 ?_)
   (refine qs rfl (qz tab 1 rfl rfl rfl rfl rfl rfl ?_))
   skip
   refine TO.step rfl (OT.storeL0 tab 3 rfl rfl rfl rfl rfl rfl rfl rfl ?_)
   repeat (first|refine q5 ?_|refine q6 ?_|refine q15 ?_)
   refine retQ_ret_c1 tab 3 rfl rfl rfl rfl (L' := E.I (k + 1 + 1) 0 :: L) (by repeat (first|exact List.Sublist.refl _|refine List.Sublist.cons_cons _ ?_|refine List.Sublist.cons _ ?_)) ⟨_, k + 1 + 1, [], hT, hm, hk, ⟨⟨50, [], num, s⟩, rfl, rfl, ⟨rfl, rfl, rfl, hs⟩⟩, rfl⟩
  ·repeat (first|refine q1 ?_|refine q3 ?_|refine q4 tab rfl rfl ?_|refine q5 ?_|refine q6 ?_|refine q16 rfl ?_)
   refine TO.step rfl (OT.parT (L0 := L) (hY) hm hT hn hE hk (by repeat (first|exact Bad.ret|refine Bad.then ?_)) hm (by repeat (first|exact List.Sublist.refl _|refine List.Sublist.cons _ ?_)) rfl rfl rfl rfl rfl rfl goes138 (fun y m2 e k2 hT hm hE hley hk hry => ?_))
   refine TO.step rfl (OT.litR tab rTree (hs := [y]) (l := [e]) ⟨rTree_iff.2 hry, trivial⟩ rfl rfl rfl rfl rfl (by decide) (fun s2 m3 hle3 hs2 ho2 hc2 => ?_))
   refine TO.step rfl (OT.append tab rTree 2 (hs.mono (Mem.le_trans hley hle3)) ho hs2 rfl rfl rfl rfl rfl rfl rfl (by simp only [List.length_cons, List.length_nil, rTree, mkR]; omega) (fun s3 m4 hle4 hs3 ho3 => ?_))
   replace hm := Mem.le_trans hm (Mem.le_trans hle3 hle4)
   replace hE := hE.mono (Mem.le_trans hle3 hle4)
   repeat (first|refine q1 ?_|refine q3 ?_|refine q4 tab rfl rfl ?_|refine q5 ?_|refine q6 ?_)
   (refine qs rfl (ql tab 1 rfl rfl rfl rfl rfl rfl ?_))
   refine TO.step rfl (OT.arith (r' := num + 2) rfl rfl rfl rfl rfl rfl rfl (by omega) ?_)
   repeat (refine q4 tab rfl rfl ?_)
   refine TO.step rfl (OT.storeL (k := 2) tab 1 rfl rfl rfl rfl rfl rfl rfl rfl ?_)
   repeat (first|refine q3 ?_|refine q4 tab rfl rfl ?_|refine q5 ?_|refine q6 ?_)
   refine TO.step rfl (OT.needP (L0 := L) hT hE hk (by repeat (first|exact Bad.ret|refine Bad.then ?_)) hm (by repeat (first|exact List.Sublist.refl _|refine List.Sublist.cons _ ?_)) rfl rfl rfl rfl rfl rfl (fun hT hk => ?_))
   repeat (first|refine q1 ?_|refine q3 ?_|refine q4 tab rfl rfl ?_|refine q5 ?_|refine q6 ?_)
   refine TO.step rfl (OT.storeL (k := 3) tab 1 rfl rfl rfl rfl rfl rfl rfl rfl ?_)
   repeat (first|refine q1 ?_|refine q3 ?_|refine q5 ?_|refine q6 ?_)
   (refine qs rfl (qz tab 1 rfl rfl rfl rfl rfl rfl ?_))
   skip
   refine TO.step rfl (OT.storeL0 tab 3 rfl rfl rfl rfl rfl rfl rfl rfl ?_)
   repeat (first|refine q5 ?_|refine q6 ?_|refine q15 ?_)
   refine retQ_ret_c1 tab 3 rfl rfl rfl rfl (L' := E.I (k2 + 1) 0 :: L) (by repeat (first|exact List.Sublist.refl _|refine List.Sublist.cons_cons _ ?_|refine List.Sublist.cons _ ?_)) ⟨_, k2 + 1, [], hT, hm, hk, ⟨⟨50, [], num + 2, s3⟩, rfl, rfl, ⟨rfl, rfl, rfl, hs3⟩⟩, rfl⟩
end
end Go.Sep


/- PsW12 -/
set_option linter.unusedVariables false
set_option linter.unusedSimpArgs false
namespace Go.Sep
open Go.Proofs
attribute [local irreducible] TC TO OT TCallX TCall DO DOt thenQ blockQ retQ At
section
variable {mb : Mem} {E : PE} {h : Int}
theorem post1_at {Y : Ps.Pp Tree} (hY : Par Tryz.prog mb E vTree 138 [E.v] 0 Y) {m : Mem} {L : List Item} {k : Nat} {it : Item} {b1 b3 : Nat} {x : HTree} {n : Tree} (hm0 : mb ≤ m) (hE : E.Ok m) (hk : k ≤ E.toks.length) (hA : At m b1 0 [E.v]) (hr : TreeRep m x n) :
  ParAt Tryz.prog E vTree 163 [.pointer (some ⟨b1, 0, none⟩), .pointer (some ⟨b3, 0, none⟩)] 0 (Ps.indexP Y n) m (it :: .cells b3 0 (treeC x) :: L) k := by
 refine ParAt.enter Tryz.func163 rfl 6 rfl fun T hT hn => ?_
 have hm : m ≤ m := Mem.le_refl _
 rw [← Ps.bind_ret (Ps.indexP Y n)] at hT
 repeat (first|refine q1 ?_|refine q3 ?_)
 refine TO.step rfl (OT.alloc tab rfl rfl rfl rfl (fun b2 => ?_)); refine TO.perm (List.Perm.swap _ _ _) ?_
 repeat (first|refine q1 ?_|refine q3 ?_|refine q5 ?_|refine q6 ?_)
 (refine TO.step rfl (OT.loadA0 tab hA rfl rfl rfl rfl rfl ?_))
 (refine qs rfl (qz tab 3 rfl rfl rfl rfl rfl rfl ?_))
 refine TO.step rfl (OT.parT (L0 := it :: .cells b3 0 (treeC x) :: L) (index_par (hY.up hm0) x n hr) hm hT hn hE hk (by repeat (first|exact Bad.ret|refine Bad.then ?_)) hm (by repeat (first|exact List.Sublist.refl _|refine List.Sublist.cons _ ?_)) rfl rfl rfl rfl rfl rfl goes164 (fun x m2 a k2 hT hm hE hle hk hrx => ?_))
 skip
 (refine TO.step rfl (OT.storeL0 tab 1 rfl rfl rfl rfl rfl rfl rfl rfl ?_))
 repeat (first|refine q5 ?_|refine q6 ?_|refine q15 ?_)
 refine retQ_ret_c1 tab 1 rfl rfl rfl rfl (L' := E.I k2 0 :: it :: .cells b3 0 _ :: L) (by repeat (first|exact List.Sublist.refl _|refine List.Sublist.cons_cons _ ?_|refine List.Sublist.cons _ ?_)) ⟨_, k2, [], hT, hm, hk, ⟨x, rfl, rfl, hrx⟩, rfl⟩
set_option maxHeartbeats 1000000 in
theorem post2_at {Y : Ps.Pp Tree} (hY : Par Tryz.prog mb E vTree 138 [E.v] 0 Y) {m : Mem} {L : List Item} {k : Nat} {it : Item} {b1 b3 : Nat} {x : HTree} {n : Tree} (hm0 : mb ≤ m) (hE : E.Ok m) (hk : k ≤ E.toks.length) (hA : At m b1 0 [E.v]) (hr : TreeRep m x n) :
  ParAt Tryz.prog E vTree 165 [.pointer (some ⟨b3, 0, none⟩), .pointer (some ⟨b1, 0, none⟩)] 0 (Ps.bind (Ps.exprsP E.N [41] Y) fun l => Ps.ret (.mk 51 [] 0 (n :: l))) m (it :: .cells b3 0 (treeC x) :: L) k := by
 refine ParAt.enter Tryz.func165 rfl 9 rfl fun T hT hn => ?_
 have hm : m ≤ m := Mem.le_refl _
 replace hY := hY.up hm0
 repeat (first|refine q1 ?_|refine q3 ?_)
 refine TO.step rfl (OT.alloc tab rfl rfl rfl rfl (fun b2 => ?_)); refine TO.perm (List.Perm.swap _ _ _) ?_
 repeat (first|refine q1 ?_|refine q5 ?_|refine q6 ?_)
 refine TC.draw [6] mixed 7 rfl [.cells b3 0 (treeC x), .cells b2 0 [.int .i64 0, strV [], .int .i64 0, .slice none 0 0]] (E.I k 0 :: it :: L) ((List.Perm.trans pfr3 (List.Perm.cons _ pfr1))) ?_
 refine DO.loadL (k := 0) tab 0 0 (by repeat (first|exact Calm.ret|refine Calm.then ?_)) (by kernel_rfl) (by kernel_rfl) rfl rfl rfl rfl rfl rfl rfl rfl ?_
 refine DO.loadA (k := 0) tab 2 hA (by repeat (first|exact Calm.ret|refine Calm.then ?_)) (by kernel_rfl) (by kernel_rfl) rfl rfl rfl rfl rfl rfl rfl ?_
 refine DO.fork 1 [3] (by kernel_rfl) ⟨⟨_, rfl, rfl, rfl, ?_⟩, ⟨_, rfl, rfl, rfl, ?_⟩, trivial⟩
 ·skip
  refine OT.litR tab rTree (hs := [x]) (l := [n]) ⟨rTree_iff.2 hr, trivial⟩ rfl rfl rfl rfl rfl (by decide) (fun s mB hleB hs ho hc => ?_)
  replace hm := Mem.le_trans hm hleB
  replace hE := hE.mono hleB
  refine ⟨hleB, _, List.Perm.refl _, ?_⟩
  refine DO.run 3 rfl rfl (by kernel_rfl) rfl ?_
  refine OT.perm (L' := E.I k 0 :: .cells b2 0 [.int .i64 0, strV [], .int .i64 0, .slice none 0 0] :: it :: .cells b3 0 (treeC x) :: L) ((List.Perm.trans pfr2 (List.Perm.cons _ (List.Perm.trans pfr1 (List.Perm.cons _ pfr1))))) (OT.parS (L0 := it :: .cells b3 0 (treeC x) :: L) (exprs_par hY [41]) hm hT hn hE hk (by repeat (first|exact Bad.ret|refine Bad.then ?_)) hm (by repeat (first|exact List.Sublist.refl _|refine List.Sublist.cons _ ?_)) rfl rfl rfl rfl rfl rfl goes166 (fun y mA l k2 hT hm hE hleA hk hry hly => ?_))
  refine ⟨hleA, E.I k2 0 :: it :: L, ((List.Perm.trans pfr3 (List.Perm.cons _ pfr1))), ?_⟩
  have hsB := hs.mono hleA
  have hrB := hry
  refine DO.run 4 rfl rfl (by kernel_rfl) rfl ?_
  refine OT.tokFo hc ho 4 (OT.append tab rTree 0 hsB ho hrB rfl rfl rfl rfl rfl rfl rfl (by simp only [List.length_cons, List.length_nil, rTree, mkR]; omega) (fun s3 mC hleC hs3 ho3 => ?_))
  refine ⟨hleC, tok s3 4 :: E.I k2 0 :: it :: L, perm_mid (l := [_, _]), ?_⟩
  refine DO.pure tab (by repeat (first|exact Calm.ret|refine Calm.then ?_)) (by kernel_rfl) [5] (by kernel_rfl) rfl ?_
  refine DO.tail ?_
  refine DOt.run 6 rfl rfl (by kernel_rfl) rfl ?_
  refine OT.storeL0 tab 1 rfl rfl rfl rfl rfl rfl rfl rfl ?_
  refine DOt.perm (L' := E.I k2 0 :: .cells b2 0 [.int .i64 51, strV [], .int .i64 0, s3.v] :: tok s3 4 :: it :: .cells b3 0 (treeC x) :: L) ((List.Perm.trans pfr3 (List.Perm.cons _ (List.Perm.trans pfr1 (List.Perm.cons _ (List.Perm.trans pfr1 (List.Perm.cons _ pfr1))))))) ?_
  refine DOt.nil (by kernel_rfl) ?_
  repeat (first|refine q6 ?_|refine q15 ?_)
  refine retQ_ret_c1 tab 1 rfl rfl rfl rfl (L' := E.I k2 0 :: it :: .cells b3 0 (treeC x) :: L) (by repeat (first|exact List.Sublist.refl _|refine List.Sublist.cons_cons _ ?_|refine List.Sublist.cons _ ?_)) ⟨_, k2, [], hT, Mem.le_trans hm hleC, hk, ⟨⟨51, [], 0, s3⟩, rfl, rfl, ⟨rfl, rfl, rfl, hs3⟩⟩, rfl⟩
 ·skip
  refine OT.perm (L' := E.I k 0 :: .cells b2 0 [.int .i64 0, strV [], .int .i64 0, .slice none 0 0] :: it :: .cells b3 0 (treeC x) :: L) ((List.Perm.trans pfr2 (List.Perm.cons _ (List.Perm.trans pfr1 (List.Perm.cons _ pfr1))))) (OT.parS (L0 := it :: .cells b3 0 (treeC x) :: L) (exprs_par hY [41]) hm hT hn hE hk (by repeat (first|exact Bad.ret|refine Bad.then ?_)) hm (by repeat (first|exact List.Sublist.refl _|refine List.Sublist.cons _ ?_)) rfl rfl rfl rfl rfl rfl goes166 (fun y mA l k2 hT hm hE hleA hk hry hly => ?_))
  refine ⟨hleA, E.I k2 0 :: it :: L, ((List.Perm.trans pfr3 (List.Perm.cons _ pfr1))), ?_⟩
  refine DO.run 1 rfl rfl (by kernel_rfl) rfl ?_
  refine OT.litR tab rTree (hs := [x]) (l := [n]) ⟨rTree_iff.2 (hr.mono hleA), trivial⟩ rfl rfl rfl rfl rfl (by decide) (fun s mB hleB hs ho hc => ?_)
  replace hm := Mem.le_trans hm hleB
  replace hE := hE.mono hleB
  refine ⟨hleB, _, List.Perm.refl _, ?_⟩
  have hsB := hs
  have hrB := hry.mono hleB
  refine DO.run 4 rfl rfl (by kernel_rfl) rfl ?_
  refine OT.tokFo hc ho 4 (OT.append tab rTree 0 hsB ho hrB rfl rfl rfl rfl rfl rfl rfl (by simp only [List.length_cons, List.length_nil, rTree, mkR]; omega) (fun s3 mC hleC hs3 ho3 => ?_))
  refine ⟨hleC, tok s3 4 :: E.I k2 0 :: it :: L, perm_mid (l := [_, _]), ?_⟩
  refine DO.pure tab (by repeat (first|exact Calm.ret|refine Calm.then ?_)) (by kernel_rfl) [5] (by kernel_rfl) rfl ?_
  refine DO.tail ?_
  refine DOt.run 6 rfl rfl (by kernel_rfl) rfl ?_
  refine OT.storeL0 tab 1 rfl rfl rfl rfl rfl rfl rfl rfl ?_
  refine DOt.perm (L' := E.I k2 0 :: .cells b2 0 [.int .i64 51, strV [], .int .i64 0, s3.v] :: tok s3 4 :: it :: .cells b3 0 (treeC x) :: L) ((List.Perm.trans pfr3 (List.Perm.cons _ (List.Perm.trans pfr1 (List.Perm.cons _ (List.Perm.trans pfr1 (List.Perm.cons _ pfr1))))))) ?_
  refine DOt.nil (by kernel_rfl) ?_
  repeat (first|refine q6 ?_|refine q15 ?_)
  refine retQ_ret_c1 tab 1 rfl rfl rfl rfl (L' := E.I k2 0 :: it :: .cells b3 0 (treeC x) :: L) (by repeat (first|exact List.Sublist.refl _|refine List.Sublist.cons_cons _ ?_|refine List.Sublist.cons _ ?_)) ⟨_, k2, [], hT, Mem.le_trans hm hleC, hk, ⟨⟨51, [], 0, s3⟩, rfl, rfl, ⟨rfl, rfl, rfl, hs3⟩⟩, rfl⟩
end
end Go.Sep


/- PsW13 -/
set_option linter.unusedVariables false
set_option linter.unusedSimpArgs false
namespace Go.Ps
theorem tkn_t {α : Type} {c : Int} {A : Tk → Pp α} {B : Pp α} {f : F} {k : Nat} {t : Tk} (h : f k = some t) (hk : isK c f k = true) : tkn c A B f k = A t f (k + 1) := by
 unfold isK at hk
 rw [h] at hk
 simp only at hk
 unfold tkn; rw [h]; simp only [hk, cond_true]
theorem tkn_f {α : Type} {c : Int} {A : Tk → Pp α} {B : Pp α} {f : F} {k : Nat} (hk : isK c f k = false) : tkn c A B f k = B f k := by
 unfold isK at hk
 unfold tkn
 cases h : f k with
 | none => rfl
 | some t => rw [h] at hk; simp only at hk; simp only [hk, cond_false]
end Go.Ps
namespace Go.Sep
open Go.Proofs
attribute [local irreducible] TC TO OT TCallX TCall DO DOt thenQ blockQ retQ At
section
variable {mb : Mem} {E : PE} {h : Int}
theorem primary1_par {Y : Ps.Pp Tree} (hY : Par Tryz.prog mb E vTree 138 [E.v] h Y) (b1 : Nat) (hA : At mb b1 0 [E.v]) :
  Par Tryz.prog mb E vSl 170 [.pointer (some ⟨b1, 0, none⟩)] h (Ps.exprsP E.N [125] Y) := by
 refine Par.enter Tryz.func170 rfl 4 rfl fun m L k T hm0 hE hk hT hn => ?_
 replace hY := hY.up hm0
 replace hA := hA.mono hm0
 have hm : m ≤ m := Mem.le_refl _
 rw [← Ps.bind_ret (Ps.exprsP E.N [125] Y)] at hT
 repeat (first|refine q1 ?_|refine q3 ?_|refine q4 tab rfl rfl ?_|refine q5 ?_|refine q6 ?_)
 (refine TO.step rfl (OT.loadA0 tab hA rfl rfl rfl rfl rfl ?_))
 skip
 refine TO.step rfl (OT.parS (L0 := L) (exprs_par hY [125]) hm hT hn hE hk (by repeat (first|exact Bad.ret|refine Bad.then ?_)) hm (by repeat (exact List.Sublist.refl _)) rfl rfl rfl rfl rfl rfl goes166 (fun x m2 a k2 hT hm hE hlex hk hrx hlx => ?_))
 repeat (first|refine q4 tab rfl rfl ?_|refine q5 ?_|refine q6 ?_|refine q15 ?_)
 refine retQ_ret rfl (L' := E.I k2 h :: L) (by repeat (exact List.Sublist.refl _)) ⟨a, k2, [], hT, hm, hk, ⟨x, rfl, rfl, hrx, hlx⟩, rfl⟩
set_option maxHeartbeats 2000000 in
theorem primary_par {X Y Z : Ps.Pp Tree} (hd : Bool) (hX : Par Tryz.prog mb E vTree 99 [E.v] (bif hd then 1 else 0) X) (hY : Par Tryz.prog mb E vTree 138 [E.v] 0 Y) (hZ : Par Tryz.prog mb E vTree 70 [E.v] (bif hd then 1 else 0) Z) :
  Par Tryz.prog mb E vTree 161 [E.v] (bif hd then 1 else 0) (Ps.primP E.N X Z Y hd) := by
 refine Par.enter Tryz.func161 rfl 119 rfl fun m L k T hm0 hE hk hT hn => ?_
 have hm : m ≤ m := Mem.le_refl _
 have hrows := hE.rows
 unfold Ps.primP at hT
 generalize hh : (bif hd then (1 : Int) else 0) = h at hX hZ ⊢
 repeat (first|refine q1 ?_|refine q3 ?_)
 refine TO.step rfl (OT.box rfl rfl rfl rfl rfl (fun b1 => ?_))
 refine TO.freeze fun m1 hle1 hA => ?_
 replace hm : m ≤ m1 := hle1
 replace hE := hE.mono hle1
 replace hX := hX.up (Mem.le_trans hm0 hle1)
 replace hY := hY.up (Mem.le_trans hm0 hle1)
 replace hZ := hZ.up (Mem.le_trans hm0 hle1)
 have hmm : m1 ≤ m1 := Mem.le_refl _
 have hlen := hE.rep.len
 have hfew := hE.few
 skip
 refine TO.step rfl (OT.alloc tab rfl rfl rfl rfl (fun b2 => ?_)); refine TO.perm (List.Perm.swap _ _ _) ?_
 repeat (first|refine q1 ?_|refine q2 ?_|refine q3 ?_|refine q5 ?_|refine q6 ?_)
 (refine TO.step rfl (OT.loadA0 tab hA rfl rfl rfl rfl rfl ?_))
 skip
 refine TO.step rfl (OT.call rfl rfl rfl rfl rfl rfl goes101 ((is_law 2 hE hk).x ?_));
 rintro _ _ _ ⟨rfl, rfl, rfl⟩
 repeat (first|refine q4 tab rfl rfl ?_|refine q5 ?_|refine q6 ?_)
 cases hb : Ps.isK 2 E.f k with
 | true =>
  have hlt := PE.isK_lt hb
  have hx : E.toks[k]? = some E.toks[k] := List.getElem?_eq_getElem hlt
  rw [Ps.tkn_t (PE.f_some hlt) hb] at hT
  repeat (first|refine q1 ?_|refine q3 ?_|refine q16 rfl ?_)
  (refine TO.step rfl (OT.loadA0 tab hA rfl rfl rfl rfl rfl ?_))
  repeat (refine q4 tab rfl rfl ?_)
  (refine qs rfl (ql tab 0 rfl rfl rfl rfl rfl rfl ?_))
  refine TO.step rfl (OT.arith (r' := ((k + 1 : Nat) : Int)) rfl rfl rfl rfl rfl rfl rfl (by omega) ?_)
  repeat (refine q4 tab rfl rfl ?_)
  refine TO.step rfl (OT.storeL (k := 2) tab 0 rfl rfl rfl rfl rfl rfl rfl rfl ?_)
  repeat (first|refine q1 ?_|refine q5 ?_|refine q6 ?_)
  refine TC.draw [13] mixed 14 rfl [E.I (k + 1) h, .cells b2 0 [.int .i64 0, strV [], .int .i64 0, .slice none 0 0]] L (by first | exact List.Perm.refl _ | (rw [List.append_nil]; exact List.Perm.refl _)) ?_
  (refine DO.loadA (k := 0) tab 0 hA (by repeat (first|exact Calm.ret|refine Calm.then ?_|refine Calm.block ?_)) (by kernel_rfl) (by kernel_rfl) rfl rfl rfl rfl rfl rfl rfl ?_)
  refine DO.pure tab (by repeat (first|exact Calm.ret|refine Calm.then ?_|refine Calm.block ?_)) (by kernel_rfl) [1, 2] (by kernel_rfl) rfl ?_
  (refine DO.loadL tab 3 0 (by repeat (first|exact Calm.ret|refine Calm.then ?_|refine Calm.block ?_)) (by kernel_rfl) (by kernel_rfl) rfl rfl rfl rfl rfl rfl rfl rfl ?_)
  (refine DO.loadA (k := 0) tab 4 hA (by repeat (first|exact Calm.ret|refine Calm.then ?_|refine Calm.block ?_)) (by kernel_rfl) (by kernel_rfl) rfl rfl rfl rfl rfl rfl rfl ?_)
  refine DO.pure tab (by repeat (first|exact Calm.ret|refine Calm.then ?_|refine Calm.block ?_)) (by kernel_rfl) [5, 6] (by kernel_rfl) rfl ?_
  (refine DO.loadL tab 7 0 (by repeat (first|exact Calm.ret|refine Calm.then ?_|refine Calm.block ?_)) (by kernel_rfl) (by kernel_rfl) rfl rfl rfl rfl rfl rfl rfl rfl ?_)
  refine DO.arith 8 (r' := ((k : Nat) : Int)) (by repeat (first|exact Calm.ret|refine Calm.then ?_|refine Calm.block ?_)) (by kernel_rfl) (by kernel_rfl) rfl rfl rfl rfl rfl rfl rfl rfl (by first | rfl | omega | (simp only; omega)) (by omega) ?_
  refine DO.index tab rTok 9 k hE.rep (by repeat (first|exact Calm.ret|refine Calm.then ?_|refine Calm.block ?_)) (by kernel_rfl) (by kernel_rfl) rfl rfl rfl rfl rfl rfl rfl (by first | rfl | omega) rfl hx ?_
  rintro b i hd hr hA2; obtain rfl := (show hd = E.toks[k] from hr)
  refine DO.pure tab (by repeat (first|exact Calm.ret|refine Calm.then ?_|refine Calm.block ?_)) (by kernel_rfl) [10] (by kernel_rfl) rfl ?_
  (refine DO.loadA tab 11 hA2 (by repeat (first|exact Calm.ret|refine Calm.then ?_|refine Calm.block ?_)) (by kernel_rfl) (by kernel_rfl) rfl rfl rfl rfl rfl rfl rfl ?_)
  refine DO.pure tab (by repeat (first|exact Calm.ret|refine Calm.then ?_|refine Calm.block ?_)) (by kernel_rfl) [12] (by kernel_rfl) rfl ?_
  refine DO.tail ?_
  refine DOt.run 13 rfl rfl (by kernel_rfl) rfl ?_
  refine OT.storeL0 tab 1 rfl rfl rfl rfl rfl rfl rfl rfl ?_
  refine DOt.nil (by kernel_rfl) ?_
  rotate_left 1
  repeat (first|refine q6 ?_|refine q8 ?_|refine q9 ?_|refine q15 ?_)
  refine retQ_ret_c1 tab 1 rfl rfl rfl rfl (L' := E.I (k + 1) h :: L) (by repeat (first|exact List.Sublist.refl _|refine List.Sublist.cons_cons _ ?_|refine List.Sublist.cons _ ?_)) ⟨_, k + 1, [], hT, hm, hlt, ⟨⟨40, [], (E.toks[k]).num, ⟨none, 0, 0⟩⟩, rfl, rfl, ⟨rfl, rfl, rfl, SlRep.nil _ _⟩⟩, rfl⟩
 | false =>
 rw [Ps.tkn_f hb] at hT
 repeat (first|refine q1 ?_|refine q3 ?_|refine q17 rfl ?_)
 (refine TO.step rfl (OT.loadA0 tab hA rfl rfl rfl rfl rfl ?_))
 skip
 refine TO.step rfl (OT.call rfl rfl rfl rfl rfl rfl goes101 ((is_law 3 hE hk).x ?_));
 rintro _ _ _ ⟨rfl, rfl, rfl⟩
 repeat (first|refine q4 tab rfl rfl ?_|refine q5 ?_|refine q6 ?_)
 cases hb : Ps.isK 3 E.f k with
 | true =>
  have hlt := PE.isK_lt hb
  have hx : E.toks[k]? = some E.toks[k] := List.getElem?_eq_getElem hlt
  rw [Ps.tkn_t (PE.f_some hlt) hb] at hT
  repeat (first|refine q1 ?_|refine q3 ?_|refine q16 rfl ?_)
  (refine TO.step rfl (OT.loadA0 tab hA rfl rfl rfl rfl rfl ?_))
  repeat (refine q4 tab rfl rfl ?_)
  (refine qs rfl (ql tab 0 rfl rfl rfl rfl rfl rfl ?_))
  refine TO.step rfl (OT.arith (r' := ((k + 1 : Nat) : Int)) rfl rfl rfl rfl rfl rfl rfl (by omega) ?_)
  repeat (refine q4 tab rfl rfl ?_)
  refine TO.step rfl (OT.storeL (k := 2) tab 0 rfl rfl rfl rfl rfl rfl rfl rfl ?_)
  repeat (first|refine q1 ?_|refine q5 ?_|refine q6 ?_)
  refine TC.draw [13] mixed 14 rfl [E.I (k + 1) h, .cells b2 0 [.int .i64 0, strV [], .int .i64 0, .slice none 0 0]] L (by first | exact List.Perm.refl _ | (rw [List.append_nil]; exact List.Perm.refl _)) ?_
  (refine DO.loadA (k := 0) tab 0 hA (by repeat (first|exact Calm.ret|refine Calm.then ?_|refine Calm.block ?_)) (by kernel_rfl) (by kernel_rfl) rfl rfl rfl rfl rfl rfl rfl ?_)
  refine DO.pure tab (by repeat (first|exact Calm.ret|refine Calm.then ?_|refine Calm.block ?_)) (by kernel_rfl) [1, 2] (by kernel_rfl) rfl ?_
  (refine DO.loadL tab 3 0 (by repeat (first|exact Calm.ret|refine Calm.then ?_|refine Calm.block ?_)) (by kernel_rfl) (by kernel_rfl) rfl rfl rfl rfl rfl rfl rfl rfl ?_)
  (refine DO.loadA (k := 0) tab 4 hA (by repeat (first|exact Calm.ret|refine Calm.then ?_|refine Calm.block ?_)) (by kernel_rfl) (by kernel_rfl) rfl rfl rfl rfl rfl rfl rfl ?_)
  refine DO.pure tab (by repeat (first|exact Calm.ret|refine Calm.then ?_|refine Calm.block ?_)) (by kernel_rfl) [5, 6] (by kernel_rfl) rfl ?_
  (refine DO.loadL tab 7 0 (by repeat (first|exact Calm.ret|refine Calm.then ?_|refine Calm.block ?_)) (by kernel_rfl) (by kernel_rfl) rfl rfl rfl rfl rfl rfl rfl rfl ?_)
  refine DO.arith 8 (r' := ((k : Nat) : Int)) (by repeat (first|exact Calm.ret|refine Calm.then ?_|refine Calm.block ?_)) (by kernel_rfl) (by kernel_rfl) rfl rfl rfl rfl rfl rfl rfl rfl (by first | rfl | omega | (simp only; omega)) (by omega) ?_
  refine DO.index tab rTok 9 k hE.rep (by repeat (first|exact Calm.ret|refine Calm.then ?_|refine Calm.block ?_)) (by kernel_rfl) (by kernel_rfl) rfl rfl rfl rfl rfl rfl rfl (by first | rfl | omega) rfl hx ?_
  rintro b i hd hr hA2; obtain rfl := (show hd = E.toks[k] from hr)
  refine DO.pure tab (by repeat (first|exact Calm.ret|refine Calm.then ?_|refine Calm.block ?_)) (by kernel_rfl) [10] (by kernel_rfl) rfl ?_
  (refine DO.loadA tab 11 hA2 (by repeat (first|exact Calm.ret|refine Calm.then ?_|refine Calm.block ?_)) (by kernel_rfl) (by kernel_rfl) rfl rfl rfl rfl rfl rfl rfl ?_)
  refine DO.pure tab (by repeat (first|exact Calm.ret|refine Calm.then ?_|refine Calm.block ?_)) (by kernel_rfl) [12] (by kernel_rfl) rfl ?_
  refine DO.tail ?_
  refine DOt.run 13 rfl rfl (by kernel_rfl) rfl ?_
  refine OT.storeL0 tab 1 rfl rfl rfl rfl rfl rfl rfl rfl ?_
  refine DOt.nil (by kernel_rfl) ?_
  rotate_left 1
  repeat (first|refine q6 ?_|refine q8 ?_|refine q9 ?_|refine q15 ?_)
  refine retQ_ret_c1 tab 1 rfl rfl rfl rfl (L' := E.I (k + 1) h :: L) (by repeat (first|exact List.Sublist.refl _|refine List.Sublist.cons_cons _ ?_|refine List.Sublist.cons _ ?_)) ⟨_, k + 1, [], hT, hm, hlt, ⟨⟨41, (E.toks[k]).text, 0, ⟨none, 0, 0⟩⟩, rfl, rfl, ⟨rfl, rfl, rfl, SlRep.nil _ _⟩⟩, rfl⟩
 | false =>
 rw [Ps.tkn_f hb] at hT
 repeat (first|refine q1 ?_|refine q3 ?_|refine q17 rfl ?_)
 (refine TO.step rfl (OT.loadA0 tab hA rfl rfl rfl rfl rfl ?_))
 skip
 refine TO.step rfl (OT.takeP hT hE hk rfl rfl rfl rfl rfl rfl (fun hT hk => ?_) (fun hT => ?_))
 ·repeat (first|refine q1 ?_|refine q3 ?_|refine q4 tab rfl rfl ?_|refine q5 ?_|refine q6 ?_|refine q16 rfl ?_)
  (refine TO.step rfl (OT.storeL0 tab 1 rfl rfl rfl rfl rfl rfl rfl rfl ?_))
  repeat (first|refine q5 ?_|refine q6 ?_|refine q8 ?_|refine q9 ?_|refine q15 ?_)
  refine retQ_ret_c1 tab 1 rfl rfl rfl rfl (L' := E.I (k + 1) h :: L) (by repeat (first|exact List.Sublist.refl _|refine List.Sublist.cons_cons _ ?_|refine List.Sublist.cons _ ?_)) ⟨_, k + 1, [], hT, hm, hk, ⟨⟨42, [], 1, ⟨none, 0, 0⟩⟩, rfl, rfl, ⟨rfl, rfl, rfl, SlRep.nil _ _⟩⟩, rfl⟩
 repeat (first|refine q1 ?_|refine q3 ?_|refine q4 tab rfl rfl ?_|refine q5 ?_|refine q6 ?_|refine q17 rfl ?_)
 (refine TO.step rfl (OT.loadA0 tab hA rfl rfl rfl rfl rfl ?_))
 skip
 refine TO.step rfl (OT.takeP hT hE hk rfl rfl rfl rfl rfl rfl (fun hT hk => ?_) (fun hT => ?_))
 ·repeat (first|refine q1 ?_|refine q3 ?_|refine q4 tab rfl rfl ?_|refine q5 ?_|refine q6 ?_|refine q16 rfl ?_)
  (refine TO.step rfl (OT.storeL0 tab 1 rfl rfl rfl rfl rfl rfl rfl rfl ?_))
  repeat (first|refine q5 ?_|refine q6 ?_|refine q8 ?_|refine q9 ?_|refine q15 ?_)
  refine retQ_ret_c1 tab 1 rfl rfl rfl rfl (L' := E.I (k + 1) h :: L) (by repeat (first|exact List.Sublist.refl _|refine List.Sublist.cons_cons _ ?_|refine List.Sublist.cons _ ?_)) ⟨_, k + 1, [], hT, hm, hk, ⟨⟨42, [], 0, ⟨none, 0, 0⟩⟩, rfl, rfl, ⟨rfl, rfl, rfl, SlRep.nil _ _⟩⟩, rfl⟩
 repeat (first|refine q1 ?_|refine q3 ?_|refine q4 tab rfl rfl ?_|refine q5 ?_|refine q6 ?_|refine q17 rfl ?_)
 (refine TO.step rfl (OT.loadA0 tab hA rfl rfl rfl rfl rfl ?_))
 skip
 refine TO.step rfl (OT.takeP hT hE hk rfl rfl rfl rfl rfl rfl (fun hT hk => ?_) (fun hT => ?_))
 ·repeat (first|refine q1 ?_|refine q3 ?_|refine q4 tab rfl rfl ?_|refine q5 ?_|refine q6 ?_|refine q16 rfl ?_)
  (refine TO.step rfl (OT.storeL0 tab 1 rfl rfl rfl rfl rfl rfl rfl rfl ?_))
  repeat (first|refine q5 ?_|refine q6 ?_|refine q8 ?_|refine q9 ?_|refine q15 ?_)
  refine retQ_ret_c1 tab 1 rfl rfl rfl rfl (L' := E.I (k + 1) h :: L) (by repeat (first|exact List.Sublist.refl _|refine List.Sublist.cons_cons _ ?_|refine List.Sublist.cons _ ?_)) ⟨_, k + 1, [], hT, hm, hk, ⟨⟨43, [], 0, ⟨none, 0, 0⟩⟩, rfl, rfl, ⟨rfl, rfl, rfl, SlRep.nil _ _⟩⟩, rfl⟩
 repeat (first|refine q1 ?_|refine q3 ?_|refine q4 tab rfl rfl ?_|refine q5 ?_|refine q6 ?_|refine q17 rfl ?_)
 (refine TO.step rfl (OT.loadA0 tab hA rfl rfl rfl rfl rfl ?_))
 skip
 refine TO.step rfl (OT.takeP hT hE hk rfl rfl rfl rfl rfl rfl (fun hT hk => ?_) (fun hT => ?_))
 ·repeat (first|refine q1 ?_|refine q3 ?_|refine q4 tab rfl rfl ?_|refine q5 ?_|refine q6 ?_|refine q16 rfl ?_)
  (refine TO.step rfl (OT.loadA0 tab hA rfl rfl rfl rfl rfl ?_))
  (refine TO.step rfl (OT.loadA0 tab hA rfl rfl rfl rfl rfl ?_))
  repeat (refine q4 tab rfl rfl ?_)
  refine TO.step rfl (OT.parTA (L0 := L) (inside_at (first := [E.v]) (cap := []) rfl goes138 hE (fun b => hY.at _ hmm hE hk)) hT hn hE (by repeat (first|exact Bad.ret|refine Bad.then ?_|refine Bad.block ?_)) hm (by repeat (first|exact List.Sublist.refl _|refine List.Sublist.cons _ ?_)) rfl rfl rfl rfl rfl rfl goes162 (fun x m2 a k2 hT hm hE hle hk hrx => ?_))
  replace hA := hA.mono hle
  skip
  refine TO.step rfl (OT.alloc tab rfl rfl rfl rfl (fun b3 => ?_)); refine TO.perm (List.Perm.swap _ _ _) ?_
  skip
  (refine TO.step rfl (OT.storeL0 tab 1 rfl rfl rfl rfl rfl rfl rfl rfl ?_))
  repeat (first|refine q1 ?_|refine q3 ?_|refine q5 ?_|refine q6 ?_)
  (refine TO.step rfl (OT.loadA0 tab hA rfl rfl rfl rfl rfl ?_))
  skip
  refine TO.step rfl (OT.needP (L0 := L) hT hE hk (by repeat (first|exact Bad.ret|refine Bad.then ?_|refine Bad.block ?_)) hm (by repeat (first|exact List.Sublist.refl _|refine List.Sublist.cons _ ?_)) rfl rfl rfl rfl rfl rfl (fun hT hk => ?_))
  repeat (first|refine q1 ?_|refine q3 ?_|refine q5 ?_|refine q6 ?_)
  (refine qs rfl (qz tab 1 rfl rfl rfl rfl rfl rfl ?_))
  skip
  refine TO.step rfl (OT.storeL0 tab 2 rfl rfl rfl rfl rfl rfl rfl rfl ?_)
  repeat (first|refine q5 ?_|refine q6 ?_|refine q8 ?_|refine q9 ?_|refine q15 ?_)
  refine retQ_ret_c1 tab 2 rfl rfl rfl rfl (L' := E.I (k2 + 1) h :: L) (by repeat (first|exact List.Sublist.refl _|refine List.Sublist.cons_cons _ ?_|refine List.Sublist.cons _ ?_)) ⟨_, k2 + 1, [], hT, hm, hk, ⟨x, rfl, rfl, hrx⟩, rfl⟩
 repeat (first|refine q1 ?_|refine q3 ?_|refine q4 tab rfl rfl ?_|refine q5 ?_|refine q6 ?_|refine q17 rfl ?_)
 (refine TO.step rfl (OT.loadA0 tab hA rfl rfl rfl rfl rfl ?_))
 skip
 refine TO.step rfl (OT.takeP hT hE hk rfl rfl rfl rfl rfl rfl (fun hT hk => ?_) (fun hT => ?_))
 ·repeat (first|refine q1 ?_|refine q3 ?_|refine q4 tab rfl rfl ?_|refine q5 ?_|refine q6 ?_|refine q16 rfl ?_)
  (refine TO.step rfl (OT.loadA0 tab hA rfl rfl rfl rfl rfl ?_))
  skip
  refine TO.step rfl (OT.needP (L0 := L) hT hE hk (by repeat (first|exact Bad.ret|refine Bad.then ?_|refine Bad.block ?_)) hm (by repeat (first|exact List.Sublist.refl _|refine List.Sublist.cons _ ?_)) rfl rfl rfl rfl rfl rfl (fun hT hk => ?_))
  repeat (first|refine q1 ?_|refine q3 ?_|refine q5 ?_|refine q6 ?_)
  (refine TO.step rfl (OT.loadA0 tab hA rfl rfl rfl rfl rfl ?_))
  skip
  refine TO.step rfl (OT.parT (L0 := L) hX hmm hT hn hE hk (by repeat (first|exact Bad.ret|refine Bad.then ?_|refine Bad.block ?_)) hm (by repeat (first|exact List.Sublist.refl _|refine List.Sublist.cons _ ?_)) rfl rfl rfl rfl rfl rfl goes99 (fun x m2 a k2 hT hm hE hle hk hrx => ?_))
  refine TO.step rfl (OT.litR tab rTree (hs := [x]) (l := [a]) ⟨rTree_iff.2 hrx, trivial⟩ rfl rfl rfl rfl rfl (by decide) (fun s m3 hle3 hs ho hc => ?_))
  replace hA := hA.mono (Mem.le_trans hle hle3)
  replace hm := Mem.le_trans hm hle3
  replace hE := hE.mono hle3
  replace hY := hY.up (Mem.le_trans hle hle3)
  refine TO.tokFo hc ho 4 ?_
  refine TO.perm (List.Perm.swap _ _ _) ?_
  repeat (refine q4 tab rfl rfl ?_)
  refine TO.step rfl (OT.alloc tab rfl rfl rfl rfl (fun b4 => ?_)); refine TO.perm (List.Perm.swap _ _ _) ?_
  skip
  (refine TO.step rfl (OT.storeL0 tab 1 rfl rfl rfl rfl rfl rfl rfl rfl ?_))
  repeat (first|refine q1 ?_|refine q3 ?_|refine q5 ?_|refine q6 ?_)
  (refine TO.step rfl (OT.loadA0 tab hA rfl rfl rfl rfl rfl ?_))
  skip
  refine TO.step rfl (OT.needP (L0 := L) hT hE hk (by repeat (first|exact Bad.ret|refine Bad.then ?_|refine Bad.block ?_)) hm (by repeat (first|exact List.Sublist.refl _|refine List.Sublist.cons _ ?_)) rfl rfl rfl rfl rfl rfl (fun hT hk => ?_))
  repeat (first|refine q1 ?_|refine q5 ?_|refine q6 ?_)
  refine TC.draw [7] mixed 8 rfl [.cells b4 0 [.int .i64 46, strV [], .int .i64 0, s.v]] (E.I (k2 + 1) h :: tok s 4 :: .cells b2 0 [.int .i64 0, strV [], .int .i64 0, .slice none 0 0] :: L) (List.Perm.swap _ _ _) ?_
  refine DO.pure tab (by repeat (first|exact Calm.ret|refine Calm.then ?_|refine Calm.block ?_)) (by kernel_rfl) [0] (by kernel_rfl) rfl ?_
  (refine DO.loadL tab 1 0 (by repeat (first|exact Calm.ret|refine Calm.then ?_|refine Calm.block ?_)) (by kernel_rfl) (by kernel_rfl) rfl rfl rfl rfl rfl rfl rfl rfl ?_)
  (refine DO.loadA (k := 0) tab 2 hA (by repeat (first|exact Calm.ret|refine Calm.then ?_|refine Calm.block ?_)) (by kernel_rfl) (by kernel_rfl) rfl rfl rfl rfl rfl rfl rfl ?_)
  refine DO.pure tab (by repeat (first|exact Calm.ret|refine Calm.then ?_|refine Calm.block ?_)) (by kernel_rfl) [3] (by kernel_rfl) rfl ?_
  refine DO.run 4 rfl rfl (by kernel_rfl) rfl ?_
  refine OT.perm (List.Perm.swap _ _ _) (OT.parSA (L0 := L) (insideS_at (first := []) (cap := [.pointer (some ⟨b1, 0, none⟩)]) rfl goes170 hE ((primary1_par hY b1 hA).at _ (Mem.le_refl _) hE hk)) hT hn hE (by repeat (first|exact Bad.ret|refine Bad.then ?_|refine Bad.block ?_)) hm (by repeat (first|exact List.Sublist.refl _|refine List.Sublist.cons _ ?_)) rfl rfl rfl rfl rfl rfl goes169 (fun y mA l k3 hT hm hE hleA hk hry hly => ?_)); refine ⟨hleA, E.I k3 h :: tok s 4 :: .cells b2 0 [.int .i64 0, strV [], .int .i64 0, .slice none 0 0] :: L, List.Perm.swap _ _ _, ?_⟩
  refine DO.run 5 rfl rfl (by kernel_rfl) rfl ?_
  refine OT.append tab rTree 2 (hs.mono hleA) ho hry rfl rfl rfl rfl rfl rfl rfl (by simp only [List.length_cons, List.length_nil, rTree, mkR]; omega) (fun s3 mC hleC hs3 ho3 => ?_); refine ⟨hleC, E.I k3 h :: tok s3 4 :: .cells b2 0 [.int .i64 0, strV [], .int .i64 0, .slice none 0 0] :: L, List.Perm.refl _, ?_⟩
  refine DO.pure tab (by repeat (first|exact Calm.ret|refine Calm.then ?_|refine Calm.block ?_)) (by kernel_rfl) [6] (by kernel_rfl) rfl ?_
  refine DO.tail ?_
  refine DOt.run 7 rfl rfl (by kernel_rfl) rfl ?_
  refine OT.storeL (k := 3) tab 0 rfl rfl rfl rfl rfl rfl rfl rfl ?_; refine DOt.perm (List.Perm.swap _ _ _) ?_
  refine DOt.nil (by kernel_rfl) ?_
  rotate_left 1
  repeat (first|refine q1 ?_|refine q3 ?_|refine q6 ?_)
  (refine qs rfl (qz tab 1 rfl rfl rfl rfl rfl rfl ?_))
  skip
  refine TO.step rfl (OT.storeL0 tab 3 rfl rfl rfl rfl rfl rfl rfl rfl ?_)
  repeat (first|refine q5 ?_|refine q6 ?_|refine q8 ?_|refine q9 ?_|refine q15 ?_)
  refine retQ_ret_c1 tab 3 rfl rfl rfl rfl (L' := E.I k3 h :: L) (by repeat (first|exact List.Sublist.refl _|refine List.Sublist.cons_cons _ ?_|refine List.Sublist.cons _ ?_)) ⟨_, k3, [], hT, Mem.le_trans hm hleC, hk, ⟨⟨46, [], 0, s3⟩, rfl, rfl, ⟨rfl, rfl, rfl, hs3⟩⟩, rfl⟩
 repeat (first|refine q1 ?_|refine q3 ?_|refine q4 tab rfl rfl ?_|refine q5 ?_|refine q6 ?_|refine q17 rfl ?_)
 (refine TO.step rfl (OT.loadA0 tab hA rfl rfl rfl rfl rfl ?_))
 skip
 refine TO.step rfl (OT.takeP hT hE hk rfl rfl rfl rfl rfl rfl (fun hT hk => ?_) (fun hT => ?_))
 ·repeat (first|refine q1 ?_|refine q4 tab rfl rfl ?_|refine q5 ?_|refine q6 ?_|refine q16 rfl ?_)
  refine TC.draw [6] mixed 7 rfl [.cells b2 0 [.int .i64 0, strV [], .int .i64 0, .slice none 0 0]] (E.I (k + 1) h :: L) (List.Perm.swap _ _ _) ?_
  (refine DO.loadA (k := 0) tab 0 hA (by repeat (first|exact Calm.ret|refine Calm.then ?_|refine Calm.block ?_)) (by kernel_rfl) (by kernel_rfl) rfl rfl rfl rfl rfl rfl rfl ?_)
  (refine DO.loadA (k := 0) tab 2 hA (by repeat (first|exact Calm.ret|refine Calm.then ?_|refine Calm.block ?_)) (by kernel_rfl) (by kernel_rfl) rfl rfl rfl rfl rfl rfl rfl ?_)
  refine DO.run 1 rfl rfl (by kernel_rfl) rfl ?_
  refine OT.perm (List.Perm.swap _ _ _) (OT.parT (L0 := L) (psig_par hX) hmm hT hn hE hk (by repeat (first|exact Bad.ret|refine Bad.then ?_|refine Bad.block ?_)) hm (by repeat (first|exact List.Sublist.refl _|refine List.Sublist.cons _ ?_)) rfl rfl rfl rfl rfl rfl goes69 (fun x mA a k2 hT hm hE hleA hk hrx => ?_)); refine ⟨hleA, E.I k2 h :: L, List.Perm.swap _ _ _, ?_⟩
  refine DO.run 3 rfl rfl (by kernel_rfl) rfl ?_
  refine OT.perm (List.Perm.swap _ _ _) (OT.parT (L0 := L) hZ hleA hT hn hE hk (by repeat (first|exact Bad.ret|refine Bad.then ?_|refine Bad.block ?_)) hm (by repeat (first|exact List.Sublist.refl _|refine List.Sublist.cons _ ?_)) rfl rfl rfl rfl rfl rfl goes70 (fun y mB b k3 hT hm hE hleB hk hry => ?_)); refine ⟨hleB, E.I k3 h :: L, List.Perm.swap _ _ _, ?_⟩
  refine DO.run 4 rfl rfl (by kernel_rfl) rfl ?_
  refine OT.litR tab rTree (hs := [x, y]) (l := [a, b]) ⟨rTree_iff.2 (hrx.mono hleB), rTree_iff.2 hry, trivial⟩ rfl rfl rfl rfl rfl (by decide) (fun s mC hleC hs ho hc => ?_); refine ⟨hleC, _, List.Perm.refl _, ?_⟩
  refine DO.pure tab (by repeat (first|exact Calm.ret|refine Calm.then ?_|refine Calm.block ?_)) (by kernel_rfl) [5] (by kernel_rfl) rfl ?_
  refine DO.tail ?_
  refine DOt.run 6 rfl rfl (by kernel_rfl) rfl ?_
  refine OT.storeL0 tab 0 rfl rfl rfl rfl rfl rfl rfl rfl ?_; refine DOt.perm (List.Perm.swap _ _ _) ?_
  refine DOt.nil (by kernel_rfl) ?_
  rotate_left 1
  repeat (first|refine q6 ?_|refine q8 ?_|refine q9 ?_|refine q15 ?_)
  refine retQ_ret_c1 tab 1 rfl rfl rfl rfl (L' := E.I k3 h :: L) (by repeat (first|exact List.Sublist.refl _|refine List.Sublist.cons_cons _ ?_|refine List.Sublist.cons _ ?_)) ⟨_, k3, [], hT, Mem.le_trans hm hleC, hk, ⟨⟨47, [], 0, s⟩, rfl, rfl, ⟨rfl, rfl, rfl, hs⟩⟩, rfl⟩
 repeat (first|refine q1 ?_|refine q3 ?_|refine q4 tab rfl rfl ?_|refine q5 ?_|refine q6 ?_|refine q7 ?_|refine q13 ?_|refine q17 rfl ?_)
 (refine TO.step rfl (OT.loadA0 tab hA rfl rfl rfl rfl rfl ?_))
 skip
 refine TO.step rfl (OT.nameP (L0 := L) hT hE hk (by repeat (first|exact Bad.ret|refine Bad.then ?_)) hm (by repeat (first|exact List.Sublist.refl _|refine List.Sublist.cons _ ?_)) rfl rfl rfl rfl rfl rfl (fun nm hT hk => ?_))
 repeat (first|refine q1 ?_|refine q3 ?_|refine q4 tab rfl rfl ?_|refine q5 ?_|refine q6 ?_)
 (refine TO.step rfl (OT.loadA0 tab hA rfl rfl rfl rfl rfl ?_))
 repeat (refine q4 tab rfl rfl ?_)
 (refine qs rfl (ql tab 0 rfl rfl rfl rfl rfl rfl ?_))
 cases hd with
 | true =>
  obtain rfl := (show (1 : Int) = h from hh)
  repeat (first|refine q1 ?_|refine q3 ?_|refine q4 tab rfl rfl ?_|refine q5 ?_|refine q6 ?_|refine q13 ?_|refine q17 rfl ?_)
  (refine TO.step rfl (OT.storeL0 tab 1 rfl rfl rfl rfl rfl rfl rfl rfl ?_))
  repeat (first|refine q5 ?_|refine q6 ?_|refine q15 ?_)
  refine retQ_ret_c1 tab 1 rfl rfl rfl rfl (L' := E.I (k + 1) 1 :: L) (by repeat (first|exact List.Sublist.refl _|refine List.Sublist.cons_cons _ ?_|refine List.Sublist.cons _ ?_)) ⟨_, k + 1, [], hT, hm, hk, ⟨⟨44, nm, 0, ⟨none, 0, 0⟩⟩, rfl, rfl, ⟨rfl, rfl, rfl, SlRep.nil _ _⟩⟩, rfl⟩
 | false =>
  obtain rfl := (show (0 : Int) = h from hh)
  replace hT : T = Ps.tok [123] (Ps.bind (Ps.exprsP E.N [125] Y) fun l => Ps.ret (.mk 45 nm 0 l)) (Ps.ret (Ps.leaf 44 nm)) E.f (k + 1) := hT
  repeat (refine q4 tab rfl rfl ?_)
  (refine TO.step rfl (OT.loadA0 tab hA rfl rfl rfl rfl rfl ?_))
  skip
  refine TO.step rfl (OT.takeP hT hE hk rfl rfl rfl rfl rfl rfl (fun hT hk => ?_) (fun hT => ?_))
  ·repeat (first|refine q1 ?_|refine q3 ?_|refine q4 tab rfl rfl ?_|refine q5 ?_|refine q6 ?_|refine q16 rfl ?_)
   (refine TO.step rfl (OT.loadA0 tab hA rfl rfl rfl rfl rfl ?_))
   skip
   refine TO.step rfl (OT.parS (L0 := L) (exprs_par hY [125]) hmm hT hn hE hk (by repeat (first|exact Bad.ret|refine Bad.then ?_)) hm (by repeat (first|exact List.Sublist.refl _|refine List.Sublist.cons _ ?_)) rfl rfl rfl rfl rfl rfl goes166 (fun y mA l k3 hT hm hE hleA hk hry hly => ?_))
   repeat (refine q4 tab rfl rfl ?_)
   (refine TO.step rfl (OT.storeL0 tab 1 rfl rfl rfl rfl rfl rfl rfl rfl ?_))
   repeat (first|refine q5 ?_|refine q6 ?_|refine q8 ?_|refine q15 ?_)
   refine retQ_ret_c1 tab 1 rfl rfl rfl rfl (L' := E.I k3 0 :: L) (by repeat (first|exact List.Sublist.refl _|refine List.Sublist.cons_cons _ ?_|refine List.Sublist.cons _ ?_)) ⟨_, k3, [], hT, hm, hk, ⟨⟨45, nm, 0, y⟩, rfl, rfl, ⟨rfl, rfl, rfl, hry⟩⟩, rfl⟩
  ·repeat (first|refine q1 ?_|refine q3 ?_|refine q4 tab rfl rfl ?_|refine q5 ?_|refine q6 ?_|refine q13 ?_|refine q17 rfl ?_)
   (refine TO.step rfl (OT.storeL0 tab 1 rfl rfl rfl rfl rfl rfl rfl rfl ?_))
   repeat (first|refine q5 ?_|refine q6 ?_|refine q15 ?_)
   refine retQ_ret_c1 tab 1 rfl rfl rfl rfl (L' := E.I (k + 1) 0 :: L) (by repeat (first|exact List.Sublist.refl _|refine List.Sublist.cons_cons _ ?_|refine List.Sublist.cons _ ?_)) ⟨_, k + 1, [], hT, hm, hk, ⟨⟨44, nm, 0, ⟨none, 0, 0⟩⟩, rfl, rfl, ⟨rfl, rfl, rfl, SlRep.nil _ _⟩⟩, rfl⟩
end
end Go.Sep


/- PsW14 -/
set_option linter.unusedVariables false
set_option linter.unusedSimpArgs false
namespace Go.Sep
open Go.Proofs
attribute [local irreducible] TC TO OT TCallX TCall DO DOt thenQ blockQ retQ At
section
variable {mb : Mem} {E : PE} {h : Int}
set_option maxHeartbeats 2000000 in
theorem post_par {X Y : Ps.Pp Tree} (hX : Par Tryz.prog mb E vTree 161 [E.v] h X) (hY : Par Tryz.prog mb E vTree 138 [E.v] 0 Y) :
  Par Tryz.prog mb E vTree 155 [E.v] h (Ps.bind X (Ps.postP E.N Y E.N)) := by
 refine Par.enter Tryz.func155 rfl 27 rfl fun m L k T hm0 hE hk hT hn => ?_
 have hm : m ≤ m := Mem.le_refl _
 have hrows := hE.rows
 repeat (first|refine q1 ?_|refine q3 ?_)
 refine TO.step rfl (OT.box rfl rfl rfl rfl rfl (fun b1 => ?_))
 refine TO.freeze fun m1 hle1 hA => ?_
 replace hm : m ≤ m1 := hle1
 replace hE := hE.mono hle1
 replace hX := hX.up (Mem.le_trans hm0 hle1)
 replace hY := hY.up (Mem.le_trans hm0 hle1)
 skip
 refine TO.step rfl (OT.alloc tab rfl rfl rfl rfl (fun b2 => ?_)); refine TO.perm (List.Perm.swap _ _ _) ?_
 repeat (first|refine q1 ?_|refine q3 ?_|refine q5 ?_|refine q6 ?_)
 (refine TO.step rfl (OT.loadA0 tab hA rfl rfl rfl rfl rfl ?_))
 skip
 refine TO.step rfl (OT.parT (L0 := L) hX (Mem.le_refl _) hT hn hE hk (by repeat (first|exact Bad.ret|refine Bad.then ?_)) hm (by repeat (first|exact List.Sublist.refl _|refine List.Sublist.cons _ ?_)) rfl rfl rfl rfl rfl rfl goes161 (fun x m2 a k2 hT hm hE hle2 hk hrx => ?_))
 skip
 refine TO.step rfl (OT.alloc tab rfl rfl rfl rfl (fun b3 => ?_)); refine TO.perm (List.Perm.swap _ _ _) ?_
 skip
 (refine TO.step rfl (OT.storeL0 tab 1 rfl rfl rfl rfl rfl rfl rfl rfl ?_))
 repeat (first|refine q2 ?_|refine q5 ?_|refine q6 ?_)
 refine TC.loopK (ι := HTree × Mem × Tree × Nat × Nat) [0, 1, 2, 3] rfl (fun _ => []) (fun x => x.2.1) (fun x => E.I x.2.2.2.1 h :: .cells b3 0 (treeC x.1) :: .cells b2 0 [.int .i64 0, strV [], .int .i64 0, .slice none 0 0] :: L) (fun x => m2 ≤ x.2.1 ∧ x.2.2.2.1 ≤ E.toks.length ∧ TreeRep x.2.1 x.1 x.2.2.1 ∧ T = Ps.postP E.N Y x.2.2.2.2 x.2.2.1 E.f x.2.2.2.1) (fun x => x.2.2.2.2) (x, m2, a, k2, E.N) (by repeat (exact trivial)) rfl (by repeat (exact List.Sublist.refl _)) ⟨Mem.le_refl _, hk, hrx, hT⟩ ?_
 rintro ⟨x, m3, n, k, N⟩ ⟨hm3, hk, hrx, hT⟩
 simp only at hm3 hk hrx hT
 show TC _ _ _ _ _ m3 (E.I k h :: .cells b3 0 (treeC x) :: .cells b2 0 [.int .i64 0, strV [], .int .i64 0, .slice none 0 0] :: L) _
 replace hm := Mem.le_trans hm hm3
 replace hE := hE.mono hm3
 replace hA := hA.mono (Mem.le_trans hle2 hm3)
 replace hY := hY.up (Mem.le_trans hle2 hm3)
 have hmm : m3 ≤ m3 := Mem.le_refl _
 cases N with
 | zero => exact absurd hT hn
 | succ N =>
  replace hT : T = Ps.tok [46] (Ps.name fun s => Ps.postP E.N Y N (.mk 48 s 0 [n])) (Ps.tok [91] (Ps.bind (Ps.indexP Y n) fun t => Ps.postP E.N Y N t) (Ps.tok [40] (Ps.bind (Ps.exprsP E.N [41] Y) fun l => Ps.postP E.N Y N (.mk 51 [] 0 (n :: l))) (Ps.ret n))) E.f k := hT
  repeat (first|refine q1 ?_|refine q2 ?_|refine q3 ?_)
  (refine TO.step rfl (OT.loadA0 tab hA rfl rfl rfl rfl rfl ?_))
  skip
  refine TO.step rfl (OT.takeP hT hE hk rfl rfl rfl rfl rfl rfl (fun hT hk => ?_) (fun hT => ?_))
  ·repeat (first|refine q4 tab rfl rfl ?_|refine q5 ?_|refine q6 ?_|refine q16 rfl ?_)
   refine TC.draw [5] mixed 6 rfl [.cells b3 0 (treeC x)] (E.I (k + 1) h :: .cells b2 0 [.int .i64 0, strV [], .int .i64 0, .slice none 0 0] :: L) (List.Perm.swap _ _ _) ?_
   refine DO.loadA (k := 0) tab 0 hA (by repeat (first|exact Calm.ret|refine Calm.then ?_|refine Calm.block ?_)) (by kernel_rfl) (by kernel_rfl) rfl rfl rfl rfl rfl rfl rfl ?_
   refine DO.loadL (k := 0) tab 2 0 (by repeat (first|exact Calm.ret|refine Calm.then ?_|refine Calm.block ?_)) (by kernel_rfl) (by kernel_rfl) rfl rfl rfl rfl rfl rfl rfl rfl ?_
   refine DO.fork 1 [3] (by kernel_rfl) ⟨⟨_, rfl, rfl, rfl, ?_⟩, ⟨_, rfl, rfl, rfl, ?_⟩, trivial⟩
   ·skip
    refine OT.perm (List.Perm.swap _ _ _) (OT.nameP (L0 := L) hT hE hk (by repeat (first|exact Bad.ret|refine Bad.then ?_|refine Bad.block ?_)) hm (by repeat (first|exact List.Sublist.refl _|refine List.Sublist.cons _ ?_)) rfl rfl rfl rfl rfl rfl (fun t hT hk => ?_))
    refine ⟨Mem.le_refl _, E.I (k + 1 + 1) h :: .cells b2 0 [.int .i64 0, strV [], .int .i64 0, .slice none 0 0] :: L, List.Perm.swap _ _ _, ?_⟩
    refine DO.run 3 rfl rfl (by kernel_rfl) rfl ?_
    refine OT.litR tab rTree (hs := [x]) (l := [n]) ⟨rTree_iff.2 hrx, trivial⟩ rfl rfl rfl rfl rfl (by decide) (fun s mB hleB hs ho hc => ?_)
    replace hm := Mem.le_trans hm hleB
    replace hE := hE.mono hleB
    refine ⟨hleB, _, List.Perm.refl _, ?_⟩
    refine DO.pure tab (by repeat (first|exact Calm.ret|refine Calm.then ?_|refine Calm.block ?_)) (by kernel_rfl) [4] (by kernel_rfl) rfl ?_
    refine DO.tail ?_
    refine DOt.run 5 rfl rfl (by kernel_rfl) rfl ?_
    refine OT.storeL0 tab 0 rfl rfl rfl rfl rfl rfl rfl rfl ?_
    refine DOt.perm (List.Perm.swap _ _ _) ?_
    refine DOt.nil (by kernel_rfl) ?_
    repeat (first|refine q6 ?_|refine q7 ?_)
    exact ⟨(⟨48, t, 0, s⟩, mB, .mk 48 t 0 [n], k + 1 + 1, N), (by repeat (exact trivial)), (by repeat (first|exact trivial|refine And.intro rfl ?_)), rfl, rfl, (by repeat (exact List.Sublist.refl _)), ⟨Mem.le_trans hm3 hleB, hk, ⟨rfl, rfl, rfl, hs⟩, hT⟩, by simp only; omega⟩
   ·skip
    refine OT.litR tab rTree (hs := [x]) (l := [n]) ⟨rTree_iff.2 hrx, trivial⟩ rfl rfl rfl rfl rfl (by decide) (fun s mB hleB hs ho hc => ?_)
    replace hm := Mem.le_trans hm hleB
    replace hE := hE.mono hleB
    refine ⟨hleB, _, List.Perm.refl _, ?_⟩
    refine DO.run 1 rfl rfl (by kernel_rfl) rfl ?_
    refine OT.perm (List.Perm.swap _ _ _) (OT.nameP (L0 := L) hT hE hk (by repeat (first|exact Bad.ret|refine Bad.then ?_|refine Bad.block ?_)) hm (by repeat (first|exact List.Sublist.refl _|refine List.Sublist.cons _ ?_)) rfl rfl rfl rfl rfl rfl (fun t hT hk => ?_))
    refine ⟨Mem.le_refl _, E.I (k + 1 + 1) h :: .cells b2 0 [.int .i64 0, strV [], .int .i64 0, .slice none 0 0] :: L, List.Perm.swap _ _ _, ?_⟩
    refine DO.pure tab (by repeat (first|exact Calm.ret|refine Calm.then ?_|refine Calm.block ?_)) (by kernel_rfl) [4] (by kernel_rfl) rfl ?_
    refine DO.tail ?_
    refine DOt.run 5 rfl rfl (by kernel_rfl) rfl ?_
    refine OT.storeL0 tab 0 rfl rfl rfl rfl rfl rfl rfl rfl ?_
    refine DOt.perm (List.Perm.swap _ _ _) ?_
    refine DOt.nil (by kernel_rfl) ?_
    repeat (first|refine q6 ?_|refine q7 ?_)
    exact ⟨(⟨48, t, 0, s⟩, mB, .mk 48 t 0 [n], k + 1 + 1, N), (by repeat (exact trivial)), (by repeat (first|exact trivial|refine And.intro rfl ?_)), rfl, rfl, (by repeat (exact List.Sublist.refl _)), ⟨Mem.le_trans hm3 hleB, hk, ⟨rfl, rfl, rfl, hs⟩, hT⟩, by simp only; omega⟩
  repeat (first|refine q1 ?_|refine q3 ?_|refine q4 tab rfl rfl ?_|refine q5 ?_|refine q6 ?_|refine q17 rfl ?_)
  (refine TO.step rfl (OT.loadA0 tab hA rfl rfl rfl rfl rfl ?_))
  skip
  refine TO.step rfl (OT.takeP hT hE hk rfl rfl rfl rfl rfl rfl (fun hT hk => ?_) (fun hT => ?_))
  ·repeat (first|refine q3 ?_|refine q4 tab rfl rfl ?_|refine q5 ?_|refine q6 ?_|refine q16 rfl ?_)
   (refine TO.step rfl (OT.loadA0 tab hA rfl rfl rfl rfl rfl ?_))
   repeat (refine q4 tab rfl rfl ?_)
   refine TO.step rfl (OT.parTA (L0 := L) (inside_at (first := []) (cap := [.pointer (some ⟨b1, 0, none⟩), .pointer (some ⟨b3, 0, none⟩)]) rfl goes163 hE (fun b => post1_at hY hmm hE hk hA hrx)) hT hn hE (by repeat (first|exact Bad.ret|refine Bad.then ?_|refine Bad.block ?_)) hm (by repeat (first|exact List.Sublist.refl _|refine List.Sublist.cons _ ?_)) rfl rfl rfl rfl rfl rfl goes162 (fun y mB e k3 hT hm hE hleB hk hry => ?_))
   skip
   refine TO.step rfl (OT.storeL0 tab 1 rfl rfl rfl rfl rfl rfl rfl rfl ?_)
   repeat (first|refine q5 ?_|refine q6 ?_|refine q7 ?_)
   exact ⟨(y, mB, e, k3, N), (by repeat (exact trivial)), (by repeat (first|exact trivial|refine And.intro rfl ?_)), rfl, rfl, (by repeat (exact List.Sublist.refl _)), ⟨Mem.le_trans hm3 hleB, hk, hry, hT⟩, by simp only; omega⟩
  repeat (first|refine q1 ?_|refine q3 ?_|refine q4 tab rfl rfl ?_|refine q5 ?_|refine q6 ?_|refine q17 rfl ?_)
  (refine TO.step rfl (OT.loadA0 tab hA rfl rfl rfl rfl rfl ?_))
  skip
  refine TO.step rfl (OT.takeP hT hE hk rfl rfl rfl rfl rfl rfl (fun hT hk => ?_) (fun hT => ?_))
  ·replace hT : T = Ps.bind (Ps.bind (Ps.exprsP E.N [41] Y) fun l => Ps.ret (.mk 51 [] 0 (n :: l))) (Ps.postP E.N Y N) E.f (k + 1) := by rw [Ps.bind_assoc]; exact hT
   repeat (first|refine q3 ?_|refine q4 tab rfl rfl ?_|refine q5 ?_|refine q6 ?_|refine q16 rfl ?_)
   (refine TO.step rfl (OT.loadA0 tab hA rfl rfl rfl rfl rfl ?_))
   repeat (refine q4 tab rfl rfl ?_)
   refine TO.step rfl (OT.parTA (L0 := L) (inside_at (first := []) (cap := [.pointer (some ⟨b3, 0, none⟩), .pointer (some ⟨b1, 0, none⟩)]) rfl goes165 hE (fun b => post2_at hY hmm hE hk hA hrx)) hT hn hE (by repeat (first|exact Bad.ret|refine Bad.then ?_|refine Bad.block ?_)) hm (by repeat (first|exact List.Sublist.refl _|refine List.Sublist.cons _ ?_)) rfl rfl rfl rfl rfl rfl goes162 (fun y mB e k3 hT hm hE hleB hk hry => ?_))
   skip
   refine TO.step rfl (OT.storeL0 tab 1 rfl rfl rfl rfl rfl rfl rfl rfl ?_)
   repeat (first|refine q5 ?_|refine q6 ?_|refine q7 ?_)
   exact ⟨(y, mB, e, k3, N), (by repeat (exact trivial)), (by repeat (first|exact trivial|refine And.intro rfl ?_)), rfl, rfl, (by repeat (exact List.Sublist.refl _)), ⟨Mem.le_trans hm3 hleB, hk, hry, hT⟩, by simp only; omega⟩
  ·repeat (first|refine q1 ?_|refine q3 ?_|refine q4 tab rfl rfl ?_|refine q5 ?_|refine q6 ?_|refine q17 rfl ?_)
   (refine qs rfl (qz tab 1 rfl rfl rfl rfl rfl rfl ?_))
   skip
   refine TO.step rfl (OT.storeL0 tab 2 rfl rfl rfl rfl rfl rfl rfl rfl ?_)
   repeat (first|refine q5 ?_|refine q6 ?_|refine q8 ?_|refine q9 ?_|refine q15 ?_)
   refine retQ_ret_c1 tab 2 rfl rfl rfl rfl (L' := E.I k h :: L) (by repeat (first|exact List.Sublist.refl _|refine List.Sublist.cons_cons _ ?_|refine List.Sublist.cons _ ?_)) ⟨_, k, [], hT, hm, hk, ⟨x, rfl, rfl, hrx⟩, rfl⟩
structure GW (mb : Mem) (E : PE) (g : Ps.Gr) : Prop where
 typ : ∀ h, Par Tryz.prog mb E vTree 99 [E.v] h g.typ
 block : ∀ h, Par Tryz.prog mb E vTree 70 [E.v] h g.block
 stmt : Par Tryz.prog mb E vTree 105 [E.v] 0 g.stmt
 branch : Par Tryz.prog mb E vTree 124 [E.v] 0 g.branch
 expr : ∀ b, Par Tryz.prog mb E vTree 138 [E.v] (bif b then 1 else 0) (g.expr b)
 unary : ∀ b, Par Tryz.prog mb E vTree 147 [E.v] (bif b then 1 else 0) (g.unary b)
theorem Par.dry {f : FuncId} {args : List Value} {V : RV Tree} : Par Tryz.prog mb E V f args h Ps.dry := fun _ _ _ _ _ _ hn => absurd rfl hn
theorem gw : ∀ n, GW mb E (Ps.gr E.N n)
 | 0 => ⟨fun _ => Par.dry, fun _ => Par.dry, Par.dry, Par.dry, fun _ => Par.dry, fun _ => Par.dry⟩
 | n + 1 => by
  have g := gw n
  refine ⟨fun h => typ_par (g.typ h), fun h => block_par g.stmt, stmt_par (g.expr true) (g.block 0) g.branch (simple_par (g.typ 0) (g.expr false)), branch_par (g.expr true) (g.block 0) g.branch, fun b => expr_par (g.unary b), fun b => ?_⟩
  exact unary_par (g.unary b) (post_par (primary_par b (g.typ _) (g.expr false) (g.block _)) (g.expr false))
end
end Go.Sep


/- PsW15 -/
set_option linter.unusedVariables false
set_option linter.unusedSimpArgs false
namespace Go.Sep
open Go.Proofs
attribute [local irreducible] TC TO OT TCallX TCall DO DOt thenQ blockQ retQ At
section
variable {mb : Mem} {E : PE}
set_option maxHeartbeats 1000000 in
theorem program_par {X : Ps.Pp Tree} (hX : Par Tryz.prog mb E vTree 32 [E.v] 0 X) :
  Par Tryz.prog mb E vTree 19 [E.v] 0 (Ps.bind (Ps.progL X E.N) fun l => Ps.ret (.mk 1 [] 0 l)) := by
 refine Par.enter Tryz.func19 rfl 23 rfl fun m L k T hm0 hE hk hT hn => ?_
 replace hX := hX.up hm0
 have hm : m ≤ m := Mem.le_refl _
 have hrows := hE.rows
 rw [Ps.decls_start] at hT
 repeat (first|refine q1 ?_|refine q3 ?_)
 refine TO.step rfl (OT.alloc tab rfl rfl rfl rfl (fun b2 => ?_)); refine TO.perm (List.Perm.swap _ _ _) ?_
 repeat (first|refine q1 ?_|refine q3 ?_|refine q4 tab rfl rfl ?_|refine q5 ?_|refine q6 ?_)
 refine TO.step rfl (OT.alloc tab rfl rfl rfl rfl (fun b3 => ?_)); refine TO.perm (List.Perm.swap _ _ _) ?_
 skip
 (refine TO.step rfl (OT.storeL0 tab 1 rfl rfl rfl rfl rfl rfl rfl rfl ?_))
 refine TO.grow0 (size := 4) ?_
 refine TO.perm (L' := E.I k 0 :: .cells b3 0 [.int .i64 1, strV [], .int .i64 0, .slice none 0 0] :: tok ⟨none, 0, 0⟩ 4 :: .cells b2 0 [.int .i64 0, strV [], .int .i64 0, .slice none 0 0] :: L) (List.Perm.trans (List.Perm.swap _ _ _) (List.Perm.cons _ (List.Perm.swap _ _ _))) ?_
 repeat (first|refine q1 ?_|refine q2 ?_|refine q5 ?_|refine q6 ?_)
 refine TC.loopK (ι := Sl × Mem × List Tree × Nat × Nat) [0, 2, 3] rfl (fun x => []) (fun x => x.2.1) (fun x => E.I x.2.2.2.1 0 :: .cells b3 0 [.int .i64 1, strV [], .int .i64 0, x.1.v] :: tok x.1 4 :: .cells b2 0 [.int .i64 0, strV [], .int .i64 0, .slice none 0 0] :: L) (fun x => m ≤ x.2.1 ∧ E.Ok x.2.1 ∧ x.2.2.2.1 ≤ E.toks.length ∧ SlRep rTree x.2.1 x.1 x.2.2.1 ∧ Own x.1 ∧ x.2.2.1.length + x.2.2.2.2 = E.N ∧ T = Ps.bind (Ps.decls X x.2.2.2.2 x.2.2.1) (fun l => Ps.ret (.mk 1 [] 0 l)) E.f x.2.2.2.1) (fun x => x.2.2.2.2) (⟨none, 0, 0⟩, m, [], k, E.N) (by repeat (exact trivial)) rfl (by repeat (exact List.Sublist.refl _)) ⟨hm, hE, hk, SlRep.nil _ _, Own.nil, by simp, hT⟩ ?_
 rintro ⟨s, m1, acc, k, j⟩ ⟨hm, hE, hk, hs, ho, hlen, hT⟩
 simp only at hm hE hk hs ho hlen hT
 show TC _ _ _ _ _ m1 (E.I k 0 :: .cells b3 0 [.int .i64 1, strV [], .int .i64 0, s.v] :: tok s 4 :: .cells b2 0 [.int .i64 0, strV [], .int .i64 0, .slice none 0 0] :: L) _
 have hll := hE.rep.len
 have hfew := hE.few
 cases j with
 | zero => exact absurd hT hn
 | succ j =>
  repeat (refine q1 ?_)
  refine TC.draw0 [] mixed 10 rfl ?_
  refine DO.pure tab (by repeat (first|exact Calm.ret|refine Calm.then ?_|refine Calm.block ?_)) (by kernel_rfl) [0, 1, 2] (by kernel_rfl) rfl ?_
  (refine DO.loadL tab 3 0 (by repeat (first|exact Calm.ret|refine Calm.then ?_|refine Calm.block ?_)) (by kernel_rfl) (by kernel_rfl) rfl rfl rfl rfl rfl rfl rfl rfl ?_)
  refine DO.pure tab (by repeat (first|exact Calm.ret|refine Calm.then ?_|refine Calm.block ?_)) (by kernel_rfl) [4, 5, 6] (by kernel_rfl) rfl ?_
  (refine DO.loadL tab 7 0 (by repeat (first|exact Calm.ret|refine Calm.then ?_|refine Calm.block ?_)) (by kernel_rfl) (by kernel_rfl) rfl rfl rfl rfl rfl rfl rfl rfl ?_)
  refine DO.pure tab (by repeat (first|exact Calm.ret|refine Calm.then ?_|refine Calm.block ?_)) (by kernel_rfl) [8, 9] (by kernel_rfl) rfl ?_
  (refine DO.nil0 (by kernel_rfl) ?_)
  rotate_left 1
  repeat (refine q6 ?_)
  refine TC.condP rfl (fun hc => ?_) (fun hc => ?_)
  ·have hlt : k < E.toks.length := by omega
   have hT : T = Ps.bind X (fun a => Ps.bind (Ps.decls X j (acc ++ [a])) fun l => Ps.ret (.mk 1 [] 0 l)) E.f k := by
    rw [← Ps.bind_assoc, hT]
    show Ps.bind _ _ E.f k = Ps.bind _ _ E.f k
    unfold Ps.bind
    rw [Ps.decls_some (by rw [PE.f_some hlt]; exact fun h => by cases h)]
    rfl
   repeat (first|refine q2 ?_|refine q6 ?_|refine q13 ?_)
   refine TC.draw [7] mixed 8 rfl [.cells b3 0 [.int .i64 1, strV [], .int .i64 0, s.v]] (E.I k 0 :: tok s 4 :: .cells b2 0 [.int .i64 0, strV [], .int .i64 0, .slice none 0 0] :: L) (List.Perm.swap _ _ _) ?_
   refine DO.pure tab (by repeat (first|exact Calm.ret|refine Calm.then ?_|refine Calm.block ?_)) (by kernel_rfl) [0] (by kernel_rfl) rfl ?_
   (refine DO.loadL tab 1 0 (by repeat (first|exact Calm.ret|refine Calm.then ?_|refine Calm.block ?_)) (by kernel_rfl) (by kernel_rfl) rfl rfl rfl rfl rfl rfl rfl rfl ?_)
   refine DO.pure tab (by repeat (first|exact Calm.ret|refine Calm.then ?_|refine Calm.block ?_)) (by kernel_rfl) [2] (by kernel_rfl) rfl ?_
   refine DO.run 3 rfl rfl (by kernel_rfl) rfl ?_
   refine OT.perm (List.Perm.swap _ _ _) (OT.parT (L0 := L) (hX) hm hT hn hE hk (by repeat (first|exact Bad.ret|refine Bad.then ?_|refine Bad.block ?_)) hm (by repeat (first|exact List.Sublist.refl _|refine List.Sublist.cons _ ?_)) rfl rfl rfl rfl rfl rfl goes32 (fun x mA a k2 hT hm hE hleA hk hr => ?_)); refine ⟨hleA, E.I k2 0 :: tok s 4 :: .cells b2 0 [.int .i64 0, strV [], .int .i64 0, .slice none 0 0] :: L, List.Perm.swap _ _ _, ?_⟩
   refine DO.run 4 rfl rfl (by kernel_rfl) rfl ?_
   refine OT.litR tab rTree (hs := [x]) (l := [a]) ⟨rTree_iff.2 hr, trivial⟩ rfl rfl rfl rfl rfl (by decide) (fun sB mB hleB hsB hoB hcB => ?_); refine ⟨hleB, _, List.Perm.refl _, ?_⟩
   refine DO.run 5 rfl rfl (by kernel_rfl) rfl ?_
   refine OT.append tab rTree 2 (hs.mono (Mem.le_trans hleA hleB)) ho hsB rfl rfl rfl rfl rfl rfl rfl (by simp only [List.length_append, List.length_cons, List.length_nil, rTree, mkR]; omega) (fun s3 mC hleC hs3 ho3 => ?_); refine ⟨hleC, E.I k2 0 :: tok s3 4 :: .cells b2 0 [.int .i64 0, strV [], .int .i64 0, .slice none 0 0] :: L, List.Perm.refl _, ?_⟩
   refine DO.pure tab (by repeat (first|exact Calm.ret|refine Calm.then ?_|refine Calm.block ?_)) (by kernel_rfl) [6] (by kernel_rfl) rfl ?_
   refine DO.tail ?_
   refine DOt.run 7 rfl rfl (by kernel_rfl) rfl ?_
   refine OT.storeL (k := 3) tab 0 rfl rfl rfl rfl rfl rfl rfl rfl ?_; refine DOt.perm (List.Perm.swap _ _ _) ?_
   refine DOt.nil (by kernel_rfl) ?_
   rotate_left 1
   replace hm := Mem.le_trans hm (Mem.le_trans hleB hleC)
   replace hE := hE.mono (Mem.le_trans hleB hleC)
   repeat (first|refine q6 ?_|refine q7 ?_)
   exact ⟨(s3, mC, acc ++ [a], k2, j), (by repeat (exact trivial)), (by repeat (first|exact trivial|refine And.intro rfl ?_)), rfl, rfl, (by repeat (exact List.Sublist.refl _)), ⟨hm, hE, hk, hs3, ho3, by simp only [List.length_append, List.length_cons, List.length_nil]; omega, hT⟩, by simp only; omega⟩
  ·have hT : T = .ok (.mk 1 [] 0 acc) k := by
    rw [hT]
    unfold Ps.bind
    rw [Ps.decls_none (PE.f_none (by omega))]
    rfl
   repeat (first|refine q1 ?_|refine q3 ?_|refine q6 ?_|refine q10 ?_|refine q11 ?_|refine q14 ?_)
   (refine qs rfl (qz tab 1 rfl rfl rfl rfl rfl rfl ?_))
   skip
   refine TO.step rfl (OT.storeL0 tab 3 rfl rfl rfl rfl rfl rfl rfl rfl ?_)
   repeat (first|refine q5 ?_|refine q6 ?_|refine q15 ?_)
   refine retQ_ret_c1 tab 3 rfl rfl rfl rfl (L' := E.I k 0 :: L) (by repeat (first|exact List.Sublist.refl _|refine List.Sublist.cons_cons _ ?_|refine List.Sublist.cons _ ?_)) ⟨_, k, [], hT, hm, hk, ⟨⟨1, [], 0, s⟩, rfl, rfl, ⟨rfl, rfl, rfl, hs⟩⟩, rfl⟩
end
def FitR (bl : Nat) (L : List Item) (m : Mem) (a : Tree) (d left : Int) : Value → Mem → List Item → Prop :=
 fun r m' L' => m' = m ∧ ((r = .bool true ∧ (a.size : Int) ≤ left ∧ d + (a.deep : Int) ≤ 101 ∧ L' = .cells bl 0 [.int .i64 (left - a.size)] :: L) ∨ (r = .bool false ∧ ¬ ((a.size : Int) ≤ left ∧ d + (a.deep : Int) ≤ 101) ∧ ∃ n, L' = .cells bl 0 [.int .i64 n] :: L))
set_option maxHeartbeats 1000000 in
theorem fits_law (a : Tree) : ∀ (m : Mem) (L : List Item) (h : HTree) (bl : Nat) (d left : Int), TreeRep m h a → 0 ≤ left → left ≤ 20000 → 0 ≤ d → d ≤ 101 →
  TCall Tryz.prog 20 ⟨[treeV h, .int .i64 d, .pointer (some ⟨bl, 0, none⟩)]⟩ m (.cells bl 0 [.int .i64 left] :: L) (FitR bl L m a d left) := by
 induction a using Tree.ind with
 | h a ih =>
 intro m L h bl d left hr hl0 hl1 hd0 hd1
 have hr' := hr
 obtain ⟨h1, h2, h3, h4⟩ := hr
 have hlen := h4.len
 have hsm := h4.small rfl
 have hsz := size_kids a
 have hdp := deep_kids a
 unfold TCall
 refine TCallX.enter Tryz.func20 rfl 36 rfl ?_
 repeat (first|refine q1 ?_|refine q3 ?_)
 refine TO.step rfl (OT.box rfl rfl rfl rfl rfl (fun b3 => ?_))
 repeat (first|refine q1 ?_|refine q3 ?_|refine q4 tab rfl rfl ?_|refine q5 ?_|refine q6 ?_)
 (refine qs rfl (qz tab 1 rfl rfl rfl rfl rfl rfl ?_))
 refine TO.step rfl (OT.arith (r' := left - 1) rfl rfl rfl rfl rfl rfl rfl (by omega) ?_)
 repeat (refine q4 tab rfl rfl ?_)
 refine TO.step rfl (OT.storeL0 tab 1 rfl rfl rfl rfl rfl rfl rfl rfl ?_)
 repeat (first|refine q1 ?_|refine q3 ?_|refine q4 tab rfl rfl ?_|refine q5 ?_|refine q6 ?_)
 (refine qs rfl (qz tab 1 rfl rfl rfl rfl rfl rfl ?_))
 repeat (refine q4 tab rfl rfl ?_)
 (refine TO.splitP rfl rfl (fun hneg => ?_) (fun hneg => ?_))
 ·repeat (first|refine q1 ?_|refine q3 ?_|refine q4 tab rfl rfl ?_|refine q5 ?_|refine q6 ?_|refine q8 ?_|refine q15 ?_|refine q16 rfl ?_)
  refine retQ_ret rfl (L' := .cells bl 0 [.int .i64 (left - 1)] :: L) (by repeat (first|exact List.Sublist.refl _|refine List.Sublist.cons _ ?_)) ⟨rfl, .inr ⟨rfl, by omega, _, rfl⟩⟩
 repeat (first|refine q4 tab rfl rfl ?_|refine q5 ?_|refine q6 ?_)
 refine TC.condP rfl (fun hdd => ?_) (fun hdd => ?_)
 ·repeat (first|refine q1 ?_|refine q3 ?_|refine q4 tab rfl rfl ?_|refine q5 ?_|refine q6 ?_|refine q8 ?_|refine q15 ?_)
  refine retQ_ret rfl (L' := .cells bl 0 [.int .i64 (left - 1)] :: L) (by repeat (first|exact List.Sublist.refl _|refine List.Sublist.cons _ ?_)) ⟨rfl, .inr ⟨rfl, by omega, _, rfl⟩⟩
 repeat (first|refine q1 ?_|refine q3 ?_|refine q4 tab rfl rfl ?_|refine q6 ?_|refine q13 ?_)
 (refine qs rfl (ql tab 0 rfl rfl rfl rfl rfl rfl ?_))
 repeat (first|refine q2 ?_|refine q4 tab rfl rfl ?_|refine q5 ?_|refine q6 ?_)
 refine TC.loopK (ι := Nat) [0, 1, 2, 23, 24] rfl (fun i => [(25, .int .i64 (i : Int))]) (fun _ => m) (fun i => .cells bl 0 [.int .i64 (left - 1 - (sizeL (a.kids.take i) : Int))] :: L) (fun i => i ≤ a.kids.length ∧ (sizeL (a.kids.take i) : Int) ≤ left - 1 ∧ d + (deepL (a.kids.take i) : Int) ≤ 100) (fun i => a.kids.length - i) 0 (by repeat (first|exact trivial|refine And.intro rfl ?_)) rfl (by rw [show left - 1 - (sizeL (a.kids.take 0) : Int) = left - 1 by simp [sizeL]]; exact List.Sublist.cons _ (List.Sublist.refl _)) ⟨Nat.zero_le _, by simp [sizeL]; omega, by simp [deepL]; omega⟩ ?_
 rintro i ⟨hi, hI1, hI2⟩
 repeat (first|refine q1 ?_|refine q3 ?_|refine q4 tab rfl rfl ?_|refine q5 ?_|refine q6 ?_)
 refine TC.condP rfl (fun hc => ?_) (fun hc => ?_)
 ·have hlt : i < a.kids.length := by omega
  have hx : a.kids[i]? = some a.kids[i] := List.getElem?_eq_getElem hlt
  have e1 := sizeL_next a.kids i hlt
  have e2 := deepL_next a.kids i hlt
  have e3 := sizeL_take a.kids (i + 1)
  have e4 := deepL_take a.kids (i + 1)
  repeat (first|refine q1 ?_|refine q2 ?_|refine q3 ?_|refine q6 ?_|refine q13 ?_)
  refine TO.step rfl (OT.index tab rTree i h4 rfl rfl rfl rfl rfl (by first | rfl | omega | (simp only; omega)) rfl hx ?_)
  rintro bx ix hx' hrx hAx
  skip
  (refine TO.step rfl (OT.loadA0 tab hAx rfl rfl rfl rfl rfl ?_))
  skip
  refine TO.step rfl (OT.alloc tab rfl rfl rfl rfl (fun b8 => ?_))
  skip
  (refine TO.step rfl (OT.storeL0 tab 0 rfl rfl rfl rfl rfl rfl rfl rfl ?_))
  repeat (first|refine q1 ?_|refine q3 ?_|refine q5 ?_|refine q6 ?_)
  (refine qs rfl (qz tab 0 rfl rfl rfl rfl rfl rfl ?_))
  repeat (refine q4 tab rfl rfl ?_)
  refine TO.step rfl (OT.arith (r' := d + 1) rfl rfl rfl rfl rfl rfl rfl (by omega) ?_)
  repeat (refine q4 tab rfl rfl ?_)
  refine TO.perm (List.Perm.swap _ _ _) ?_
  refine TO.step rfl (OT.call rfl rfl rfl rfl rfl rfl goes20 ((ih a.kids[i] (List.getElem_mem hlt) _ _ hx' bl (d + 1) (left - 1 - (sizeL (a.kids.take i) : Int)) (rTree_iff.1 hrx) (by omega) (by omega) (by omega) (by omega)).x ?_));
  rintro _ _ _ ⟨rfl, ⟨rfl, k1, k2, rfl⟩ | ⟨rfl, k1, n, rfl⟩⟩
  ·repeat (first|refine q3 ?_|refine q4 tab rfl rfl ?_|refine q5 ?_|refine q6 ?_|refine q7 ?_|refine q13 ?_|refine q17 rfl ?_)
   refine TO.step rfl (OT.arith (r' := ((i + 1 : Nat) : Int)) rfl rfl rfl rfl rfl rfl rfl (by omega) ?_)
   repeat (first|refine q4 tab rfl rfl ?_|refine q5 ?_|refine q6 ?_)
   refine ⟨i + 1, (by repeat (first|exact trivial|refine And.intro rfl ?_)), (by repeat (first|exact trivial|refine And.intro rfl ?_)), rfl, rfl, ?_, ⟨hlt, by omega, by omega⟩, by omega⟩
   rw [show left - 1 - (sizeL (a.kids.take (i + 1)) : Int) = left - 1 - (sizeL (a.kids.take i) : Int) - (a.kids[i].size : Int) by omega]
   exact (by repeat (first|exact List.Sublist.refl _|refine List.Sublist.cons_cons _ ?_|refine List.Sublist.cons _ ?_))
  ·repeat (first|refine q1 ?_|refine q3 ?_|refine q4 tab rfl rfl ?_|refine q5 ?_|refine q6 ?_|refine q8 ?_|refine q9 ?_|refine q15 ?_|refine q16 rfl ?_)
   refine retQ_ret rfl (L' := .cells bl 0 [.int .i64 n] :: L) (by repeat (first|exact List.Sublist.refl _|refine List.Sublist.cons_cons _ ?_|refine List.Sublist.cons _ ?_)) ⟨rfl, .inr ⟨rfl, by omega, _, rfl⟩⟩
 ·rw [List.take_of_length_le (by omega)] at hI1 hI2
  rw [List.take_of_length_le (show a.kids.length ≤ i by omega)]
  repeat (first|refine q1 ?_|refine q3 ?_|refine q4 tab rfl rfl ?_|refine q5 ?_|refine q6 ?_|refine q10 ?_|refine q11 ?_|refine q14 ?_|refine q15 ?_)
  refine retQ_ret rfl (L' := .cells bl 0 [.int .i64 (left - a.size)] :: L) ?_ ⟨rfl, .inl ⟨rfl, by omega, by omega, rfl⟩⟩
  rw [show left - (a.size : Int) = left - 1 - (sizeL a.kids : Int) by omega]
  exact (by repeat (exact List.Sublist.refl _))
end Go.Sep


/- PsRec -/
set_option linter.unusedVariables false
set_option linter.unusedSimpArgs false
namespace Go.Sep
open Go.Proofs
attribute [local irreducible] TC TO OT TCallX TCall DO DOt thenQ blockQ retQ At
theorem start_ok {P : Program} {vs : List Value} {m : Mem} {L : List Item} {w : World} {n N : Nat} (hN : N ≤ n) (hs : St m w L) : Ok N (argEnv vs 0) [] m L { tmps := ⟨vs⟩ ++ Array.replicate (n - (⟨vs⟩ : Array Value).size) undef, defers := [] } w := by
 refine ⟨?_, ?_, rfl, hs⟩
 ·simp
  omega
 ·intro i v hv
  have := (look_argEnv vs 0 i v hv).2
  have hi : i < vs.length := by have := (List.getElem?_eq_some_iff.1 this).1; simpa using this
  have h2 : vs[i]? = some v := by simpa using this
  rw [Array.getElem?_append_left (by simpa using hi)]
  simpa using h2
theorem rec_idle (a b c : Nat) (m : Mem) (L : List Item) (w : World) (hs : St m w L) :
  CallsD Tryz.prog 18 ⟨[.pointer (some ⟨a, 0, none⟩), .pointer (some ⟨b, 0, none⟩), .pointer (some ⟨c, 0, none⟩)]⟩ .returning w fun e u' w' => ∃ v, e = .returned v ∧ u' = .returning ∧ St m w' L := by
 refine callsD_of_wpS Tryz.func18 rfl fun c₀ cs hu => ?_
 have h0 := start_ok (P := Tryz.prog) (vs := [.pointer (some ⟨a, 0, none⟩), .pointer (some ⟨b, 0, none⟩), .pointer (some ⟨c, 0, none⟩)]) (n := 20) (N := 20) (Nat.le_refl _) hs
 have hrp : recPair (c₀ :: cs) = (.nilIface, c₀ :: cs) := by simp [recPair, recoverD, hu]
 have hc : ({ c₀ with mode := .returning } : Frame) = c₀ := by rw [← hu]
 apply wpS_seq
 refine wpS_rec (d0 := 6) (d1 := 3) rfl rfl rfl rfl rfl rfl (Nat.lt_of_lt_of_le (by decide : 6 < 20) h0.size) ?_
 rw [hrp]
 show Code.wpS _ _ _ _ _ _
 rw [← hc]
 refine wpS_TC (R := Ret (.tuple ⟨[]⟩) m L) ?_ ((h0.put (d := 6) rfl .nilIface).put (d := 3) rfl .nilIface) ?_
 ·repeat (first|refine q1 ?_|refine q3 ?_|refine q4 tab rfl rfl ?_)
  refine TO.step rfl (OT.errNe tab rfl rfl rfl rfl (.inl rfl) rfl rfl ?_)
  repeat (first|refine q5 ?_|refine q6 ?_|refine q13 ?_|refine q17 rfl ?_)
  refine retQ_n rfl (by repeat (exact List.Sublist.refl _)) ⟨rfl, rfl, rfl⟩
 ·rintro v m' L' w' ⟨rfl, rfl, rfl⟩ hst
  exact ⟨_, rfl, rfl, hst⟩
theorem rec_fault (a b c : Nat) (m : Mem) (L : List Item) (w : World) (x : Int) (va vb vc : List Value) (ha : va.length = 4) (hb : vb.length = 1) (hcl : vc.length = 1) (hs : St m w (.cells a 0 va :: .cells b 0 vb :: .cells c 0 vc :: L)) :
  CallsD Tryz.prog 18 ⟨[.pointer (some ⟨a, 0, none⟩), .pointer (some ⟨b, 0, none⟩), .pointer (some ⟨c, 0, none⟩)]⟩ (.panicking [{ v := .iface 45 (.agg ⟨[.int .i64 x]⟩), recovered := false }]) w fun e u' w' =>
   ∃ v, e = .returned v ∧ u' = .panicking [{ v := .iface 45 (.agg ⟨[.int .i64 x]⟩), recovered := true }] ∧ St m w' (.cells a 0 [.int .i64 0, strV [], .int .i64 0, .slice none 0 0] :: .cells b 0 [.int .i64 x] :: .cells c 0 [.int .i64 3] :: L) := by
 refine callsD_of_wpS Tryz.func18 rfl fun c₀ cs hu => ?_
 have h0 := start_ok (P := Tryz.prog) (vs := [.pointer (some ⟨a, 0, none⟩), .pointer (some ⟨b, 0, none⟩), .pointer (some ⟨c, 0, none⟩)]) (n := 20) (N := 20) (Nat.le_refl _) hs
 have hrp : recPair (c₀ :: cs) = (.iface 45 (.agg ⟨[.int .i64 x]⟩), { c₀ with mode := .panicking [{ v := .iface 45 (.agg ⟨[.int .i64 x]⟩), recovered := true }] } :: cs) := by simp [recPair, recoverD, hu]
 apply wpS_seq
 refine wpS_rec (d0 := 6) (d1 := 3) rfl rfl rfl rfl rfl rfl (Nat.lt_of_lt_of_le (by decide : 6 < 20) h0.size) ?_
 rw [hrp]
 show Code.wpS _ _ _ _ _ _
 obtain ⟨v0, v1, v2, v3, rfl⟩ : ∃ v0 v1 v2 v3, va = [v0, v1, v2, v3] := by
  match va, ha with
  | [v0, v1, v2, v3], _ => exact ⟨_, _, _, _, rfl⟩
 obtain ⟨vb, rfl⟩ := List.length_eq_one_iff.1 hb
 obtain ⟨vc, rfl⟩ := List.length_eq_one_iff.1 hcl
 refine wpS_TC (R := fun r m' L' => r = .tuple ⟨[]⟩ ∧ m' = m ∧ L' = .cells a 0 [.int .i64 0, strV [], .int .i64 0, .slice none 0 0] :: .cells b 0 [.int .i64 x] :: .cells c 0 [.int .i64 3] :: L) ?_ ((h0.put (d := 6) rfl _).put (d := 3) rfl _) ?_
 ·repeat (first|refine q1 ?_|refine q3 ?_|refine q4 tab rfl rfl ?_)
  refine TO.step rfl (OT.errNe tab rfl rfl rfl rfl (.inr ⟨_, _, rfl⟩) rfl rfl ?_)
  repeat (first|refine q1 ?_|refine q3 ?_|refine q4 tab rfl rfl ?_|refine q5 ?_|refine q6 ?_|refine q16 rfl ?_)
  refine TO.step rfl (OT.assertOk tab rfl rfl rfl rfl rfl ?_)
  repeat (refine q4 tab rfl rfl ?_)
  refine TO.step rfl (OT.alloc tab rfl rfl rfl rfl (fun b4 => ?_))
  skip
  (refine TO.step rfl (OT.storeL0 tab 0 rfl rfl rfl rfl rfl rfl rfl rfl ?_))
  repeat (first|refine q1 ?_|refine q3 ?_|refine q4 tab rfl rfl ?_|refine q5 ?_|refine q6 ?_|refine q13 ?_|refine q17 rfl ?_)
  refine TC.draw [] mixed 6 rfl [] (.cells b4 0 [.int .i64 x] :: .cells a 0 [v0, v1, v2, v3] :: .cells b 0 [vb] :: .cells c 0 [vc] :: L) (List.Perm.refl _) ?_
  refine DO.pure tab (by repeat (exact Calm.ret)) (by kernel_rfl) [0, 1] (by kernel_rfl) rfl ?_
  refine DO.fork 2 [3] (by kernel_rfl) ⟨⟨_, rfl, rfl, rfl, ?_⟩, ⟨_, rfl, rfl, rfl, ?_⟩, trivial⟩
  ·refine OT.loadL0 tab 0 rfl rfl rfl rfl rfl rfl ?_
   refine ⟨Mem.le_refl _, _, List.Perm.refl _, ?_⟩
   refine DO.run 3 rfl rfl (by kernel_rfl) rfl ?_
   refine OT.storeL0 tab 1 rfl rfl rfl rfl rfl rfl rfl rfl ?_
   refine ⟨Mem.le_refl _, _, List.Perm.refl _, ?_⟩
   refine DO.run 4 rfl rfl (by kernel_rfl) rfl ?_
   refine OT.storeL0 tab 2 rfl rfl rfl rfl rfl rfl rfl rfl ?_
   refine ⟨Mem.le_refl _, _, List.Perm.refl _, ?_⟩
   refine DO.run 5 rfl rfl (by kernel_rfl) rfl ?_
   refine OT.storeL0 tab 3 rfl rfl rfl rfl rfl rfl rfl rfl ?_
   refine ⟨Mem.le_refl _, _, List.Perm.refl _, ?_⟩
   refine DO.nil (by kernel_rfl) ?_
   refine retQ_n rfl (L' := .cells a 0 [.int .i64 0, strV [], .int .i64 0, .slice none 0 0] :: .cells b 0 [.int .i64 x] :: .cells c 0 [.int .i64 3] :: L) (by repeat (first|exact List.Sublist.refl _|refine List.Sublist.cons _ ?_)) ⟨rfl, rfl, rfl⟩
  ·refine OT.storeL0 tab 1 rfl rfl rfl rfl rfl rfl rfl rfl ?_
   refine ⟨Mem.le_refl _, _, List.Perm.refl _, ?_⟩
   refine DO.run 2 rfl rfl (by kernel_rfl) rfl ?_
   refine OT.loadL0 tab 0 rfl rfl rfl rfl rfl rfl ?_
   refine ⟨Mem.le_refl _, _, List.Perm.refl _, ?_⟩
   refine DO.run 4 rfl rfl (by kernel_rfl) rfl ?_
   refine OT.storeL0 tab 2 rfl rfl rfl rfl rfl rfl rfl rfl ?_
   refine ⟨Mem.le_refl _, _, List.Perm.refl _, ?_⟩
   refine DO.run 5 rfl rfl (by kernel_rfl) rfl ?_
   refine OT.storeL0 tab 3 rfl rfl rfl rfl rfl rfl rfl rfl ?_
   refine ⟨Mem.le_refl _, _, List.Perm.refl _, ?_⟩
   refine DO.nil (by kernel_rfl) ?_
   refine retQ_n rfl (L' := .cells a 0 [.int .i64 0, strV [], .int .i64 0, .slice none 0 0] :: .cells b 0 [.int .i64 x] :: .cells c 0 [.int .i64 3] :: L) (by repeat (first|exact List.Sublist.refl _|refine List.Sublist.cons _ ?_)) ⟨rfl, rfl, rfl⟩
 ·rintro v m' L' w' ⟨rfl, rfl, rfl⟩ hst
  exact ⟨_, rfl, rfl, hst⟩
end Go.Sep


/- ScAhead -/
set_option linter.unusedVariables false
set_option linter.unusedSimpArgs false
namespace Go.Sep
theorem blk_take : ∀ (b : Bool) (r : Str) (j : Nat), blk b r ≤ j → blk b (r.take j) = blk b r
 | _, [], j, _ => by simp [blk]
 | true, c :: r, 0, h => by
  rw [blk] at h
  split at h <;> omega
 | true, c :: r, j + 1, h => by
  rw [List.take_succ_cons, blk, blk]
  rw [blk] at h
  split at h
  ·rename_i hc
   rw [if_pos hc, if_pos hc, blk_take false r j (by omega)]
  ·rename_i hc
   rw [if_neg hc, if_neg hc, blk_take true r j (by omega)]
 | false, c :: r, 0, h => by
  have : blk false (c :: r) = 0 := by omega
  rw [this]; rfl
 | false, c :: r, j + 1, h => by
  rw [List.take_succ_cons, blk, blk]
  rw [blk] at h
  split at h
  ·rename_i hc
   rw [if_pos hc, if_pos hc, blk_take false r j (by omega)]
  ·rename_i hc
   rw [if_neg hc, if_neg hc]
   split at h
   ·rename_i h2
    have hj : 1 ≤ j := by
     cases r with
     | nil => cases h2.2
     | cons x r =>
      have hx : x = 47 := by have := h2.2; simpa using this
      subst hx
      rw [blk, if_neg (by decide)] at h
      omega
    have hh : (r.take j).head? = r.head? := by
     cases r with
     | nil => simp
     | cons x r =>
      obtain ⟨i, rfl⟩ : ∃ i, j = i + 1 := ⟨j - 1, by omega⟩
      simp
    rw [hh, if_pos h2, if_pos h2, blk_take true r j (by omega)]
   ·rename_i h2
    rw [if_neg h2, if_neg]
    rintro ⟨h3, h4⟩
    refine h2 ⟨h3, ?_⟩
    cases j with
    | zero => simp at h4
    | succ i =>
     cases r with
     | nil => simp at h4
     | cons x r => simpa using h4
theorem takeWhile_take (p : UInt8 → Bool) : ∀ (s : Str) (j : Nat), (s.takeWhile p).length ≤ j → ((s.take j).takeWhile p).length = (s.takeWhile p).length
 | [], j, _ => by simp
 | c :: r, 0, h => by
  rw [List.takeWhile_cons] at h ⊢
  split at h
  ·simp at h
  ·rename_i hc
   rw [if_neg hc]; rfl
 | c :: r, j + 1, h => by
  rw [List.take_succ_cons, List.takeWhile_cons, List.takeWhile_cons]
  rw [List.takeWhile_cons] at h
  split
  ·rename_i hc
   rw [if_pos hc] at h
   simp only [List.length_cons] at h ⊢
   rw [takeWhile_take p r j (by omega)]
  ·rfl
theorem span_take {p : UInt8 → Bool} {s : Str} {j : Nat} (h : spanOf p s ≤ j) : spanOf p (s.take j) = spanOf p s := takeWhile_take p s j h
theorem escX_take {r : Str} {b : UInt8} {n j : Nat} (h : escX r = some (b, n)) (hj : n ≤ j + 1) : escX (r.take j) = some (b, n) := by
 match r, h with
 | x :: y :: r', h =>
  have h' : (hexB x y).map (fun z => (z, 3)) = some (b, n) := h
  have hn : n = 3 := by
   cases hx : hexB x y with
   | none => rw [hx] at h'; cases h'
   | some z => rw [hx] at h'; cases h'; rfl
  obtain ⟨i, rfl⟩ : ∃ i, j = i + 2 := ⟨j - 2, by omega⟩
  exact h
theorem escB_take {r : Str} {b : UInt8} {n j : Nat} (h : escB r = some (b, n)) (hj : n ≤ j) : escB (r.take j) = some (b, n) := by
 have hp := escB_pos h
 cases r with
 | nil => cases h
 | cons c r =>
  obtain ⟨i, rfl⟩ : ∃ i, j = i + 1 := ⟨j - 1, by omega⟩
  rw [List.take_succ_cons]
  rw [escB] at h ⊢
  by_cases h1 : c.toNat = 110
  ·rw [if_pos h1] at h ⊢; exact h
  ·rw [if_neg h1] at h ⊢
   by_cases h2 : c.toNat = 116
   ·rw [if_pos h2] at h ⊢; exact h
   ·rw [if_neg h2] at h ⊢
    by_cases h3 : c.toNat = 34 ∨ c.toNat = 92
    ·rw [if_pos h3] at h ⊢; exact h
    ·rw [if_neg h3] at h ⊢
     by_cases h4 : c.toNat = 120
     ·rw [if_pos h4] at h ⊢; exact escX_take h hj
     ·rw [if_neg h4] at h; cases h
theorem lit_take : ∀ (N : Nat) (r t : Str) (n j : Nat), r.length < N → lit r = some (t, n) → n ≤ j → lit (r.take j) = some (t, n)
 | 0, _, _, _, _, h, _, _ => by omega
 | N + 1, [], _, _, _, _, h, _ => by cases h
 | N + 1, c :: r, t, n, j, hN, h, hj => by
  have hp := lit_le h
  simp only [List.length_cons] at hN
  obtain ⟨i, rfl⟩ : ∃ i, j = i + 1 := ⟨j - 1, by omega⟩
  rw [List.take_succ_cons]
  by_cases h1 : c.toNat = 34
  ·rw [lit_quote h1] at h ⊢; exact h
  by_cases h2 : c.toNat = 10
  ·rw [lit_nl h2] at h; cases h
  by_cases h3 : c.toNat = 92
  ·cases he : escB r with
   | none => rw [lit_esc_none h3 he] at h; cases h
   | some p =>
    obtain ⟨b, k⟩ := p
    rw [lit_esc_some h3 he] at h
    cases hl : lit (r.drop k) with
    | none => rw [hl] at h; cases h
    | some q =>
     obtain ⟨t', n'⟩ := q
     rw [hl] at h
     simp only [Option.map_some, Option.some.injEq, Prod.mk.injEq] at h
     have hk := escB_pos he
     have he' := escB_take (j := i) he (by omega)
     rw [lit_esc_some h3 he', List.drop_take, lit_take N (r.drop k) t' n' (i - k) (by rw [List.length_drop]; omega) hl (by omega)]
     simp only [Option.map_some, Option.some.injEq, Prod.mk.injEq]
     exact h
  ·cases hl : lit r with
   | none => rw [lit_one h1 h2 h3, hl] at h; cases h
   | some q =>
    obtain ⟨t', n'⟩ := q
    rw [lit_one h1 h2 h3, hl] at h
    simp only [Option.map_some, Option.some.injEq, Prod.mk.injEq] at h
    rw [lit_one h1 h2 h3, lit_take N r t' n' i (by omega) hl (by omega)]
    simp only [Option.map_some, Option.some.injEq, Prod.mk.injEq]
    exact h
theorem prefixB_iff {p s : Str} : prefixB p s = true ↔ p.length ≤ s.length ∧ s.take p.length = p := by
 unfold prefixB
 rw [Bool.and_eq_true, decide_eq_true_iff, decide_eq_true_iff]
theorem find_take {s p : Str} {j : Nat} (hj : p.length ≤ j) : ∀ l : List Str, l.find? (fun q => prefixB q s) = some p → l.find? (fun q => prefixB q (s.take j)) = some p
 | [], h => by cases h
 | q :: l, h => by
  by_cases hq : prefixB q s = true
  ·rw [List.find?_cons_of_pos (p := fun q => prefixB q s) hq] at h
   cases h
   refine List.find?_cons_of_pos (p := fun q => prefixB q (s.take j)) (prefixB_iff.2 ?_)
   obtain ⟨h1, h2⟩ := prefixB_iff.1 hq
   refine ⟨by rw [List.length_take]; omega, ?_⟩
   rw [List.take_take, Nat.min_eq_left hj]; exact h2
  ·rw [List.find?_cons_of_neg (p := fun q => prefixB q s) hq] at h
   rw [List.find?_cons_of_neg (p := fun q => prefixB q (s.take j))]
   ·exact find_take hj l h
   ·intro h3
    obtain ⟨h1, h2⟩ := prefixB_iff.1 h3
    rw [List.length_take] at h1
    rw [List.take_take, Nat.min_eq_left (by omega)] at h2
    exact hq (prefixB_iff.2 ⟨by omega, h2⟩)
theorem tokD_take {s : Str} {t : Tok} {n j : Nat} (h : tokD s = some (t, n)) (hj : n ≤ j) : tokD (s.take j) = some (t, n) := by
 have hp := tokD_le h
 cases s with
 | nil => cases h
 | cons c r =>
  obtain ⟨i, rfl⟩ : ∃ i, j = i + 1 := ⟨j - 1, by omega⟩
  have hts : (c :: r).take (i + 1) = c :: r.take i := rfl
  by_cases h1 : ltr c = true
  ·have hn : n = spanOf lod (c :: r) := by
    rw [tokD, if_pos h1] at h
    split at h
    ·cases h
    ·cases h; rfl
   have hsp : spanOf lod ((c :: r).take (i + 1)) = spanOf lod (c :: r) := span_take (by omega)
   have htt : ((c :: r).take (i + 1)).take (spanOf lod (c :: r)) = (c :: r).take (spanOf lod (c :: r)) := by rw [List.take_take, Nat.min_eq_left (by omega)]
   rw [hts] at hsp htt ⊢
   rw [tokD, if_pos h1] at h ⊢
   rw [hsp, htt]; exact h
  ·by_cases h2 : dgt c = true
   ·have hn : n = spanOf lod (c :: r) ∧ spanOf dgt (c :: r) = spanOf lod (c :: r) := by
     rw [tokD, if_neg h1, if_pos h2] at h
     split at h
     ·cases h
     ·split at h
      ·cases h
      ·rename_i h3
       cases h; exact ⟨rfl, by omega⟩
    have hsp : spanOf lod ((c :: r).take (i + 1)) = spanOf lod (c :: r) := span_take (by omega)
    have hsd : spanOf dgt ((c :: r).take (i + 1)) = spanOf dgt (c :: r) := span_take (by omega)
    have htt : ((c :: r).take (i + 1)).take (spanOf lod (c :: r)) = (c :: r).take (spanOf lod (c :: r)) := by rw [List.take_take, Nat.min_eq_left (by omega)]
    rw [hts] at hsp hsd htt ⊢
    rw [tokD, if_neg h1, if_pos h2] at h ⊢
    rw [hsp, hsd, htt]; exact h
   ·by_cases h3 : c.toNat = 34
    ·rw [hts]
     rw [tokD, if_neg h1, if_neg h2, if_pos h3] at h ⊢
     cases hl : lit r with
     | none => rw [hl] at h; cases h
     | some q =>
      obtain ⟨t', n'⟩ := q
      rw [hl] at h
      simp only at h
      have hn : n = n' + 1 := by
       split at h
       ·cases h
       ·cases h; rfl
      rw [lit_take (r.length + 1) r t' n' i (by omega) hl (by omega)]
      exact h
    ·rw [tokD, if_neg h1, if_neg h2, if_neg h3] at h
     cases hf : markL.find? (fun p => prefixB p (c :: r)) with
     | none => rw [hf] at h; cases h
     | some p =>
      rw [hf] at h
      have hn : n = p.length := by cases h; rfl
      have := find_take (s := c :: r) (p := p) (j := i + 1) (by omega) markL hf
      rw [hts] at this ⊢
      rw [tokD, if_neg h1, if_neg h2, if_neg h3, this]
      exact h
theorem cutF_take : ∀ (f : Nat) (r : Str) (at_ k a : Nat), cutF f r at_ k = .error (a, 3) → r.length < f → at_ ≤ a ∧ a - at_ < r.length ∧ ∀ g, a - at_ < g → ∃ l, cutF g (r.take (a - at_)) at_ k = .ok l
 | 0, r, at_, k, a, h, hf => by omega
 | f + 1, r, at_, k, a, h, hf => by
  have hb := blk_le false r
  rw [cutF] at h
  by_cases h1 : r.drop (blk false r) = []
  ·rw [if_pos h1] at h; cases h
  ·rw [if_neg h1] at h
   have hlt : blk false r < r.length := by
    refine Nat.lt_of_not_le fun hge => h1 (List.drop_eq_nil_of_le hge)
   by_cases h2 : k = 20000
   ·rw [if_pos h2] at h
    cases h
   ·rw [if_neg h2] at h
    cases ht : tokD (r.drop (blk false r)) with
    | none =>
     rw [ht] at h
     simp only [Except.error.injEq, Prod.mk.injEq, and_true] at h
     subst h
     refine ⟨by omega, by omega, fun g hg => ?_⟩
     rw [show at_ + blk false r - at_ = blk false r by omega]
     cases g with
     | zero => omega
     | succ g =>
      refine ⟨[], ?_⟩
      rw [cutF, blk_take false r _ (Nat.le_refl _), List.drop_eq_nil_of_le (by rw [List.length_take]; omega), if_pos rfl]
    | some p =>
     obtain ⟨t, n⟩ := p
     rw [ht] at h
     simp only at h
     have hn := tokD_le ht
     rw [List.length_drop] at hn
     cases hc : cutF f ((r.drop (blk false r)).drop n) (at_ + blk false r + n) (k + 1) with
     | ok l => rw [hc] at h; cases h
     | error e =>
      rw [hc] at h
      simp only [Except.error.injEq] at h
      subst h
      obtain ⟨g1, g2, g3⟩ := cutF_take f _ _ _ _ hc (by rw [List.length_drop, List.length_drop]; omega)
      rw [List.length_drop, List.length_drop] at g2
      refine ⟨by omega, by omega, fun g hg => ?_⟩
      cases g with
      | zero => omega
      | succ g =>
       have hd : (r.take (a - at_)).drop (blk false r) = (r.drop (blk false r)).take (a - at_ - blk false r) := List.drop_take ..
       obtain ⟨l, hl⟩ := g3 g (by omega)
       have ht' := tokD_take (j := a - at_ - blk false r) ht (by omega)
       refine ⟨⟨t.kind, t.text, t.num, ((at_ + blk false r : Nat) : Int)⟩ :: l, ?_⟩
       rw [cutF, blk_take false r _ (by omega), hd, if_neg, if_neg h2, ht']
       ·simp only
        rw [List.drop_take, show a - at_ - blk false r - n = a - (at_ + blk false r + n) by omega, hl]
       ·intro e
        rw [e] at ht'
        cases ht'
end Go.Sep


/- ScPlain2 -/
set_option linter.unusedVariables false
set_option linter.unusedSimpArgs false
namespace Go.Sep
theorem cutF_ok : ∀ (f : Nat) (r : Str) (at_ k : Nat) (l : List Tok), cutF f r at_ k = .ok l → r.length < f → k ≤ 20000 → l.length + k ≤ 20000 ∧ (∀ t ∈ l, (at_ : Int) ≤ t.at_ ∧ t.at_ < at_ + r.length) ∧ l.Pairwise (fun a b => a.at_ < b.at_)
 | 0, r, at_, k, l, h, hf, hk => by omega
 | f + 1, r, at_, k, l, h, hf, hk => by
  have hb := blk_le false r
  rw [cutF] at h
  by_cases h1 : r.drop (blk false r) = []
  ·rw [if_pos h1] at h
   cases h
   exact ⟨by simpa using hk, by simp, List.Pairwise.nil⟩
  ·rw [if_neg h1] at h
   have hlt : blk false r < r.length := Nat.lt_of_not_le fun hge => h1 (List.drop_eq_nil_of_le hge)
   by_cases h2 : k = 20000
   ·rw [if_pos h2] at h; cases h
   ·rw [if_neg h2] at h
    cases ht : tokD (r.drop (blk false r)) with
    | none => rw [ht] at h; cases h
    | some p =>
     obtain ⟨t, n⟩ := p
     rw [ht] at h
     simp only at h
     have hn := tokD_le ht
     rw [List.length_drop] at hn
     cases hc : cutF f ((r.drop (blk false r)).drop n) (at_ + blk false r + n) (k + 1) with
     | error e => rw [hc] at h; cases h
     | ok l' =>
      rw [hc] at h
      cases h
      obtain ⟨g1, g2, g3⟩ := cutF_ok f _ _ _ _ hc (by rw [List.length_drop, List.length_drop]; omega) (by omega)
      have g2' : ∀ t ∈ l', ((at_ + blk false r + n : Nat) : Int) ≤ t.at_ ∧ t.at_ < at_ + r.length := fun t ht => by
       have := g2 t ht
       rw [List.length_drop, List.length_drop] at this
       omega
      refine ⟨by simp only [List.length_cons]; omega, fun t' ht' => ?_, List.pairwise_cons.2 ⟨fun t' ht' => ?_, g3⟩⟩
      ·rcases List.mem_cons.1 ht' with rfl | ht'
       ·simp only; omega
       ·have := g2' t' ht'; omega
      ·have := g2' t' ht'
       simp only; omega
theorem cutF_err : ∀ (f : Nat) (r : Str) (at_ k a : Nat) (e : Int), cutF f r at_ k = .error (a, e) → r.length < f → at_ ≤ a ∧ a < at_ + r.length ∧ (e = 3 ∨ e = 4)
 | 0, r, at_, k, a, e, h, hf => by omega
 | f + 1, r, at_, k, a, e, h, hf => by
  have hb := blk_le false r
  rw [cutF] at h
  by_cases h1 : r.drop (blk false r) = []
  ·rw [if_pos h1] at h; cases h
  ·rw [if_neg h1] at h
   have hlt : blk false r < r.length := Nat.lt_of_not_le fun hge => h1 (List.drop_eq_nil_of_le hge)
   by_cases h2 : k = 20000
   ·rw [if_pos h2] at h
    simp only [Except.error.injEq, Prod.mk.injEq] at h
    omega
   ·rw [if_neg h2] at h
    cases ht : tokD (r.drop (blk false r)) with
    | none =>
     rw [ht] at h
     simp only [Except.error.injEq, Prod.mk.injEq] at h
     omega
    | some p =>
     obtain ⟨t, n⟩ := p
     rw [ht] at h
     simp only at h
     have hn := tokD_le ht
     rw [List.length_drop] at hn
     cases hc : cutF f ((r.drop (blk false r)).drop n) (at_ + blk false r + n) (k + 1) with
     | ok l => rw [hc] at h; cases h
     | error e' =>
      rw [hc] at h
      simp only [Except.error.injEq] at h
      subst h
      have := cutF_err f _ _ _ _ _ hc (by rw [List.length_drop, List.length_drop]; omega)
      rw [List.length_drop, List.length_drop] at this
      omega
theorem scanD_cases (s : Str) : (65536 < s.length ∧ scanD s = ⟨[], 0, 13⟩) ∨
  (s.length ≤ 65536 ∧ ∃ l : List Tok, scanD s = ⟨l, 0, 0⟩ ∧ cutF (s.length + 1) s 0 0 = .ok l ∧ l.length ≤ 20000 ∧ (∀ t ∈ l, 0 ≤ t.at_ ∧ t.at_ < s.length) ∧ l.Pairwise (fun a b => a.at_ < b.at_)) ∨
  (s.length ≤ 65536 ∧ ∃ a e, scanD s = ⟨[], a, e⟩ ∧ a < s.length ∧ (e = 4 ∨ (e = 3 ∧ (scanD (s.take a)).e = 0))) := by
 by_cases hl : 65536 < s.length
 ·exact .inl ⟨hl, by rw [scanD, if_pos hl]⟩
 ·refine .inr ?_
  have hs : scanD s = .of (cutF (s.length + 1) s 0 0) := by rw [scanD, if_neg hl]
  cases hc : cutF (s.length + 1) s 0 0 with
  | ok l =>
   obtain ⟨h1, h2, h3⟩ := cutF_ok _ _ _ _ _ hc (by omega) (by omega)
   refine .inl ⟨by omega, l, by rw [hs, hc]; rfl, rfl, by omega, fun t ht => ?_, h3⟩
   have := h2 t ht
   omega
  | error x =>
   obtain ⟨a, e⟩ := x
   obtain ⟨h1, h2, h3⟩ := cutF_err _ _ _ _ _ _ hc (by omega)
   refine .inr ⟨by omega, a, e, by rw [hs, hc]; rfl, by omega, ?_⟩
   rcases h3 with rfl | rfl
   ·refine .inr ⟨rfl, ?_⟩
    obtain ⟨_, _, h4⟩ := cutF_take _ _ _ _ _ hc (by omega)
    obtain ⟨l, hl2⟩ := h4 (a + 1) (by omega)
    rw [Nat.sub_zero] at hl2
    rw [scanD, if_neg (by rw [List.length_take]; omega), show (s.take a).length = a by rw [List.length_take]; omega, hl2]
    rfl
   ·exact .inl rfl
theorem scanD_len (s : Str) : (scanD s).list.length ≤ 20000 := by
 rcases scanD_cases s with ⟨_, h⟩ | ⟨_, l, h, _, h2, _⟩ | ⟨_, a, e, h, _⟩
 ·rw [h]; exact Nat.zero_le _
 ·rw [h]; exact h2
 ·rw [h]; exact Nat.zero_le _
end Go.Sep


/- PsAns -/
set_option linter.unusedVariables false
set_option linter.unusedSimpArgs false
namespace Go.Sep
def tkF (l : List Tok) : Ps.F := fun i => match l[i]? with
 | some t => some ⟨t.kind, t.text, t.num⟩
 | none => none
def placeD (s : Str) (l : List Tok) (k : Nat) : Int := match l[k]? with
 | some t => t.at_
 | none => (s.length : Int)
structure PA where
 tree : Tree
 at_ : Int
 e : Int
def emptyT : Tree := .mk 0 [] 0 []
def parseL (s : Str) (l : List Tok) : PA :=
 match Ps.program l.length (tkF l) 0 with
 | .ok ds _ => if (Tree.mk 1 [] 0 ds).size ≤ 20000 ∧ (Tree.mk 1 [] 0 ds).deep ≤ 100 then ⟨.mk 1 [] 0 ds, 0, 0⟩ else ⟨emptyT, 0, 4⟩
 | .bad k => ⟨emptyT, placeD s l k, 3⟩
 | .out => ⟨emptyT, 0, 0⟩
def parseD (s : Str) : PA := if (scanD s).e = 0 then parseL s (scanD s).list else ⟨emptyT, ((scanD s).at_ : Int), (scanD s).e⟩
def ParseR (a : PA) (r : Value) (m' : Mem) : Prop := ∃ x, r = .tuple ⟨[treeV x, .int .i64 a.at_, .int .i64 a.e]⟩ ∧ TreeRep m' x a.tree
theorem emptyT_rep (m : Mem) : TreeRep m ⟨0, [], 0, ⟨none, 0, 0⟩⟩ emptyT := ⟨rfl, rfl, rfl, SlRep.nil _ _⟩
end Go.Sep


/- PsParse -/
set_option linter.unusedVariables false
set_option linter.unusedSimpArgs false
namespace Go.Sep
open Go.Proofs
attribute [local irreducible] TC TO OT TCallX TCall DO DOt thenQ blockQ retQ At
def ParseE (a : PA) (m : Mem) (L : List Item) : Ending → World → Prop
 | .returned v, w' => ∃ m' L', St m' w' L' ∧ Made m L (ParseR a) v m' L'
 | .panicked _, _ => False
 | .outgrown, _ => False
theorem parseE_end {P : Program} {fn : Func} {a : PA} {m m' : Mem} {L : List Item} {ρ : Env} {tmps : Array Value} {w : World} {b2 b3 b4 : Nat} {x : HTree} {L' : List Item} (T : Tab P) {t2 t3 t4 : TypeId}
  (hres : fn.results = ⟨[.cell 2 t2, .cell 3 t3, .cell 4 t4]⟩) (hA : ∀ i v, look ρ i = some v → tmps[i]? = some v) (h2 : look ρ 2 = some (.pointer (some ⟨b2, 0, none⟩))) (h3 : look ρ 3 = some (.pointer (some ⟨b3, 0, none⟩))) (h4 : look ρ 4 = some (.pointer (some ⟨b4, 0, none⟩)))
  (l2 : T.load t2 (treeC x) 0 = some (treeV x)) (l3 : T.load t3 [.int .i64 a.at_] 0 = some (.int .i64 a.at_)) (l4 : T.load t4 [.int .i64 a.e] 0 = some (.int .i64 a.e))
  (hst : St m' w (.cells b2 0 (treeC x) :: .cells b3 0 [.int .i64 a.at_] :: .cells b4 0 [.int .i64 a.e] :: L')) (hsub : L.Sublist L') (hm : m ≤ m') (hr : TreeRep m' x a.tree) : Leaves P fn tmps (ParseE a m L) [] .returning w := by
 refine ⟨.tuple ⟨[treeV x, .int .i64 a.at_, .int .i64 a.e]⟩, ?_, m', L, hst.sub ?_, hm, rfl, x, rfl, hr⟩
 ·have g2 := run_loadVar (P := P) T (k := 0) (hst.cells (i := 0) rfl) l2
  have g3 := run_loadVar (P := P) T (k := 0) (hst.cells (i := 1) rfl) l3
  have g4 := run_loadVar (P := P) T (k := 0) (hst.cells (i := 2) rfl) l4
  have e2 := hA 2 _ h2
  have e3 := hA 3 _ h3
  have e4 := hA 4 _ h4
  unfold results
  rw [hres, Array.mapM_eq_mapM_toList]
  simp [Sem.run_bind, Sem.run_map, e2, e3, e4, asAddr, g2, g3, g4]
 ·exact List.Sublist.cons _ (List.Sublist.cons _ (List.Sublist.cons _ hsub))
set_option maxHeartbeats 2000000 in
theorem parse_law (hout : ∀ l : List Tok, Ps.program l.length (tkF l) 0 ≠ .out) (m : Mem) (L : List Item) (s : Str) (hE : Errs m) : TCall Tryz.prog 8 ⟨[strV s]⟩ m L (Made m L (ParseR (parseD s))) := by
 have key : ∀ w, St m w L → Calls Tryz.prog 8 ⟨[strV s]⟩ w (ParseE (parseD s) m L) := by
  intro w hst
  have hll := scanD_len s
  refine calls_enterD Tryz.func8 rfl 31 rfl hst ?_
  repeat (first|refine q1 ?_|refine q3 ?_)
  refine TO.step rfl (OT.alloc tab rfl rfl rfl rfl (fun b2 => ?_))
  refine TO.step rfl (OT.alloc tab rfl rfl rfl rfl (fun b3 => ?_))
  refine TO.step rfl (OT.alloc tab rfl rfl rfl rfl (fun b4 => ?_))
  repeat (first|refine q1 ?_|refine q3 ?_|refine q4 tab rfl rfl ?_|refine q5 ?_|refine q6 ?_)
  refine TO.step rfl (OT.call rfl rfl rfl rfl rfl rfl goes14 ((scan_law _ _ s hE).x ?_));
  rintro _ m1 _ ⟨hm1, rfl, sl, rfl, hsl⟩
  repeat (refine q4 tab rfl rfl ?_)
  refine TO.step rfl (OT.storeL0 tab 1 rfl rfl rfl rfl rfl rfl rfl rfl ?_)
  skip
  refine TO.step rfl (OT.storeL0 tab 0 rfl rfl rfl rfl rfl rfl rfl rfl ?_)
  repeat (first|refine q1 ?_|refine q3 ?_|refine q5 ?_|refine q6 ?_)
  (refine qs rfl (qz tab 0 rfl rfl rfl rfl rfl rfl ?_))
  repeat (first|refine q4 tab rfl rfl ?_|refine q5 ?_|refine q6 ?_)
  refine TC.condN rfl (fun he => ?_) (fun he => ?_)
  ·have hD : parseD s = ⟨emptyT, ((scanD s).at_ : Int), (scanD s).e⟩ := by rw [parseD, if_neg he]
   refine TC.quiet ?_
   refine TC.draw [5] mixed 6 rfl [.cells b4 0 [.int .i64 (scanD s).e]] (.cells b3 0 [.int .i64 ((scanD s).at_ : Int)] :: .cells b2 0 [.int .i64 0, strV [], .int .i64 0, .slice none 0 0] :: L) (List.Perm.refl _) ?_
   refine DO.pure tab (by repeat (exact Calm.quiet)) (by kernel_rfl) [0] (by kernel_rfl) rfl ?_
   refine DO.loadL (k := 0) tab 2 0 (by repeat (exact Calm.quiet)) (by kernel_rfl) (by kernel_rfl) rfl rfl rfl rfl rfl rfl rfl rfl ?_
   refine DO.fork 1 [3] (by kernel_rfl) ⟨⟨_, rfl, rfl, rfl, ?_⟩, ⟨_, rfl, rfl, rfl, ?_⟩, trivial⟩
   ·refine OT.loadL0 tab 1 rfl rfl rfl rfl rfl rfl ?_
    refine ⟨Mem.le_refl _, _, List.Perm.refl _, ?_⟩
    refine DO.run 3 rfl rfl (by kernel_rfl) rfl ?_
    refine OT.storeL0 tab 2 rfl rfl rfl rfl rfl rfl rfl rfl ?_
    refine ⟨Mem.le_refl _, _, List.Perm.refl _, ?_⟩
    refine DO.run 4 rfl rfl (by kernel_rfl) rfl ?_
    refine OT.storeL0 tab 1 rfl rfl rfl rfl rfl rfl rfl rfl ?_
    refine ⟨Mem.le_refl _, _, List.Perm.refl _, ?_⟩
    refine DO.tail ?_
    refine DOt.run 5 rfl rfl (by kernel_rfl) rfl ?_
    refine OT.storeL0 tab 0 rfl rfl rfl rfl rfl rfl rfl rfl ?_
    refine DOt.nil (by kernel_rfl) ?_
    refine TC.ret ?_
    refine thenQ_r ?_
    intro tmps w' hA hst'
    rw [hD]
    exact parseE_end (x := ⟨0, [], 0, ⟨none, 0, 0⟩⟩) (L' := L) tab rfl hA rfl rfl rfl rfl rfl rfl (hst'.perm (List.Perm.trans pfr2 (List.Perm.cons _ pfr1))) (List.Sublist.refl _) hm1 (emptyT_rep _)
   ·refine OT.storeL0 tab 2 rfl rfl rfl rfl rfl rfl rfl rfl ?_
    refine ⟨Mem.le_refl _, _, List.Perm.refl _, ?_⟩
    refine DO.run 1 rfl rfl (by kernel_rfl) rfl ?_
    refine OT.loadL0 tab 1 rfl rfl rfl rfl rfl rfl ?_
    refine ⟨Mem.le_refl _, _, List.Perm.refl _, ?_⟩
    refine DO.run 4 rfl rfl (by kernel_rfl) rfl ?_
    refine OT.storeL0 tab 1 rfl rfl rfl rfl rfl rfl rfl rfl ?_
    refine ⟨Mem.le_refl _, _, List.Perm.refl _, ?_⟩
    refine DO.tail ?_
    refine DOt.run 5 rfl rfl (by kernel_rfl) rfl ?_
    refine OT.storeL0 tab 0 rfl rfl rfl rfl rfl rfl rfl rfl ?_
    refine DOt.nil (by kernel_rfl) ?_
    refine TC.ret ?_
    refine thenQ_r ?_
    intro tmps w' hA hst'
    rw [hD]
    exact parseE_end (x := ⟨0, [], 0, ⟨none, 0, 0⟩⟩) (L' := L) tab rfl hA rfl rfl rfl rfl rfl rfl (hst'.perm (List.Perm.trans pfr2 (List.Perm.cons _ pfr1))) (List.Sublist.refl _) hm1 (emptyT_rep _)
  ·have hD : parseD s = parseL s (scanD s).list := by rw [parseD, if_pos he]
   rw [hD]
   generalize (scanD s).list = l at hsl hll
   repeat (first|refine q1 ?_|refine q3 ?_|refine q4 tab rfl rfl ?_|refine q6 ?_|refine q13 ?_)
   refine TO.step rfl (OT.box rfl rfl rfl rfl rfl (fun bp => ?_))
   repeat (first|refine q1 ?_|refine q3 ?_|refine q4 tab rfl rfl ?_|refine q5 ?_|refine q6 ?_)
   refine TO.defer rfl rfl rfl rfl rfl ?_
   repeat (first|refine q1 ?_|refine q3 ?_|refine q4 tab rfl rfl ?_|refine q5 ?_|refine q6 ?_)
   have hEk : (⟨s, sl, l, bp, l.length + 1⟩ : PE).Ok m1 := ⟨hsl, hll, by show l.length + 1 ≤ _; omega, by show 1 ≤ l.length + 1; omega⟩
   have hG := gw (mb := m1) (E := ⟨s, sl, l, bp, l.length + 1⟩) (3 * l.length + 4)
   have hP := program_par (decl_par (hG.typ 0) (hG.block 0)) m1 (.cells b4 0 [.int .i64 (scanD s).e] :: .cells b3 0 [.int .i64 ((scanD s).at_ : Int)] :: .cells b2 0 [.int .i64 0, strV [], .int .i64 0, .slice none 0 0] :: L) 0 (Mem.le_refl _) hEk (Nat.zero_le _)
   have hpe : Ps.program l.length (tkF l) 0 = Ps.progL (Ps.declP (l.length + 1) (Ps.gr (l.length + 1) (3 * l.length + 4)).typ (Ps.gr (l.length + 1) (3 * l.length + 4)).block) (l.length + 1) (PE.f ⟨s, sl, l, bp, l.length + 1⟩) 0 := rfl
   have hn := hout l
   rw [hpe] at hn
   refine TO.step rfl (OT.call rfl rfl rfl rfl rfl rfl goes19 (TCallX.mono (hP ?_) ?_ ?_))
   ·intro hb
    unfold Ps.bind at hb
    split at hb
    ·cases hb
    ·cases hb
    ·rename_i he'
     exact hn he'
   ·rintro v m2 L2 ⟨a, k', xs, h1, hm2, hk', ⟨x, rfl, rfl, hrx⟩, rfl⟩
    obtain ⟨ds, hds, rfl⟩ : ∃ ds, Ps.program l.length (tkF l) 0 = .ok ds k' ∧ a = .mk 1 [] 0 ds := by
     rw [hpe]
     unfold Ps.bind at h1
     split at h1
     ·rename_i ds k'' he'
      injection h1 with h1 h2
      subst h2
      exact ⟨ds, he', h1.symm⟩
     ·cases h1
     ·cases h1
    replace hm1 := Mem.le_trans hm1 hm2
    skip
    refine TO.step rfl (OT.storeL0 tab 3 rfl rfl rfl rfl rfl rfl rfl rfl ?_)
    repeat (first|refine q1 ?_|refine q3 ?_|refine q5 ?_|refine q6 ?_)
    refine TO.step rfl (OT.alloc tab rfl rfl rfl rfl (fun bl => ?_))
    skip
    (refine TO.step rfl (OT.storeL0 tab 0 rfl rfl rfl rfl rfl rfl rfl rfl ?_))
    repeat (first|refine q1 ?_|refine q3 ?_|refine q5 ?_|refine q6 ?_)
    refine TO.step rfl (OT.loadL0 tab 4 rfl rfl rfl rfl rfl rfl ?_)
    skip
    refine TO.step rfl (OT.call rfl rfl rfl rfl rfl rfl goes20 ((fits_law (.mk 1 [] 0 ds) m2 _ x bl 1 20000 hrx (by decide) (by decide) (by decide) (by decide)).x ?_));
    rintro _ _ _ ⟨rfl, ⟨rfl, k1, k2, rfl⟩ | ⟨rfl, k1, n, rfl⟩⟩
    ·have hA2 : parseL s l = ⟨.mk 1 [] 0 ds, 0, 0⟩ := by
      rw [parseL, hds]
      exact if_pos ⟨by omega, by omega⟩
     repeat (first|refine q1 ?_|refine q3 ?_|refine q4 tab rfl rfl ?_|refine q5 ?_|refine q6 ?_|refine q13 ?_|refine q17 rfl ?_)
     refine TO.step rfl (OT.loadL0 tab 4 rfl rfl rfl rfl rfl rfl ?_)
     skip
     refine TO.step rfl (OT.storeL0 tab 4 rfl rfl rfl rfl rfl rfl rfl rfl ?_)
     refine TO.step rfl (OT.storeL0 tab 3 rfl rfl rfl rfl rfl rfl rfl rfl ?_)
     refine TO.step rfl (OT.storeL0 tab 2 rfl rfl rfl rfl rfl rfl rfl rfl ?_)
     refine TO.nil ?_
     refine thenQ_n ?_
     refine TC.ret ?_
     intro tmps w' hA hst'
     rw [hA2]
     refine leaves_cons (by simp) (invoke_goes goes18) ?_
     refine (rec_idle b2 b3 b4 _ _ w' hst').mono ?_
     rintro e u' w2 ⟨v, rfl, rfl, hst2⟩
     exact parseE_end (x := x) tab rfl hA rfl rfl rfl rfl rfl rfl (hst2.perm (List.Perm.trans pfr4 (List.Perm.cons _ (List.Perm.trans pfr3 (List.Perm.cons _ pfr2))))) (List.Sublist.cons _ (List.Sublist.cons _ (List.Sublist.refl _))) hm1 hrx
    ·have hA2 : parseL s l = ⟨emptyT, 0, 4⟩ := by
      rw [parseL, hds]
      exact if_neg fun h => k1 ⟨by omega, by omega⟩
     repeat (first|refine q1 ?_|refine q3 ?_|refine q4 tab rfl rfl ?_|refine q5 ?_|refine q6 ?_|refine q16 rfl ?_)
     refine TO.step rfl (OT.storeL0 tab 4 rfl rfl rfl rfl rfl rfl rfl rfl ?_)
     refine TO.step rfl (OT.storeL0 tab 3 rfl rfl rfl rfl rfl rfl rfl rfl ?_)
     refine TO.step rfl (OT.storeL0 tab 2 rfl rfl rfl rfl rfl rfl rfl rfl ?_)
     refine TO.nil ?_
     refine thenQ_n ?_
     refine TC.ret ?_
     refine thenQ_r ?_
     intro tmps w' hA hst'
     rw [hA2]
     refine leaves_cons (by simp) (invoke_goes goes18) ?_
     refine (rec_idle b2 b3 b4 _ _ w' hst').mono ?_
     rintro e u' w2 ⟨v, rfl, rfl, hst2⟩
     exact parseE_end (x := ⟨0, [], 0, ⟨none, 0, 0⟩⟩) tab rfl hA rfl rfl rfl rfl rfl rfl (hst2.perm (List.Perm.trans pfr4 (List.Perm.cons _ (List.Perm.trans pfr3 (List.Perm.cons _ pfr2))))) (List.Sublist.cons _ (List.Sublist.cons _ (List.Sublist.refl _))) hm1 (emptyT_rep _)
   ·rintro ch m2 L2 ⟨k', h', h1, hm2, hk', rfl, rfl⟩
    have hA2 : parseL s l = ⟨emptyT, placeD s l k', 3⟩ := by
     have : Ps.program l.length (tkF l) 0 = .bad k' := by
      rw [hpe]
      unfold Ps.bind at h1
      split at h1
      ·cases h1
      ·rename_i he'
       injection h1 with h1
       rw [← h1]; exact he'
      ·cases h1
     rw [parseL, this]
    replace hm1 := Mem.le_trans hm1 hm2
    repeat (refine thenQ_p ?_)
    intro tmps w' hA hst'
    rw [hA2]
    refine leaves_cons (by simp) (invoke_goes goes18) ?_
    refine (rec_fault b2 b3 b4 m2 _ w' (placeD s l k') _ _ _ rfl rfl rfl (hst'.perm (List.Perm.trans pfr3 (List.Perm.cons _ (List.Perm.trans pfr2 (List.Perm.cons _ pfr1)))))).mono ?_
    rintro e u' w2 ⟨v, rfl, rfl, hst2⟩
    exact parseE_end (x := ⟨0, [], 0, ⟨none, 0, 0⟩⟩) tab rfl hA rfl rfl rfl rfl rfl rfl hst2 (List.Sublist.cons _ (List.Sublist.refl _)) hm1 (emptyT_rep _)
 unfold TCall TCallX
 intro w hst
 refine (key w hst).mono fun e w' he => ?_
 cases e with
 | returned v => exact he
 | panicked ch => exact he.elim
 | outgrown => exact he
end Go.Sep


/- PsTyp -/
set_option linter.unusedVariables false
set_option linter.unusedSimpArgs false
namespace Go.Sep
mutual
def Tree.isType : Tree → Bool
 | .mk k n u ks =>
  if k = 10 then decide (u = 0) && (isName n && decide (ks.length = 0))
  else if k = 11 ∨ k = 12 then decide (n = []) && (decide (u = 0) && (decide (ks.length = 1) && allType ks))
  else if k = 13 then decide (n = []) && (decide (0 ≤ u) && (decide (u ≤ (ks.length : Int)) && allType ks))
  else false
def allType : List Tree → Bool
 | [] => true
 | t :: ts => t.isType && allType ts
end
theorem allType_eq : ∀ l : List Tree, allType l = l.all Tree.isType
 | [] => rfl
 | t :: ts => by rw [allType, allType_eq ts, List.all_cons]
theorem isType_eq (a : Tree) : a.isType =
  if a.kind = 10 then decide (a.num = 0) && (isName a.name && decide (a.kids.length = 0))
  else if a.kind = 11 ∨ a.kind = 12 then decide (a.name = []) && (decide (a.num = 0) && (decide (a.kids.length = 1) && a.kids.all Tree.isType))
  else if a.kind = 13 then decide (a.name = []) && (decide (0 ≤ a.num) && (decide (a.num ≤ (a.kids.length : Int)) && a.kids.all Tree.isType))
  else false := by
 obtain ⟨k, n, u, ks⟩ := a
 simp only [Tree.kind, Tree.name, Tree.num, Tree.kids]
 rw [Tree.isType, allType_eq]
 rfl
def Tree.isParam (a : Tree) : Bool := decide (a.kind = 8) && (decide (a.num = 0) && (isName a.name && (decide (a.kids.length = 1) && a.kids.all Tree.isType)))
def Tree.isSig (a : Tree) : Bool := decide (a.kind = 7) && (decide (a.name = []) && (decide (0 ≤ a.num) && (decide (a.num ≤ (a.kids.length : Int)) && ((a.kids.take a.num.toNat).all Tree.isParam && (a.kids.drop a.num.toNat).all Tree.isType))))
def bareB (a : Tree) (k t u : Bool) : Bool := k && ((t || decide (a.name = [])) && (u || decide (a.num = 0)))
def ofB (a : Tree) (k : Int) : Bool := decide (a.kind = k) && (decide (a.num = 0) && isName a.name)
def kidsR : List (Tree → Bool) → Option (Tree → Bool) → List Tree → Bool
 | [], none, l => l.isEmpty
 | [], some r, l => l.all r
 | _ :: _, _, [] => false
 | p :: ps, rest, x :: l => p x && kidsR ps rest l
theorem kidsR_short : ∀ (ps : List (Tree → Bool)) (rest : Option (Tree → Bool)) (l : List Tree), l.length < ps.length → kidsR ps rest l = false
 | [], _, _, h => by simp at h
 | _ :: _, _, [], _ => by simp [kidsR]
 | p :: ps, rest, x :: l, h => by rw [kidsR, kidsR_short ps rest l (by simpa using h), Bool.and_false]
theorem kidsR_long : ∀ (ps : List (Tree → Bool)) (l : List Tree), ps.length < l.length → kidsR ps none l = false
 | [], [], h => by simp at h
 | [], _ :: _, _ => by simp [kidsR]
 | _ :: _, [], h => by simp at h
 | p :: ps, x :: l, h => by rw [kidsR, kidsR_long ps l (by simpa using h), Bool.and_false]
theorem kidsR_step (ps : List (Tree → Bool)) (rest : Option (Tree → Bool)) (l : List Tree) (k : Nat) (h1 : k < ps.length) (h2 : k < l.length) : kidsR (ps.drop k) rest (l.drop k) = (ps[k] l[k] && kidsR (ps.drop (k + 1)) rest (l.drop (k + 1))) := by
 rw [List.drop_eq_getElem_cons h1, List.drop_eq_getElem_cons h2, kidsR]
theorem kidsR_rest (ps : List (Tree → Bool)) (r : Tree → Bool) (l : List Tree) (k : Nat) (h1 : ps.length ≤ k) (h2 : k < l.length) : kidsR (ps.drop k) (some r) (l.drop k) = (r l[k] && kidsR (ps.drop (k + 1)) (some r) (l.drop (k + 1))) := by
 rw [List.drop_eq_nil_of_le h1, List.drop_eq_nil_of_le (show ps.length ≤ k + 1 by omega), List.drop_eq_getElem_cons h2, kidsR, kidsR, List.all_cons]
theorem kidsR_end (ps : List (Tree → Bool)) (rest : Option (Tree → Bool)) (l : List Tree) (k : Nat) (h1 : ps.length ≤ k) (h2 : l.length ≤ k) : kidsR (ps.drop k) rest (l.drop k) = true := by
 rw [List.drop_eq_nil_of_le h1, List.drop_eq_nil_of_le h2]
 cases rest <;> rfl
end Go.Sep

