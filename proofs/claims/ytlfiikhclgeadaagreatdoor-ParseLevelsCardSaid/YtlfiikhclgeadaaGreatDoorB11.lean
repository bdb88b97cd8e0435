/- PsLevelsW -/
import Derived.Test.YtlfiikhclgeadaaGreatDoorB10
set_option linter.unusedVariables false
set_option linter.unusedSimpArgs false
namespace Go.Sep
open Go.Proofs
attribute [local irreducible] TC TO OT TCallX TCall DO DOt thenQ blockQ retQ At
set_option maxHeartbeats 1000000 in
theorem level2_law (m : Mem) (L : List Item) (s : Str) : TCall Tryz.prog 16 ⟨[strV s]⟩ m L (Ret (.int .i64 (lvN s : Int)) m L) := by
 unfold TCall lvN
 refine TCallX.enter Tryz.func16 rfl 22 rfl ?_
 repeat (first|refine q1 ?_|refine q2 ?_|refine q3 ?_|refine q4 tab rfl rfl ?_|refine q5 ?_|refine q6 ?_)
 refine TC.condP rfl (fun a1 => ?_) (fun a1 => ?_)
 ·skip
  subst a1
  repeat (first|refine q1 ?_|refine q3 ?_|refine q4 tab rfl rfl ?_|refine q5 ?_|refine q6 ?_|refine q8 ?_|refine q9 ?_|refine q15 ?_)
  refine retQ_ret rfl (by repeat (exact List.Sublist.refl _)) ⟨rfl, rfl, ?_⟩
  rfl
 repeat (first|refine q1 ?_|refine q3 ?_|refine q4 tab rfl rfl ?_|refine q5 ?_|refine q6 ?_)
 refine TC.condP rfl (fun a2 => ?_) (fun a2 => ?_)
 ·skip
  subst a2
  repeat (first|refine q1 ?_|refine q3 ?_|refine q4 tab rfl rfl ?_|refine q5 ?_|refine q6 ?_|refine q8 ?_|refine q9 ?_|refine q15 ?_)
  refine retQ_ret rfl (by repeat (exact List.Sublist.refl _)) ⟨rfl, rfl, ?_⟩
  rfl
 repeat (first|refine q1 ?_|refine q3 ?_|refine q4 tab rfl rfl ?_|refine q5 ?_|refine q6 ?_)
 refine TC.condP rfl (fun a3 => ?_) (fun a3 => ?_)
 ·skip
  subst a3
  repeat (first|refine q1 ?_|refine q3 ?_|refine q4 tab rfl rfl ?_|refine q5 ?_|refine q6 ?_|refine q8 ?_|refine q9 ?_|refine q13 ?_|refine q15 ?_|refine q16 rfl ?_)
  refine retQ_ret rfl (by repeat (exact List.Sublist.refl _)) ⟨rfl, rfl, ?_⟩
  rfl
 repeat (first|refine q1 ?_|refine q3 ?_|refine q4 tab rfl rfl ?_|refine q5 ?_|refine q6 ?_)
 refine TC.condP rfl (fun a4 => ?_) (fun a4 => ?_)
 ·skip
  subst a4
  repeat (first|refine q1 ?_|refine q3 ?_|refine q4 tab rfl rfl ?_|refine q5 ?_|refine q6 ?_|refine q8 ?_|refine q9 ?_|refine q13 ?_|refine q15 ?_|refine q16 rfl ?_)
  refine retQ_ret rfl (by repeat (exact List.Sublist.refl _)) ⟨rfl, rfl, ?_⟩
  rfl
 repeat (first|refine q1 ?_|refine q3 ?_|refine q4 tab rfl rfl ?_|refine q5 ?_|refine q6 ?_)
 refine TC.condP rfl (fun a5 => ?_) (fun a5 => ?_)
 ·skip
  subst a5
  repeat (first|refine q1 ?_|refine q3 ?_|refine q4 tab rfl rfl ?_|refine q5 ?_|refine q6 ?_|refine q8 ?_|refine q9 ?_|refine q13 ?_|refine q15 ?_|refine q16 rfl ?_)
  refine retQ_ret rfl (by repeat (exact List.Sublist.refl _)) ⟨rfl, rfl, ?_⟩
  rfl
 repeat (first|refine q1 ?_|refine q3 ?_|refine q4 tab rfl rfl ?_|refine q5 ?_|refine q6 ?_)
 refine TC.condP rfl (fun a6 => ?_) (fun a6 => ?_)
 ·skip
  subst a6
  repeat (first|refine q1 ?_|refine q3 ?_|refine q4 tab rfl rfl ?_|refine q5 ?_|refine q6 ?_|refine q8 ?_|refine q9 ?_|refine q13 ?_|refine q15 ?_|refine q16 rfl ?_)
  refine retQ_ret rfl (by repeat (exact List.Sublist.refl _)) ⟨rfl, rfl, ?_⟩
  rfl
 repeat (first|refine q1 ?_|refine q3 ?_|refine q4 tab rfl rfl ?_|refine q5 ?_|refine q6 ?_)
 refine TC.condP rfl (fun a7 => ?_) (fun a7 => ?_)
 ·skip
  subst a7
  repeat (first|refine q1 ?_|refine q3 ?_|refine q4 tab rfl rfl ?_|refine q5 ?_|refine q6 ?_|refine q8 ?_|refine q9 ?_|refine q13 ?_|refine q15 ?_|refine q16 rfl ?_)
  refine retQ_ret rfl (by repeat (exact List.Sublist.refl _)) ⟨rfl, rfl, ?_⟩
  rfl
 repeat (first|refine q3 ?_|refine q4 tab rfl rfl ?_|refine q5 ?_|refine q6 ?_)
 refine TC.condP rfl (fun a8 => ?_) (fun a8 => ?_)
 ·skip
  subst a8
  repeat (first|refine q1 ?_|refine q3 ?_|refine q4 tab rfl rfl ?_|refine q5 ?_|refine q6 ?_|refine q8 ?_|refine q9 ?_|refine q15 ?_)
  refine retQ_ret rfl (by repeat (exact List.Sublist.refl _)) ⟨rfl, rfl, ?_⟩
  rfl
 repeat (first|refine q1 ?_|refine q3 ?_|refine q4 tab rfl rfl ?_|refine q5 ?_|refine q6 ?_)
 refine TC.condP rfl (fun a9 => ?_) (fun a9 => ?_)
 ·skip
  subst a9
  repeat (first|refine q1 ?_|refine q3 ?_|refine q4 tab rfl rfl ?_|refine q5 ?_|refine q6 ?_|refine q8 ?_|refine q9 ?_|refine q13 ?_|refine q15 ?_|refine q16 rfl ?_)
  refine retQ_ret rfl (by repeat (exact List.Sublist.refl _)) ⟨rfl, rfl, ?_⟩
  rfl
 repeat (first|refine q3 ?_|refine q4 tab rfl rfl ?_|refine q5 ?_|refine q6 ?_)
 refine TC.condP rfl (fun a10 => ?_) (fun a10 => ?_)
 ·skip
  subst a10
  repeat (first|refine q1 ?_|refine q3 ?_|refine q4 tab rfl rfl ?_|refine q5 ?_|refine q6 ?_|refine q8 ?_|refine q9 ?_|refine q15 ?_)
  refine retQ_ret rfl (by repeat (exact List.Sublist.refl _)) ⟨rfl, rfl, ?_⟩
  rfl
 repeat (first|refine q1 ?_|refine q3 ?_|refine q4 tab rfl rfl ?_|refine q5 ?_|refine q6 ?_)
 refine TC.condP rfl (fun a11 => ?_) (fun a11 => ?_)
 ·skip
  subst a11
  repeat (first|refine q1 ?_|refine q3 ?_|refine q4 tab rfl rfl ?_|refine q5 ?_|refine q6 ?_|refine q8 ?_|refine q9 ?_|refine q13 ?_|refine q15 ?_|refine q16 rfl ?_)
  refine retQ_ret rfl (by repeat (exact List.Sublist.refl _)) ⟨rfl, rfl, ?_⟩
  rfl
 repeat (first|refine q1 ?_|refine q3 ?_|refine q4 tab rfl rfl ?_|refine q5 ?_|refine q6 ?_)
 refine TC.condP rfl (fun a12 => ?_) (fun a12 => ?_)
 ·skip
  subst a12
  repeat (first|refine q1 ?_|refine q3 ?_|refine q4 tab rfl rfl ?_|refine q5 ?_|refine q6 ?_|refine q8 ?_|refine q9 ?_|refine q13 ?_|refine q15 ?_|refine q16 rfl ?_)
  refine retQ_ret rfl (by repeat (exact List.Sublist.refl _)) ⟨rfl, rfl, ?_⟩
  rfl
 repeat (first|refine q3 ?_|refine q4 tab rfl rfl ?_|refine q5 ?_|refine q6 ?_)
 refine TC.condP rfl (fun a13 => ?_) (fun a13 => ?_)
 ·skip
  subst a13
  repeat (first|refine q1 ?_|refine q3 ?_|refine q4 tab rfl rfl ?_|refine q5 ?_|refine q6 ?_|refine q8 ?_|refine q9 ?_|refine q15 ?_)
  refine retQ_ret rfl (by repeat (exact List.Sublist.refl _)) ⟨rfl, rfl, ?_⟩
  rfl
 repeat (first|refine q1 ?_|refine q3 ?_|refine q4 tab rfl rfl ?_|refine q5 ?_|refine q6 ?_|refine q7 ?_|refine q13 ?_|refine q15 ?_)
 refine retQ_ret rfl (by repeat (exact List.Sublist.refl _)) ⟨rfl, rfl, ?_⟩
 simp [a1, a2, a3, a4, a5, a6, a7, a8, a9, a10, a11, a12, a13]
theorem three_law (m : Mem) (L : List Item) (p q : Str) (hp : p.length ≤ 2) (hq : q.length ≤ 2) : TCall Tryz.prog 15 ⟨[strV p, strV q]⟩ m L (Ret (strV ([97, 32] ++ p ++ [32, 98, 32] ++ q ++ [32, 99])) m L) := by
 unfold TCall
 refine TCallX.enter Tryz.func15 rfl 11 rfl ?_
 repeat (first|refine q1 ?_|refine q3 ?_|refine q4 tab rfl rfl ?_|refine q5 ?_|refine q6 ?_)
 refine TO.step rfl (OT.concat (s := [97, 32]) (u := p) rfl rfl rfl rfl rfl (by simp only [List.length_append, List.length_cons, List.length_nil]; omega) ?_)
 refine TO.step rfl (OT.concat (s := [97, 32] ++ p) (u := [32, 98, 32]) rfl rfl rfl rfl rfl (by simp only [List.length_append, List.length_cons, List.length_nil]; omega) ?_)
 repeat (refine q4 tab rfl rfl ?_)
 refine TO.step rfl (OT.concat (s := [97, 32] ++ p ++ [32, 98, 32]) (u := q) rfl rfl rfl rfl rfl (by simp only [List.length_append, List.length_cons, List.length_nil]; omega) ?_)
 refine TO.step rfl (OT.concat (s := [97, 32] ++ p ++ [32, 98, 32] ++ q) (u := [32, 99]) rfl rfl rfl rfl rfl (by simp only [List.length_append, List.length_cons, List.length_nil]; omega) ?_)
 repeat (first|refine q4 tab rfl rfl ?_|refine q5 ?_|refine q6 ?_|refine q15 ?_)
 refine retQ_ret rfl (by repeat (exact List.Sublist.refl _)) ⟨rfl, rfl, ?_⟩
 rfl
def atD : Tree → List Nat → Tree
 | t, [] => t
 | t, i :: is => match t.kids[i]? with
  | some k => atD k is
  | none => .mk 0 [] 0 []
def zT : HTree := ⟨0, [], 0, ⟨none, 0, 0⟩⟩
set_option maxHeartbeats 1000000 in
theorem at_law (m : Mem) (L : List Item) (h : HTree) (t : Tree) (hr : TreeRep m h t) (s : Sl) (p : List Nat) (hs : SlRep rInt m s (p.map Int.ofNat)) :
  TCall Tryz.prog 17 ⟨[treeV h, s.v]⟩ m L (fun r m' L' => m' = m ∧ L' = L ∧ ∃ h', r = treeV h' ∧ TreeRep m h' (atD t p)) := by
 have hlen := hs.len
 have hsm := hs.small rfl
 rw [List.length_map] at hlen hsm
 unfold TCall
 refine TCallX.enter Tryz.func17 rfl 30 rfl ?_
 repeat (first|refine q1 ?_|refine q3 ?_)
 refine TO.step rfl (OT.box rfl rfl rfl rfl rfl (fun b2 => ?_))
 refine TO.step rfl (OT.alloc tab rfl rfl rfl rfl (fun b4 => ?_))
 repeat (first|refine q1 ?_|refine q2 ?_|refine q3 ?_|refine q4 tab rfl rfl ?_|refine q5 ?_|refine q6 ?_)
 refine TC.loopK (ι := Nat × HTree × Tree) [1, 2, 4] rfl (fun x => [(5, .int .i64 (x.1 : Int))]) (fun _ => m) (fun x => .cells b4 0 [.int .i64 0, strV [], .int .i64 0, .slice none 0 0] :: .cells b2 0 (treeC x.2.1) :: L) (fun x => x.1 ≤ p.length ∧ TreeRep m x.2.1 x.2.2 ∧ atD t p = atD x.2.2 (p.drop x.1)) (fun x => p.length - x.1) (0, h, t) (by repeat (first|exact trivial|refine And.intro rfl ?_)) rfl (by repeat (exact List.Sublist.refl _)) ⟨Nat.zero_le _, hr, rfl⟩ ?_
 clear hr
 rintro ⟨k, x, u⟩ ⟨hk, hr, hI⟩
 simp only at hk hr hI
 show TC _ _ _ _ _ m (.cells b4 0 [.int .i64 0, strV [], .int .i64 0, .slice none 0 0] :: .cells b2 0 (treeC x) :: L) _
 have hr' := hr
 obtain ⟨r1, r2, r3, r4⟩ := hr
 have rl := r4.len
 repeat (first|refine q1 ?_|refine q3 ?_|refine q4 tab rfl rfl ?_|refine q5 ?_|refine q6 ?_)
 refine TC.condP rfl (fun c1 => ?_) (fun c1 => ?_)
 ·have hlt : k < p.length := by omega
  have hx : (p.map Int.ofNat)[k]? = some (p[k] : Int) := by simp [hlt]
  have hdr : p.drop k = p[k] :: p.drop (k + 1) := List.drop_eq_getElem_cons hlt
  repeat (first|refine q1 ?_|refine q2 ?_|refine q6 ?_|refine q13 ?_)
  refine TC.draw0 [] mixed 8 rfl ?_
  refine DO.pure tab (by repeat (first|exact Calm.ret|refine Calm.then ?_|refine Calm.block ?_)) (by kernel_rfl) [0, 1] (by kernel_rfl) rfl ?_
  refine DO.index tab rInt 2 k hs (by repeat (first|exact Calm.ret|refine Calm.then ?_|refine Calm.block ?_)) (by kernel_rfl) (by kernel_rfl) rfl rfl rfl rfl rfl rfl rfl (by first | rfl | omega) rfl hx ?_
  rintro b' i' hd' hrd' hA'; obtain rfl := (show hd' = (p[k] : Int) from hrd')
  (refine DO.loadA (k := 0) tab 3 hA' (by repeat (first|exact Calm.ret|refine Calm.then ?_|refine Calm.block ?_)) (by kernel_rfl) (by kernel_rfl) rfl rfl rfl rfl rfl rfl rfl ?_)
  refine DO.pure tab (by repeat (first|exact Calm.ret|refine Calm.then ?_|refine Calm.block ?_)) (by kernel_rfl) [4] (by kernel_rfl) rfl ?_
  (refine DO.loadL tab 5 1 (by repeat (first|exact Calm.ret|refine Calm.then ?_|refine Calm.block ?_)) (by kernel_rfl) (by kernel_rfl) rfl rfl rfl rfl rfl rfl rfl rfl ?_)
  refine DO.pure tab (by repeat (first|exact Calm.ret|refine Calm.then ?_|refine Calm.block ?_)) (by kernel_rfl) [6, 7] (by kernel_rfl) rfl ?_
  (refine DO.nil0 (by kernel_rfl) ?_)
  rotate_left 1
  repeat (refine q6 ?_)
  refine TC.condP rfl (fun c2 => ?_) (fun c2 => ?_)
  ·repeat (first|refine q1 ?_|refine q3 ?_|refine q4 tab rfl rfl ?_)
   (refine TO.step rfl (OT.storeL0 tab 0 rfl rfl rfl rfl rfl rfl rfl rfl ?_))
   repeat (first|refine q5 ?_|refine q6 ?_|refine q8 ?_|refine q9 ?_|refine q15 ?_)
   refine retQ_ret_c1 tab 0 rfl rfl rfl rfl (L' := L) (by repeat (first|exact List.Sublist.refl _|refine List.Sublist.cons _ ?_)) ⟨rfl, rfl, zT, rfl, ?_⟩
   rw [hI, hdr, atD, List.getElem?_eq_none (by omega)]
   exact ⟨rfl, rfl, rfl, SlRep.nil _ _⟩
  ·have hlt2 : p[k] < u.kids.length := by omega
   have hx2 : u.kids[p[k]]? = some u.kids[p[k]] := List.getElem?_eq_getElem hlt2
   repeat (first|refine q6 ?_|refine q13 ?_)
   refine TC.draw [8] mixed 9 rfl [.cells b2 0 (treeC x)] (.cells b4 0 [.int .i64 0, strV [], .int .i64 0, .slice none 0 0] :: L) (List.Perm.swap _ _ _) ?_
   refine DO.pure tab (by repeat (first|exact Calm.ret|refine Calm.then ?_|refine Calm.block ?_)) (by kernel_rfl) [0] (by kernel_rfl) rfl ?_
   (refine DO.loadL tab 1 0 (by repeat (first|exact Calm.ret|refine Calm.then ?_|refine Calm.block ?_)) (by kernel_rfl) (by kernel_rfl) rfl rfl rfl rfl rfl rfl rfl rfl ?_)
   refine DO.pure tab (by repeat (first|exact Calm.ret|refine Calm.then ?_|refine Calm.block ?_)) (by kernel_rfl) [2, 3] (by kernel_rfl) rfl ?_
   refine DO.index tab rInt 4 k hs (by repeat (first|exact Calm.ret|refine Calm.then ?_|refine Calm.block ?_)) (by kernel_rfl) (by kernel_rfl) rfl rfl rfl rfl rfl rfl rfl (by first | rfl | omega) rfl hx ?_
   rintro b'' i'' hd'' hrd'' hA''; obtain rfl := (show hd'' = (p[k] : Int) from hrd'')
   (refine DO.loadA (k := 0) tab 5 hA'' (by repeat (first|exact Calm.ret|refine Calm.then ?_|refine Calm.block ?_)) (by kernel_rfl) (by kernel_rfl) rfl rfl rfl rfl rfl rfl rfl ?_)
   refine DO.index tab rTree 6 p[k] r4 (by repeat (first|exact Calm.ret|refine Calm.then ?_|refine Calm.block ?_)) (by kernel_rfl) (by kernel_rfl) rfl rfl rfl rfl rfl rfl rfl (by first | rfl | omega) rfl hx2 ?_
   rintro b3 i3 y hry hA3
   (refine DO.loadA (k := 0) tab 7 hA3 (by repeat (first|exact Calm.ret|refine Calm.then ?_|refine Calm.block ?_)) (by kernel_rfl) (by kernel_rfl) rfl rfl rfl rfl rfl rfl rfl ?_)
   refine DO.tail ?_
   refine DOt.run 8 rfl rfl (by kernel_rfl) rfl ?_
   refine OT.storeL0 tab 0 rfl rfl rfl rfl rfl rfl rfl rfl ?_; refine DOt.perm (List.Perm.swap _ _ _) ?_
   refine DOt.nil (by kernel_rfl) ?_
   rotate_left 1
   repeat (first|refine q3 ?_|refine q4 tab rfl rfl ?_|refine q6 ?_|refine q7 ?_)
   refine TO.step rfl (OT.arith (r' := ((k + 1 : Nat) : Int)) rfl rfl rfl rfl rfl rfl rfl (by omega) ?_)
   repeat (first|refine q4 tab rfl rfl ?_|refine q5 ?_|refine q6 ?_)
   refine ⟨(k + 1, y, u.kids[p[k]]), (by repeat (first|exact trivial|refine And.intro rfl ?_)), (by repeat (first|exact trivial|refine And.intro rfl ?_)), rfl, rfl, (by repeat (exact List.Sublist.refl _)), ⟨by omega, rTree_iff.1 hry, ?_⟩, by simp only; omega⟩
   rw [hI, hdr, atD, hx2]
 ·repeat (first|refine q1 ?_|refine q3 ?_|refine q6 ?_|refine q10 ?_|refine q11 ?_|refine q14 ?_)
  refine TO.step rfl (OT.loadL0 tab 1 rfl rfl rfl rfl rfl rfl ?_)
  skip
  (refine TO.step rfl (OT.storeL0 tab 0 rfl rfl rfl rfl rfl rfl rfl rfl ?_))
  repeat (first|refine q5 ?_|refine q6 ?_|refine q15 ?_)
  refine retQ_ret_c1 tab 0 rfl rfl rfl rfl (L' := L) (by repeat (first|exact List.Sublist.refl _|refine List.Sublist.cons _ ?_)) ⟨rfl, rfl, x, rfl, ?_⟩
  rw [hI, List.drop_eq_nil_of_le (by omega)]
  exact hr'
end Go.Sep


/- PsLevelsL -/
set_option linter.unusedVariables false
set_option linter.unusedSimpArgs false
namespace Go.Sep
open Go.Proofs
attribute [local irreducible] TC TO OT TCallX TCall DO DOt thenQ blockQ retQ At
theorem ops_short2 : ∀ p ∈ opsL, p.length ≤ 2 := by decide
theorem at_left (p q : Str) : (atD (leftT p q) [0, 1, 0, 0]).kind = 53 := rfl
theorem at_right (p q : Str) : (atD (rightT p q) [0, 1, 0, 0]).kind = 53 := rfl
attribute [local irreducible] parseD scanD leftT rightT lvN
set_option maxHeartbeats 4000000 in
theorem parseLevels_walk (m : Mem) (L : List Item) (i j : UInt8) (hE : Errs m) : TCall Tryz.prog 7 ⟨[byteV i, byteV j]⟩ m L (Made m L fun r _ => r = .bool true) := by
 unfold TCall
 refine TCallX.enter Tryz.func7 rfl 85 rfl ?_
 repeat (first|refine q1 ?_|refine q3 ?_|refine q4 tab rfl rfl ?_|refine q5 ?_|refine q6 ?_)
 refine TO.step rfl (OT.litR tab rStr (hs := [[124, 124], [38, 38], [61, 61], [33, 61], [60], [60, 61], [62], [62, 61], [43], [45], [42], [47], [37]]) (l := opsL) ⟨rfl, rfl, rfl, rfl, rfl, rfl, rfl, rfl, rfl, rfl, rfl, rfl, rfl, trivial⟩ rfl rfl rfl rfl rfl (by decide) (fun s1 m1 hm1 hs1 _ _ => ?_))
 have hi : i.toNat % 13 < opsL.length := Nat.mod_lt _ (by decide)
 have hj : j.toNat % 13 < opsL.length := Nat.mod_lt _ (by decide)
 have hxi : opsL[i.toNat % 13]? = some opsL[i.toNat % 13] := List.getElem?_eq_getElem hi
 have hxj : opsL[j.toNat % 13]? = some opsL[j.toNat % 13] := List.getElem?_eq_getElem hj
 have hpm := List.getElem_mem hi
 have hqm := List.getElem_mem hj
 generalize opsL[i.toNat % 13] = p at hxi hpm
 generalize opsL[j.toNat % 13] = q at hxj hqm
 have hpl := ops_short2 p hpm
 have hql := ops_short2 q hqm
 repeat (first|refine q1 ?_|refine q4 tab rfl rfl ?_|refine q5 ?_|refine q6 ?_)
 refine TC.draw0 [] mixed 12 rfl ?_
 refine DO.pure tab (by repeat (first|exact Calm.ret|refine Calm.then ?_)) (by kernel_rfl) [0, 1] (by kernel_rfl) rfl ?_
 refine DO.remK 2 (r := ((i.toNat % 13 : Nat) : Int)) (by repeat (first|exact Calm.ret|refine Calm.then ?_)) (by kernel_rfl) (by kernel_rfl) rfl rfl rfl rfl rfl rfl rfl (by decide) rfl ?_
 refine DO.indexK tab rStr 3 (i.toNat % 13) hs1 (by repeat (first|exact Calm.ret|refine Calm.then ?_)) (by kernel_rfl) (by kernel_rfl) rfl rfl rfl rfl rfl rfl rfl rfl rfl hxi ?_; rintro b1 i1 d1 r1 hA1; obtain rfl := (show p = d1 from Eq.symm r1)
 (refine DO.loadA (k := 0) tab 4 hA1 (by repeat (first|exact Calm.ret|refine Calm.then ?_)) (by kernel_rfl) (by kernel_rfl) rfl rfl rfl rfl rfl rfl rfl ?_)
 refine DO.pure tab (by repeat (first|exact Calm.ret|refine Calm.then ?_)) (by kernel_rfl) [5, 6] (by kernel_rfl) rfl ?_
 refine DO.remK 7 (r := ((j.toNat % 13 : Nat) : Int)) (by repeat (first|exact Calm.ret|refine Calm.then ?_)) (by kernel_rfl) (by kernel_rfl) rfl rfl rfl rfl rfl rfl rfl (by decide) rfl ?_
 refine DO.indexK tab rStr 8 (j.toNat % 13) hs1 (by repeat (first|exact Calm.ret|refine Calm.then ?_)) (by kernel_rfl) (by kernel_rfl) rfl rfl rfl rfl rfl rfl rfl rfl rfl hxj ?_; rintro b2 i2 d2 r2 hA2; obtain rfl := (show q = d2 from Eq.symm r2)
 (refine DO.loadA (k := 0) tab 9 hA2 (by repeat (first|exact Calm.ret|refine Calm.then ?_)) (by kernel_rfl) (by kernel_rfl) rfl rfl rfl rfl rfl rfl rfl ?_)
 refine DO.pure tab (by repeat (first|exact Calm.ret|refine Calm.then ?_)) (by kernel_rfl) [10, 11] (by kernel_rfl) rfl ?_
 (refine DO.nil0 (by kernel_rfl) ?_)
 rotate_left 1
 repeat (first|refine q1 ?_|refine q3 ?_|refine q4 tab rfl rfl ?_|refine q6 ?_)
 refine TO.step rfl (OT.call rfl rfl rfl rfl rfl rfl goes15 ((three_law _ _ p q hpl hql).x ?_));
 rintro _ _ _ ⟨rfl, rfl, rfl⟩
 repeat (first|refine q1 ?_|refine q3 ?_|refine q4 tab rfl rfl ?_|refine q5 ?_|refine q6 ?_)
 refine TO.step rfl (OT.concat (s := pre1) (u := [97, 32] ++ p ++ [32, 98, 32] ++ q ++ [32, 99]) rfl rfl rfl rfl rfl (by simp only [pre1, List.length_append, List.length_cons, List.length_nil]; omega) ?_)
 refine TO.step rfl (OT.concat (s := pre1 ++ ([97, 32] ++ p ++ [32, 98, 32] ++ q ++ [32, 99])) (u := [59, 32, 125]) rfl rfl rfl rfl rfl (by simp only [pre1, List.length_append, List.length_cons, List.length_nil]; omega) ?_)
 skip
 refine TO.step rfl (OT.call rfl rfl rfl rfl rfl rfl goes8 ((parse_law program_ne _ _ (text1 p q) (hE.mono hm1)).x ?_));
 rw [text1_eq hpm hqm]
 rintro _ m2 _ ⟨hm2, rfl, x, rfl, hx⟩
 have hm12 := Mem.le_trans hm1 hm2
 repeat (refine q4 tab rfl rfl ?_)
 refine TO.step rfl (OT.alloc tab rfl rfl rfl rfl (fun b9 => ?_))
 skip
 (refine TO.step rfl (OT.storeL0 tab 0 rfl rfl rfl rfl rfl rfl rfl rfl ?_))
 repeat (first|refine q1 ?_|refine q3 ?_|refine q4 tab rfl rfl ?_|refine q5 ?_|refine q6 ?_)
 refine TO.step rfl (OT.concat (s := pre1 ++ [40, 97, 32]) (u := p) rfl rfl rfl rfl rfl (by simp only [pre1, List.length_append, List.length_cons, List.length_nil]; omega) ?_)
 refine TO.step rfl (OT.concat (s := pre1 ++ [40, 97, 32] ++ p) (u := [32, 98, 41, 32]) rfl rfl rfl rfl rfl (by simp only [pre1, List.length_append, List.length_cons, List.length_nil]; omega) ?_)
 repeat (refine q4 tab rfl rfl ?_)
 refine TO.step rfl (OT.concat (s := pre1 ++ [40, 97, 32] ++ p ++ [32, 98, 41, 32]) (u := q) rfl rfl rfl rfl rfl (by simp only [pre1, List.length_append, List.length_cons, List.length_nil]; omega) ?_)
 refine TO.step rfl (OT.concat (s := pre1 ++ [40, 97, 32] ++ p ++ [32, 98, 41, 32] ++ q) (u := [32, 99, 59, 32, 125]) rfl rfl rfl rfl rfl (by simp only [pre1, List.length_append, List.length_cons, List.length_nil]; omega) ?_)
 skip
 refine TO.step rfl (OT.call rfl rfl rfl rfl rfl rfl goes8 ((parse_law program_ne _ _ (text2 p q) (hE.mono hm12)).x ?_));
 rw [text2_eq hpm hqm]
 rintro _ m3 _ ⟨hm3, rfl, y, rfl, hy⟩
 have hm13 := Mem.le_trans hm12 hm3
 replace hx := hx.mono hm3
 repeat (refine q4 tab rfl rfl ?_)
 refine TO.step rfl (OT.alloc tab rfl rfl rfl rfl (fun b12 => ?_))
 skip
 (refine TO.step rfl (OT.storeL0 tab 0 rfl rfl rfl rfl rfl rfl rfl rfl ?_))
 repeat (first|refine q1 ?_|refine q3 ?_|refine q4 tab rfl rfl ?_|refine q5 ?_|refine q6 ?_)
 refine TO.step rfl (OT.call rfl rfl rfl rfl rfl rfl goes16 ((level2_law _ _ q).x ?_));
 rintro _ _ _ ⟨rfl, rfl, rfl⟩
 repeat (refine q4 tab rfl rfl ?_)
 refine TO.step rfl (OT.call rfl rfl rfl rfl rfl rfl goes16 ((level2_law _ _ p).x ?_));
 rintro _ _ _ ⟨rfl, rfl, rfl⟩
 repeat (first|refine q4 tab rfl rfl ?_|refine q5 ?_|refine q6 ?_)
 refine TC.condP rfl (fun c1 => ?_) (fun c1 => ?_)
 ·rw [if_pos (by omega)] at hx
  repeat (first|refine q3 ?_|refine q4 tab rfl rfl ?_)
  refine TO.step rfl (OT.concat (s := pre1 ++ [97, 32]) (u := p) rfl rfl rfl rfl rfl (by simp only [pre1, List.length_append, List.length_cons, List.length_nil]; omega) ?_)
  refine TO.step rfl (OT.concat (s := pre1 ++ [97, 32] ++ p) (u := [32, 40, 98, 32]) rfl rfl rfl rfl rfl (by simp only [pre1, List.length_append, List.length_cons, List.length_nil]; omega) ?_)
  repeat (refine q4 tab rfl rfl ?_)
  refine TO.step rfl (OT.concat (s := pre1 ++ [97, 32] ++ p ++ [32, 40, 98, 32]) (u := q) rfl rfl rfl rfl rfl (by simp only [pre1, List.length_append, List.length_cons, List.length_nil]; omega) ?_)
  refine TO.step rfl (OT.concat (s := pre1 ++ [97, 32] ++ p ++ [32, 40, 98, 32] ++ q) (u := [32, 99, 41, 59, 32, 125]) rfl rfl rfl rfl rfl (by simp only [pre1, List.length_append, List.length_cons, List.length_nil]; omega) ?_)
  skip
  refine TO.step rfl (OT.call rfl rfl rfl rfl rfl rfl goes8 ((parse_law program_ne _ _ (text3 p q) (hE.mono hm13)).x ?_));
  rw [text3_eq hpm hqm]
  rintro _ m4 _ ⟨hm4, rfl, w, rfl, hw⟩
  have hm14 := Mem.le_trans hm13 hm4
  replace hx := hx.mono hm4
  repeat (refine q4 tab rfl rfl ?_)
  (refine TO.step rfl (OT.storeL0 tab 0 rfl rfl rfl rfl rfl rfl rfl rfl ?_))
  repeat (first|refine q1 ?_|refine q3 ?_|refine q4 tab rfl rfl ?_|refine q5 ?_|refine q6 ?_)
  skip
  refine TO.step rfl (OT.call rfl rfl rfl rfl rfl rfl goes10 ((awake_law _ _ (hE.mono hm14)).x ?_));
  rintro _ m8 _ ⟨hm8, rfl, rfl⟩
  have hm18 := Mem.le_trans hm14 hm8
  repeat (refine q4 tab rfl rfl ?_)
  refine TO.step rfl (OT.loadL0 tab 1 rfl rfl rfl rfl rfl rfl ?_)
  refine TO.step rfl (OT.loadL0 tab 0 rfl rfl rfl rfl rfl rfl ?_)
  skip
  refine TO.step rfl (OT.call rfl rfl rfl rfl rfl rfl goes11 ((same_ref _ _ _ _ x w (hx.mono hm8) (hw.mono hm8)).x ?_));
  rw [teq_refl]
  rintro _ _ _ ⟨rfl, rfl, rfl⟩
  repeat (refine q4 tab rfl rfl ?_)
  refine TO.step rfl (OT.loadL0 tab 1 rfl rfl rfl rfl rfl rfl ?_)
  refine TO.step rfl (OT.litR tab rInt (hs := [0, 1, 0, 0]) (l := [0, 1, 0, 0].map Int.ofNat) ⟨rfl, rfl, rfl, rfl, trivial⟩ rfl rfl rfl rfl rfl (by decide) (fun s9 m9 hm9 hs9 _ _ => ?_))
  skip
  refine TO.step rfl (OT.call rfl rfl rfl rfl rfl rfl goes17 ((at_law m9 _ x _ ((hx.mono hm8).mono hm9) s9 [0, 1, 0, 0] hs9).x ?_));
  rintro _ _ _ ⟨rfl, rfl, z, rfl, hz⟩
  have hzk : z.kind = 53 := hz.1.trans (at_right p q)
  obtain ⟨zk, zn, zu, zs⟩ := z
  obtain rfl : zk = 53 := hzk
  repeat (first|refine q4 tab rfl rfl ?_|refine q5 ?_|refine q6 ?_|refine q15 ?_)
  exact retQ_ret rfl (by repeat (first|exact List.Sublist.refl _|refine List.Sublist.cons _ ?_)) ⟨Mem.le_trans hm18 hm9, rfl, rfl⟩
 ·rw [if_neg (by omega)] at hx
  repeat (first|refine q1 ?_|refine q3 ?_|refine q6 ?_|refine q13 ?_)
  refine TO.step rfl (OT.call rfl rfl rfl rfl rfl rfl goes10 ((awake_law _ _ (hE.mono hm13)).x ?_));
  rintro _ m8 _ ⟨hm8, rfl, rfl⟩
  have hm18 := Mem.le_trans hm13 hm8
  repeat (refine q4 tab rfl rfl ?_)
  refine TO.step rfl (OT.loadL0 tab 1 rfl rfl rfl rfl rfl rfl ?_)
  refine TO.step rfl (OT.loadL0 tab 0 rfl rfl rfl rfl rfl rfl ?_)
  skip
  refine TO.step rfl (OT.call rfl rfl rfl rfl rfl rfl goes11 ((same_ref _ _ _ _ x y (hx.mono hm8) (hy.mono hm8)).x ?_));
  rw [teq_refl]
  rintro _ _ _ ⟨rfl, rfl, rfl⟩
  repeat (refine q4 tab rfl rfl ?_)
  refine TO.step rfl (OT.loadL0 tab 1 rfl rfl rfl rfl rfl rfl ?_)
  refine TO.step rfl (OT.litR tab rInt (hs := [0, 1, 0, 0]) (l := [0, 1, 0, 0].map Int.ofNat) ⟨rfl, rfl, rfl, rfl, trivial⟩ rfl rfl rfl rfl rfl (by decide) (fun s9 m9 hm9 hs9 _ _ => ?_))
  skip
  refine TO.step rfl (OT.call rfl rfl rfl rfl rfl rfl goes17 ((at_law m9 _ x _ ((hx.mono hm8).mono hm9) s9 [0, 1, 0, 0] hs9).x ?_));
  rintro _ _ _ ⟨rfl, rfl, z, rfl, hz⟩
  have hzk : z.kind = 53 := hz.1.trans (at_left p q)
  obtain ⟨zk, zn, zu, zs⟩ := z
  obtain rfl : zk = 53 := hzk
  repeat (first|refine q4 tab rfl rfl ?_|refine q5 ?_|refine q6 ?_|refine q15 ?_)
  exact retQ_ret rfl (by repeat (first|exact List.Sublist.refl _|refine List.Sublist.cons _ ?_)) ⟨Mem.le_trans hm18 hm9, rfl, rfl⟩
end Go.Sep

