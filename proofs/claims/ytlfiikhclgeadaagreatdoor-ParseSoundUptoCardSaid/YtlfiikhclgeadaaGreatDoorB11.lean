/- PsNode -/
import Derived.Test.YtlfiikhclgeadaaGreatDoorB10
set_option linter.unusedVariables false
set_option linter.unusedSimpArgs false
namespace Go.Sep
open Go.Proofs
section
variable {P : Program} {N : Nat} {ρ : Env} {D : List Deferred} {m : Mem} {L : List Item} {Q : EPost} {o : Oper} {K : Env → Mem → List Item → Prop}
theorem equalIn_nilFn2 {t : TypeId} {w : World} {a b c} {f g h} (dd : Nat) (hu : (underlying t).run P w = .ok (.func a b c) w) :
  (Op.equalIn (dd + 1) t (.func f g h) .nilFunc).run P w = .ok false w := by
 simp only [Op.equalIn, Sem.run_bind, hu, Result.andThen_ok, Sem.run_pure]
theorem OT.nilFn2 (T : Tab P) {t t' : TypeId} {x y : Operand} {d : Nat} {f g h} (ho : o.op = .binOp .eql t x y t') (hd : o.dst = some d) (hN : Nat.blt d N = true)
  (hx : ev ρ x = some (.func f g h)) (hy : ev ρ y = some .nilFunc) (ht : T.isFunc t = true) (hK : K ((d, .bool false) :: ρ) m L) : OT P N o ρ D m L Q K := by
 obtain ⟨ti, a, b, c, h1, h2⟩ := isFunc_get ht
 refine OT.run hd hN (fun ac w ha => ⟨w, ?_, ha.st⟩) hK
 have hu := T.run_underlying w h1
 rw [h2] at hu
 have e1 : binOp .eql t (.func f g h) .nilFunc = (do pure (.bool (← Op.equalIn (9999 + 1) t (.func f g h) .nilFunc)) : Sem Value) := rfl
 have e2 : (eqGuard .eql t x y (.func f g h) .nilFunc).run P w = .ok () w := by simp [eqGuard]
 have h := equalIn_nilFn2 (P := P) (f := f) (g := g) (h := h) 9999 hu
 simp only [execOp, ho, ha.env.eval hx, ha.env.eval hy, Sem.run_bind, e2, Result.andThen_ok, e1, h, Sem.run_pure]
end
attribute [local irreducible] TC TO OT TCallX TCall DO DOt thenQ blockQ retQ At
set_option maxHeartbeats 400000 in
theorem indexFunc_node (m : Mem) (L : List Item) (s : Sl) (l : List Tree) (p : Tree → Bool) (fn : FuncId) (cap : List Value) (hg : Goes Tryz.prog fn) (hs : SlRep rTree m s l)
  (hp : ∀ (h : HTree) (a : Tree), a ∈ l → rTree.rep m h a → TCall Tryz.prog fn ⟨treeV h :: cap⟩ m L (Ret (.bool (p a)) m L)) :
  TCall Tryz.prog 82 ⟨[s.v, .func (.func fn) ⟨[]⟩ ⟨cap⟩]⟩ m L (Ret (.int .i64 (idxP l p 0)) m L) := by
 unfold TCall
 refine TCallX.enter Tryz.func82 rfl 19 rfl ?_
 repeat (first|refine q1 ?_|refine q2 ?_|refine q3 ?_|refine q4 tab rfl rfl ?_|refine q5 ?_|refine q6 ?_)
 refine TC.loopK (ι := Nat) [0, 1, 7] rfl (fun k => [(8, .int .i64 (k : Int))]) (fun _ => m) (fun _ => L) (fun k => k ≤ l.length ∧ idxP l p 0 = idxP (l.drop k) p k) (fun k => l.length - k) 0 (by repeat (first|exact trivial|refine And.intro rfl ?_)) rfl (by repeat (exact List.Sublist.refl _)) ⟨Nat.zero_le _, rfl⟩ ?_
 rintro k ⟨hk, hI⟩
 have hl := hs.len
 have hsm := hs.small rfl
 repeat (first|refine q1 ?_|refine q3 ?_|refine q4 tab rfl rfl ?_|refine q5 ?_|refine q6 ?_)
 refine TC.condP rfl (fun h => ?_) (fun h => ?_)
 ·have hlt : k < l.length := by omega
  have hx : l[k]? = some l[k] := by simp [hlt]
  repeat (first|refine q1 ?_|refine q2 ?_|refine q3 ?_|refine q4 tab rfl rfl ?_|refine q5 ?_|refine q6 ?_|refine q13 ?_)
  refine TO.step rfl (OT.index tab rTree k hs rfl rfl rfl rfl rfl (by first | rfl | omega | (simp only; omega)) rfl hx ?_)
  rintro b i hd hr hA
  (refine TO.step rfl (OT.loadA0 tab hA rfl rfl rfl rfl rfl ?_))
  skip
  refine TO.step rfl (OT.call (all := treeV hd :: cap) rfl rfl rfl rfl rfl (by rw [fl_eq]; rfl) hg ((hp hd l[k] (List.getElem_mem hlt) hr).x ?_))
  rintro _ _ _ ⟨rfl, rfl, rfl⟩
  repeat (first|refine q5 ?_|refine q6 ?_)
  refine TC.cond rfl (fun h => ?_) (fun h => ?_)
  ·repeat (first|refine q1 ?_|refine q3 ?_|refine q4 tab rfl rfl ?_|refine q5 ?_|refine q6 ?_|refine q8 ?_|refine q9 ?_|refine q15 ?_)
   refine retQ_ret rfl (by repeat (exact List.Sublist.refl _)) ⟨rfl, rfl, ?_⟩
   rw [hI, List.drop_eq_getElem_cons hlt, idxP, if_pos h]
  ·repeat (first|refine q3 ?_|refine q6 ?_|refine q7 ?_|refine q13 ?_)
   refine TO.step rfl (OT.arith (r' := ((k + 1 : Nat) : Int)) rfl rfl rfl rfl rfl rfl rfl (by omega) ?_)
   repeat (first|refine q4 tab rfl rfl ?_|refine q5 ?_|refine q6 ?_)
   exact ⟨k + 1, (by repeat (first|exact trivial|refine And.intro rfl ?_)), (by repeat (first|exact trivial|refine And.intro rfl ?_)), rfl, rfl, (by repeat (exact List.Sublist.refl _)), ⟨by omega, by rw [hI, List.drop_eq_getElem_cons hlt, idxP, if_neg (by simp [h])]⟩, by omega⟩
 ·repeat (first|refine q1 ?_|refine q3 ?_|refine q4 tab rfl rfl ?_|refine q5 ?_|refine q6 ?_|refine q10 ?_|refine q11 ?_|refine q14 ?_|refine q15 ?_)
  refine retQ_ret rfl (by repeat (exact List.Sublist.refl _)) ⟨rfl, rfl, ?_⟩
  rw [hI, List.drop_eq_nil_of_le (by omega)]
  rfl
set_option maxHeartbeats 400000 in
theorem containsFunc_node (m : Mem) (L : List Item) (s : Sl) (l : List Tree) (p : Tree → Bool) (fn : FuncId) (cap : List Value) (hg : Goes Tryz.prog fn) (hs : SlRep rTree m s l)
  (hp : ∀ (h : HTree) (a : Tree), a ∈ l → rTree.rep m h a → TCall Tryz.prog fn ⟨treeV h :: cap⟩ m L (Ret (.bool (p a)) m L)) :
  TCall Tryz.prog 41 ⟨[s.v, .func (.func fn) ⟨[]⟩ ⟨cap⟩]⟩ m L (Ret (.bool (l.any p)) m L) := by
 unfold TCall
 refine TCallX.enter Tryz.func41 rfl 9 rfl ?_
 repeat (first|refine q1 ?_|refine q3 ?_|refine q4 tab rfl rfl ?_|refine q5 ?_|refine q6 ?_)
 refine TO.step rfl (OT.call rfl rfl rfl rfl rfl rfl goes82 ((indexFunc_node m L s l p fn cap hg hs hp).x ?_));
 rintro _ _ _ ⟨rfl, rfl, rfl⟩
 repeat (first|refine q4 tab rfl rfl ?_|refine q5 ?_|refine q6 ?_|refine q15 ?_)
 refine retQ_ret rfl (by repeat (exact List.Sublist.refl _)) ⟨rfl, rfl, ?_⟩
 rw [idxP_ge]
set_option maxHeartbeats 800000 in
theorem bare_law (m : Mem) (L : List Item) (h : HTree) (a : Tree) (hr : TreeRep m h a) (k t u : Bool) :
  TCall Tryz.prog 25 ⟨[treeV h, .bool k, .bool t, .bool u]⟩ m L (Ret (.bool (bareB a k t u)) m L) := by
 obtain ⟨h1, h2, h3, h4⟩ := hr
 unfold TCall
 refine TCallX.enter Tryz.func25 rfl 26 rfl ?_
 repeat (first|refine q1 ?_|refine q3 ?_)
 refine TO.step rfl (OT.box rfl rfl rfl rfl rfl (fun b => ?_))
 cases k <;> cases t <;> cases u
 all_goals repeat' (first|(first|refine q1 ?_|refine q3 ?_|refine q4 tab rfl rfl ?_|refine q5 ?_|refine q6 ?_|refine q15 ?_)|(refine qs rfl (ql tab 0 rfl rfl rfl rfl rfl rfl ?_))|(refine TO.splitP rfl rfl (fun hb => ?_) (fun hb => ?_)))
 all_goals
  refine retQ_ret rfl (by repeat (first|exact List.Sublist.refl _|refine List.Sublist.cons _ ?_)) ⟨rfl, rfl, ?_⟩
  refine congrArg Value.bool ?_
  unfold bareB
  try rw [← h2]
  try rw [← h3]
  simp_all
set_option maxHeartbeats 400000 in
theorem named_law (m : Mem) (L : List Item) (h : HTree) (a : Tree) (hr : TreeRep m h a) (hB : a.bulk ≤ 140737488355328) : TCall Tryz.prog 83 ⟨[treeV h]⟩ m L (Ret (.bool (isName a.name)) m L) := by
 obtain ⟨h1, h2, h3, h4⟩ := hr
 have hl := bulk_name a
 unfold TCall
 refine TCallX.enter Tryz.func83 rfl 6 rfl ?_
 repeat (first|refine q1 ?_|refine q3 ?_)
 refine TO.step rfl (OT.box rfl rfl rfl rfl rfl (fun b => ?_))
 repeat (first|(first|refine q1 ?_|refine q3 ?_|refine q4 tab rfl rfl ?_|refine q5 ?_|refine q6 ?_)|(refine qs rfl (ql tab 0 rfl rfl rfl rfl rfl rfl ?_)))
 refine TO.step rfl (OT.call rfl rfl rfl rfl rfl rfl goes109 ((name_law _ _ h.name (by rw [h2]; omega)).x ?_));
 rintro _ _ _ ⟨rfl, rfl, rfl⟩
 repeat (first|refine q4 tab rfl rfl ?_|refine q5 ?_|refine q6 ?_|refine q15 ?_)
 refine retQ_ret rfl (by repeat (first|exact List.Sublist.refl _|refine List.Sublist.cons _ ?_)) ⟨rfl, rfl, ?_⟩
 rw [h2]
set_option maxHeartbeats 400000 in
theorem of_law (m : Mem) (L : List Item) (h : HTree) (a : Tree) (hr : TreeRep m h a) (hB : a.bulk ≤ 140737488355328) (k : Int) :
  TCall Tryz.prog 43 ⟨[treeV h, .int .i64 k]⟩ m L (Ret (.bool (ofB a k)) m L) := by
 have hr' := hr
 obtain ⟨h1, h2, h3, h4⟩ := hr
 unfold TCall
 refine TCallX.enter Tryz.func43 rfl 15 rfl ?_
 repeat (first|refine q1 ?_|refine q3 ?_)
 refine TO.step rfl (OT.box rfl rfl rfl rfl rfl (fun b => ?_))
 repeat (first|(first|refine q1 ?_|refine q3 ?_|refine q4 tab rfl rfl ?_|refine q5 ?_|refine q6 ?_)|(first|refine qs rfl (ql tab 0 rfl rfl rfl rfl rfl rfl ?_)|refine qs rfl (qz tab 0 rfl rfl rfl rfl rfl rfl ?_)))
 refine TO.step rfl (OT.call rfl rfl rfl rfl rfl rfl goes25 ((bare_law _ _ h a hr' (decide (h.kind = k)) true false).x ?_));
 rintro _ _ _ ⟨rfl, rfl, rfl⟩
 repeat (refine q4 tab rfl rfl ?_)
 refine TO.split (b := bareB a (decide (h.kind = k)) true false) rfl rfl (fun hb => ?_) (fun hb => ?_)
 ·repeat ((refine qs rfl (qz tab 0 rfl rfl rfl rfl rfl rfl ?_)))
  refine TO.step rfl (OT.call rfl rfl rfl rfl rfl rfl goes83 ((named_law _ _ h a hr' hB).x ?_));
  rintro _ _ _ ⟨rfl, rfl, rfl⟩
  repeat (first|refine q4 tab rfl rfl ?_|refine q5 ?_|refine q6 ?_|refine q15 ?_)
  refine retQ_ret rfl (by repeat (first|exact List.Sublist.refl _|refine List.Sublist.cons _ ?_)) ⟨rfl, rfl, ?_⟩
  unfold bareB at hb
  unfold ofB
  rw [h1] at hb
  simp_all
 ·repeat (first|refine q4 tab rfl rfl ?_|refine q5 ?_|refine q6 ?_|refine q15 ?_)
  refine retQ_ret rfl (by repeat (first|exact List.Sublist.refl _|refine List.Sublist.cons _ ?_)) ⟨rfl, rfl, ?_⟩
  unfold bareB at hb
  unfold ofB
  rw [h1] at hb
  simp_all
def IsPred (fn : FuncId) (p : Tree → Bool) (l : List Tree) : Prop := Goes Tryz.prog fn ∧ ∀ (m : Mem) (L : List Item) (h : HTree) (a : Tree), a ∈ l → TreeRep m h a → TCall Tryz.prog fn ⟨[treeV h]⟩ m L (Ret (.bool (p a)) m L)
set_option maxHeartbeats 400000 in
theorem not_law (m : Mem) (L : List Item) (h : HTree) (a : Tree) (hr : TreeRep m h a) (fn : FuncId) (p : Tree → Bool) (l : List Tree) (hp : IsPred fn p l) (ha : a ∈ l) (b1 : Nat) (hA : At m b1 0 [.func (.func fn) ⟨[]⟩ ⟨[]⟩]) :
  TCall Tryz.prog 42 ⟨[treeV h, .pointer (some ⟨b1, 0, none⟩)]⟩ m L (Ret (.bool (!p a)) m L) := by
 unfold TCall
 refine TCallX.enter Tryz.func42 rfl 8 rfl ?_
 repeat (first|refine q1 ?_|refine q3 ?_)
 refine TO.step rfl (OT.box rfl rfl rfl rfl rfl (fun b => ?_))
 repeat (first|refine q1 ?_|refine q3 ?_|refine q4 tab rfl rfl ?_|refine q5 ?_|refine q6 ?_)
 (refine TO.step rfl (OT.loadA0 tab hA rfl rfl rfl rfl rfl ?_))
 repeat ((refine qs rfl (qz tab 0 rfl rfl rfl rfl rfl rfl ?_)))
 refine TO.step rfl (OT.call (all := [treeV h]) rfl rfl rfl rfl rfl (by rw [fl_eq]; rfl) hp.1 ((hp.2 _ _ h a ha hr).x ?_))
 rintro _ _ _ ⟨rfl, rfl, rfl⟩
 repeat (first|refine q4 tab rfl rfl ?_|refine q5 ?_|refine q6 ?_|refine q15 ?_)
 refine retQ_ret rfl (by repeat (first|exact List.Sublist.refl _|refine List.Sublist.cons _ ?_)) ⟨rfl, rfl, ?_⟩
 rfl
set_option maxHeartbeats 400000 in
theorem pall_law (m : Mem) (L : List Item) (s : Sl) (l : List Tree) (hs : SlRep rTree m s l) (fn : FuncId) (p : Tree → Bool) (hp : IsPred fn p l) :
  TCall Tryz.prog 26 ⟨[s.v, .func (.func fn) ⟨[]⟩ ⟨[]⟩]⟩ m L (Ret (.bool (l.all p)) m L) := by
 refine TCall.forget ?_
 unfold TCall
 refine TCallX.enter Tryz.func26 rfl 9 rfl ?_
 repeat (first|refine q1 ?_|refine q3 ?_)
 refine TO.step rfl (OT.box rfl rfl rfl rfl rfl (fun b => ?_))
 refine TO.freeze fun m1 hm1 hA1 => ?_
 repeat (first|refine q1 ?_|refine q3 ?_|refine q4 tab rfl rfl ?_|refine q5 ?_|refine q6 ?_)
 refine TO.step rfl (OT.call rfl rfl rfl rfl rfl rfl goes41 ((containsFunc_node m1 L s l (fun a => !p a) 42 [.pointer (some ⟨b, 0, none⟩)] goes42 (hs.mono hm1) (fun h a ha hr => not_law m1 L h a (rTree_iff.1 hr) fn p l hp ha b hA1)).x ?_));
 rintro _ _ _ ⟨rfl, rfl, rfl⟩
 repeat (first|refine q4 tab rfl rfl ?_|refine q5 ?_|refine q6 ?_|refine q15 ?_)
 refine retQ_ret rfl (by repeat (exact List.Sublist.refl _)) ⟨hm1, rfl, ?_⟩
 rw [List.all_eq_not_any_not]
def rFn : R FuncId FuncId where
 size := 1
 bytes := 8
 enc f := [.func (.func f) ⟨[]⟩ ⟨[]⟩]
 rep _ f g := f = g
 enc_len _ := rfl
 one f := rfl
 mono _ h := h
def restV : Option (FuncId × (Tree → Bool)) → Value
 | none => .nilFunc
 | some p => .func (.func p.1) ⟨[]⟩ ⟨[]⟩
def restB : Option (FuncId × (Tree → Bool)) → Option (Tree → Bool)
 | none => none
 | some p => some p.2
set_option maxHeartbeats 1600000 in
theorem kids_law (m : Mem) (L : List Item) (h : HTree) (a : Tree) (hr : TreeRep m h a) (s : Sl) (ps : List (FuncId × (Tree → Bool))) (rest : Option (FuncId × (Tree → Bool))) (hf : SlRep rFn m s (ps.map Prod.fst)) (hp : ∀ p ∈ ps, IsPred p.1 p.2 a.kids) (hq : ∀ p, rest = some p → IsPred p.1 p.2 a.kids) :
  TCall Tryz.prog 45 ⟨[treeV h, restV rest, s.v]⟩ m L (Ret (.bool (kidsR (ps.map Prod.snd) (restB rest) a.kids)) m L) := by
 obtain ⟨h1, h2, h3, h4⟩ := hr
 have hl := h4.len
 have hsm := h4.small rfl
 have hl2 := hf.len
 rw [List.length_map] at hl2
 cases rest with
 | none =>
  show TCall _ _ ⟨[treeV h, .nilFunc, s.v]⟩ _ _ _
  unfold TCall
  refine TCallX.enter Tryz.func45 rfl 50 rfl ?_
  repeat (first|refine q1 ?_|refine q3 ?_)
  refine TO.step rfl (OT.box rfl rfl rfl rfl rfl (fun b => ?_))
  repeat (first|(first|refine q1 ?_|refine q3 ?_|refine q4 tab rfl rfl ?_|refine q5 ?_|refine q6 ?_)|(refine qs rfl (ql tab 0 rfl rfl rfl rfl rfl rfl ?_)))
  (refine TO.splitP rfl rfl (fun hb => ?_) (fun hb => ?_))
  ·repeat (first|refine q1 ?_|refine q3 ?_|refine q4 tab rfl rfl ?_|refine q5 ?_|refine q6 ?_|refine q8 ?_|refine q15 ?_|refine q16 rfl ?_)
   refine retQ_ret rfl (by repeat (first|exact List.Sublist.refl _|refine List.Sublist.cons _ ?_)) ⟨rfl, rfl, ?_⟩
   rw [kidsR_short _ _ _ (by rw [List.length_map]; omega)]
  repeat ((refine q4 tab rfl rfl ?_))
  refine TO.step rfl (OT.nilFn tab rfl rfl rfl rfl rfl (by kernel_rfl) ?_)
  repeat (first|(first|refine q4 tab rfl rfl ?_|refine q5 ?_|refine q6 ?_)|(refine qs rfl (ql tab 0 rfl rfl rfl rfl rfl rfl ?_)))
  refine TC.condP rfl (fun hb2 => ?_) (fun hb2 => ?_)
  ·repeat (first|refine q1 ?_|refine q3 ?_|refine q4 tab rfl rfl ?_|refine q5 ?_|refine q6 ?_|refine q8 ?_|refine q15 ?_)
   refine retQ_ret rfl (by repeat (first|exact List.Sublist.refl _|refine List.Sublist.cons _ ?_)) ⟨rfl, rfl, ?_⟩
   refine congrArg Value.bool (Eq.symm ?_)
   exact kidsR_long _ _ (by rw [List.length_map]; omega)
  repeat (first|(first|refine q1 ?_|refine q2 ?_|refine q3 ?_|refine q4 tab rfl rfl ?_|refine q5 ?_|refine q6 ?_|refine q13 ?_)|(refine qs rfl (ql tab 0 rfl rfl rfl rfl rfl rfl ?_)))
  refine TC.loopK (ι := Nat) [1, 2, 29, 30] rfl (fun k => [(31, .int .i64 (k : Int))]) (fun _ => m) (fun _ => L) (fun k => k ≤ a.kids.length ∧ kidsR (ps.map Prod.snd) (restB none) a.kids = kidsR ((ps.map Prod.snd).drop k) (restB none) (a.kids.drop k)) (fun k => a.kids.length - k) 0 (by repeat (first|exact trivial|refine And.intro rfl ?_)) rfl (by repeat (first|exact List.Sublist.refl _|refine List.Sublist.cons _ ?_)) ⟨Nat.zero_le _, rfl⟩ ?_
  rintro k ⟨hk, hI⟩
  repeat (first|refine q1 ?_|refine q3 ?_|refine q4 tab rfl rfl ?_|refine q5 ?_|refine q6 ?_)
  refine TC.condP rfl (fun h => ?_) (fun h => ?_)
  ·have hlt : k < a.kids.length := by omega
   have hx : a.kids[k]? = some a.kids[k] := by simp [hlt]
   repeat (first|refine q1 ?_|refine q2 ?_|refine q3 ?_|refine q4 tab rfl rfl ?_|refine q6 ?_|refine q13 ?_)
   refine TO.step rfl (OT.index tab rTree k h4 rfl rfl rfl rfl rfl (by first | rfl | omega | (simp only; omega)) rfl hx ?_)
   rintro b' i hd hrd hA
   (refine TO.step rfl (OT.loadA0 tab hA rfl rfl rfl rfl rfl ?_))
   skip
   refine TO.step rfl (OT.alloc tab rfl rfl rfl rfl (fun b2 => ?_))
   repeat (refine q4 tab rfl rfl ?_)
   (refine TO.step rfl (OT.storeL0 tab 0 rfl rfl rfl rfl rfl rfl rfl rfl ?_))
   repeat (first|refine q1 ?_|refine q3 ?_|refine q4 tab rfl rfl ?_|refine q5 ?_|refine q6 ?_)
   refine TC.condP rfl (fun h5 => ?_) (fun h5 => ?_)
   ·have hlt2 : k < ps.length := by omega
    have hx2 : (ps.map Prod.fst)[k]? = some ps[k].1 := by simp [hlt2]
    repeat (first|refine q3 ?_|refine q4 tab rfl rfl ?_)
    refine TO.step rfl (OT.index tab rFn k hf rfl rfl rfl rfl rfl (by first | rfl | omega | (simp only; omega)) rfl hx2 ?_)
    rintro b3 i3 fn hfn hA3
    obtain rfl : fn = ps[k].1 := hfn
    (refine TO.step rfl (OT.loadA0 tab hA3 rfl rfl rfl rfl rfl ?_))
    repeat (first|(first|refine q1 ?_|refine q3 ?_|refine q4 tab rfl rfl ?_|refine q5 ?_|refine q6 ?_)|(refine qs rfl (qz tab 0 rfl rfl rfl rfl rfl rfl ?_)))
    have hpp := hp ps[k] (List.getElem_mem hlt2)
    have hst := kidsR_step (ps.map Prod.snd) (restB none) a.kids k (by rw [List.length_map]; exact hlt2) hlt
    rw [List.getElem_map] at hst
    refine TO.step rfl (OT.call (all := [treeV hd]) rfl rfl rfl rfl rfl (by rw [fl_eq]; rfl) hpp.1 ((hpp.2 _ _ hd a.kids[k] (List.getElem_mem hlt) (rTree_iff.1 hrd)).x ?_))
    rintro _ _ _ ⟨rfl, rfl, rfl⟩
    repeat (first|refine q4 tab rfl rfl ?_|refine q5 ?_|refine q6 ?_)
    refine TC.cond (t := !ps[k].2 a.kids[k]) rfl (fun h6 => ?_) (fun h6 => ?_)
    ·repeat (first|refine q1 ?_|refine q3 ?_|refine q4 tab rfl rfl ?_|refine q5 ?_|refine q6 ?_|refine q8 ?_|refine q9 ?_|refine q15 ?_)
     refine retQ_ret rfl (by repeat (first|exact List.Sublist.refl _|refine List.Sublist.cons _ ?_)) ⟨rfl, rfl, ?_⟩
     rw [hI, hst]
     simp_all
    ·repeat (first|refine q3 ?_|refine q6 ?_|refine q7 ?_|refine q13 ?_)
     refine TO.step rfl (OT.arith (r' := ((k + 1 : Nat) : Int)) rfl rfl rfl rfl rfl rfl rfl (by omega) ?_)
     repeat (first|refine q4 tab rfl rfl ?_|refine q5 ?_|refine q6 ?_)
     exact ⟨k + 1, (by repeat (first|exact trivial|refine And.intro rfl ?_)), (by repeat (first|exact trivial|refine And.intro rfl ?_)), rfl, rfl, (by repeat (first|exact List.Sublist.refl _|refine List.Sublist.cons _ ?_)), ⟨by omega, by rw [hI, hst]; simp_all⟩, by omega⟩
   ·skip
    omega
  ·repeat (first|refine q1 ?_|refine q3 ?_|refine q4 tab rfl rfl ?_|refine q5 ?_|refine q6 ?_|refine q10 ?_|refine q11 ?_|refine q14 ?_|refine q15 ?_)
   refine retQ_ret rfl (by repeat (exact List.Sublist.refl _)) ⟨rfl, rfl, ?_⟩
   rw [hI, kidsR_end _ _ _ _ (by rw [List.length_map]; omega) (by omega)]
 | some p =>
  show TCall _ _ ⟨[treeV h, .func (.func p.1) ⟨[]⟩ ⟨[]⟩, s.v]⟩ _ _ _
  unfold TCall
  refine TCallX.enter Tryz.func45 rfl 50 rfl ?_
  repeat (first|refine q1 ?_|refine q3 ?_)
  refine TO.step rfl (OT.box rfl rfl rfl rfl rfl (fun b => ?_))
  repeat (first|(first|refine q1 ?_|refine q3 ?_|refine q4 tab rfl rfl ?_|refine q5 ?_|refine q6 ?_)|(refine qs rfl (ql tab 0 rfl rfl rfl rfl rfl rfl ?_)))
  (refine TO.splitP rfl rfl (fun hb => ?_) (fun hb => ?_))
  ·repeat (first|refine q1 ?_|refine q3 ?_|refine q4 tab rfl rfl ?_|refine q5 ?_|refine q6 ?_|refine q8 ?_|refine q15 ?_|refine q16 rfl ?_)
   refine retQ_ret rfl (by repeat (first|exact List.Sublist.refl _|refine List.Sublist.cons _ ?_)) ⟨rfl, rfl, ?_⟩
   rw [kidsR_short _ _ _ (by rw [List.length_map]; omega)]
  repeat ((refine q4 tab rfl rfl ?_))
  refine TO.step rfl (OT.nilFn2 tab rfl rfl rfl rfl rfl (by kernel_rfl) ?_)
  repeat (first|(first|refine q1 ?_|refine q2 ?_|refine q3 ?_|refine q4 tab rfl rfl ?_|refine q5 ?_|refine q6 ?_|refine q13 ?_|refine q17 rfl ?_)|(refine qs rfl (ql tab 0 rfl rfl rfl rfl rfl rfl ?_)))
  refine TC.loopK (ι := Nat) [1, 2, 29, 30] rfl (fun k => [(31, .int .i64 (k : Int))]) (fun _ => m) (fun _ => L) (fun k => k ≤ a.kids.length ∧ kidsR (ps.map Prod.snd) (restB (some p)) a.kids = kidsR ((ps.map Prod.snd).drop k) (restB (some p)) (a.kids.drop k)) (fun k => a.kids.length - k) 0 (by repeat (first|exact trivial|refine And.intro rfl ?_)) rfl (by repeat (first|exact List.Sublist.refl _|refine List.Sublist.cons _ ?_)) ⟨Nat.zero_le _, rfl⟩ ?_
  rintro k ⟨hk, hI⟩
  repeat (first|refine q1 ?_|refine q3 ?_|refine q4 tab rfl rfl ?_|refine q5 ?_|refine q6 ?_)
  refine TC.condP rfl (fun h => ?_) (fun h => ?_)
  ·have hlt : k < a.kids.length := by omega
   have hx : a.kids[k]? = some a.kids[k] := by simp [hlt]
   repeat (first|refine q1 ?_|refine q2 ?_|refine q3 ?_|refine q4 tab rfl rfl ?_|refine q6 ?_|refine q13 ?_)
   refine TO.step rfl (OT.index tab rTree k h4 rfl rfl rfl rfl rfl (by first | rfl | omega | (simp only; omega)) rfl hx ?_)
   rintro b' i hd hrd hA
   (refine TO.step rfl (OT.loadA0 tab hA rfl rfl rfl rfl rfl ?_))
   skip
   refine TO.step rfl (OT.alloc tab rfl rfl rfl rfl (fun b2 => ?_))
   repeat (refine q4 tab rfl rfl ?_)
   (refine TO.step rfl (OT.storeL0 tab 0 rfl rfl rfl rfl rfl rfl rfl rfl ?_))
   repeat (first|refine q1 ?_|refine q3 ?_|refine q4 tab rfl rfl ?_|refine q5 ?_|refine q6 ?_)
   refine TC.condP rfl (fun h5 => ?_) (fun h5 => ?_)
   ·have hlt2 : k < ps.length := by omega
    have hx2 : (ps.map Prod.fst)[k]? = some ps[k].1 := by simp [hlt2]
    repeat (first|refine q3 ?_|refine q4 tab rfl rfl ?_)
    refine TO.step rfl (OT.index tab rFn k hf rfl rfl rfl rfl rfl (by first | rfl | omega | (simp only; omega)) rfl hx2 ?_)
    rintro b3 i3 fn hfn hA3
    obtain rfl : fn = ps[k].1 := hfn
    (refine TO.step rfl (OT.loadA0 tab hA3 rfl rfl rfl rfl rfl ?_))
    repeat (first|(first|refine q1 ?_|refine q3 ?_|refine q4 tab rfl rfl ?_|refine q5 ?_|refine q6 ?_)|(refine qs rfl (qz tab 0 rfl rfl rfl rfl rfl rfl ?_)))
    have hpp := hp ps[k] (List.getElem_mem hlt2)
    have hst := kidsR_step (ps.map Prod.snd) (restB (some p)) a.kids k (by rw [List.length_map]; exact hlt2) hlt
    rw [List.getElem_map] at hst
    refine TO.step rfl (OT.call (all := [treeV hd]) rfl rfl rfl rfl rfl (by rw [fl_eq]; rfl) hpp.1 ((hpp.2 _ _ hd a.kids[k] (List.getElem_mem hlt) (rTree_iff.1 hrd)).x ?_))
    rintro _ _ _ ⟨rfl, rfl, rfl⟩
    repeat (first|refine q4 tab rfl rfl ?_|refine q5 ?_|refine q6 ?_)
    refine TC.cond (t := !ps[k].2 a.kids[k]) rfl (fun h6 => ?_) (fun h6 => ?_)
    ·repeat (first|refine q1 ?_|refine q3 ?_|refine q4 tab rfl rfl ?_|refine q5 ?_|refine q6 ?_|refine q8 ?_|refine q9 ?_|refine q15 ?_)
     refine retQ_ret rfl (by repeat (first|exact List.Sublist.refl _|refine List.Sublist.cons _ ?_)) ⟨rfl, rfl, ?_⟩
     rw [hI, hst]
     simp_all
    ·repeat (first|refine q3 ?_|refine q6 ?_|refine q7 ?_|refine q13 ?_)
     refine TO.step rfl (OT.arith (r' := ((k + 1 : Nat) : Int)) rfl rfl rfl rfl rfl rfl rfl (by omega) ?_)
     repeat (first|refine q4 tab rfl rfl ?_|refine q5 ?_|refine q6 ?_)
     exact ⟨k + 1, (by repeat (first|exact trivial|refine And.intro rfl ?_)), (by repeat (first|exact trivial|refine And.intro rfl ?_)), rfl, rfl, (by repeat (first|exact List.Sublist.refl _|refine List.Sublist.cons _ ?_)), ⟨by omega, by rw [hI, hst]; simp_all⟩, by omega⟩
   ·skip
    have hst := kidsR_rest (ps.map Prod.snd) p.2 a.kids k (by rw [List.length_map]; omega) hlt
    have hpp := hq p rfl
    repeat (first|refine q1 ?_|refine q3 ?_|refine q4 tab rfl rfl ?_|refine q6 ?_|refine q13 ?_)
    (refine qs rfl (qz tab 0 rfl rfl rfl rfl rfl rfl ?_))
    skip
    refine TO.step rfl (OT.call (all := [treeV hd]) rfl rfl rfl rfl rfl (by rw [fl_eq]; rfl) hpp.1 ((hpp.2 _ _ hd a.kids[k] (List.getElem_mem hlt) (rTree_iff.1 hrd)).x ?_))
    rintro _ _ _ ⟨rfl, rfl, rfl⟩
    repeat (first|refine q4 tab rfl rfl ?_|refine q5 ?_|refine q6 ?_)
    refine TC.cond (t := !p.2 a.kids[k]) rfl (fun h6 => ?_) (fun h6 => ?_)
    ·repeat (first|refine q1 ?_|refine q3 ?_|refine q4 tab rfl rfl ?_|refine q5 ?_|refine q6 ?_|refine q8 ?_|refine q9 ?_|refine q15 ?_)
     refine retQ_ret rfl (by repeat (first|exact List.Sublist.refl _|refine List.Sublist.cons _ ?_)) ⟨rfl, rfl, ?_⟩
     rw [hI]
     refine congrArg Value.bool ?_
     refine Eq.symm (hst.trans ?_)
     simp_all
    ·repeat (first|refine q3 ?_|refine q6 ?_|refine q7 ?_|refine q13 ?_)
     refine TO.step rfl (OT.arith (r' := ((k + 1 : Nat) : Int)) rfl rfl rfl rfl rfl rfl rfl (by omega) ?_)
     repeat (first|refine q4 tab rfl rfl ?_|refine q5 ?_|refine q6 ?_)
     exact ⟨k + 1, (by repeat (first|exact trivial|refine And.intro rfl ?_)), (by repeat (first|exact trivial|refine And.intro rfl ?_)), rfl, rfl, (by repeat (first|exact List.Sublist.refl _|refine List.Sublist.cons _ ?_)), ⟨by omega, by rw [hI]; refine hst.trans ?_; simp_all [restB]⟩, by omega⟩
  ·repeat (first|refine q1 ?_|refine q3 ?_|refine q4 tab rfl rfl ?_|refine q5 ?_|refine q6 ?_|refine q10 ?_|refine q11 ?_|refine q14 ?_|refine q15 ?_)
   refine retQ_ret rfl (by repeat (exact List.Sublist.refl _)) ⟨rfl, rfl, ?_⟩
   rw [hI, kidsR_end _ _ _ _ (by rw [List.length_map]; omega) (by omega)]
end Go.Sep


/- PsSndP -/
set_option linter.unusedVariables false
set_option linter.unusedSimpArgs false
namespace Go.Sep
structure Sg where
 expr : Tree → Bool
 stmt : Tree → Bool
 block : Tree → Bool
theorem kidsR0 (l : List Tree) : kidsR [] none l = decide (l.length = 0) := by cases l <;> simp [kidsR]
theorem kidsR1 (p : Tree → Bool) (l : List Tree) : kidsR [p] none l = (decide (l.length = 1) && l.all p) := by
 match l with
 | [] => simp [kidsR]
 | [x] => simp [kidsR]
 | _ :: _ :: _ => simp [kidsR]
def ops4 : List Str := [[45], [33], [38], [42]]
def lvl (a : Tree) : Bool := decide (0 ≤ a.num) && (decide (a.num ≤ 3) && decide ((a.kids.length : Int) = 1 + a.num % 2 + a.num / 2))
def exprS (g : Sg) (a : Tree) : Bool :=
 if a.kind = 40 then bareB a (decide (0 ≤ a.num)) false true && kidsR [] none a.kids
 else if a.kind = 41 then bareB a (decide ((a.name.length : Int) ≤ 1024)) true false && kidsR [] none a.kids
 else if a.kind = 42 then bareB a (decide (a.num / 2 = 0)) false true && kidsR [] none a.kids
 else if a.kind = 43 then bareB a true false false && kidsR [] none a.kids
 else if a.kind = 44 then ofB a 44 && kidsR [] none a.kids
 else if a.kind = 45 then ofB a 45 && a.kids.all g.expr
 else if a.kind = 46 then bareB a true false false && kidsR [Tree.isType] (some g.expr) a.kids
 else if a.kind = 47 then bareB a true false false && kidsR [Tree.isSig, g.block] none a.kids
 else if a.kind = 48 then ofB a 48 && kidsR [g.expr] none a.kids
 else if a.kind = 49 then bareB a true false false && kidsR [g.expr, g.expr] none a.kids
 else if a.kind = 50 then bareB a (lvl a) false true && a.kids.all g.expr
 else if a.kind = 51 then bareB a true false false && kidsR [g.expr] (some g.expr) a.kids
 else if a.kind = 52 then bareB a (decide (a.name ∈ ops4)) true false && kidsR [g.expr] none a.kids
 else if a.kind = 53 then bareB a (decide (a.name ∈ Ps.levels.flatten)) true false && kidsR [g.expr, g.expr] none a.kids
 else false
def blockS (g : Sg) (a : Tree) : Bool := bareB a (decide (a.kind = 20)) false false && a.kids.all g.stmt
def nmS (g : Sg) (a : Tree) : Bool := decide (a.kind = 44) && g.expr a
def plS (g : Sg) (a : Tree) : Bool := Ps.isPl a && g.expr a
def callS (g : Sg) (a : Tree) : Bool := decide (a.kind = 51) && g.expr a
def otherS (g : Sg) (a : Tree) : Bool := g.block a || (decide (a.kind = 25) && g.stmt a)
def asgS (g : Sg) (left : Tree → Bool) (a : Tree) : Bool := decide (1 ≤ a.num) && (decide (a.num < (a.kids.length : Int)) && ((a.kids.take a.num.toNat).all left && (a.kids.drop a.num.toNat).all g.expr))
def headS (a : Tree) : Bool := (decide (a.kind = 21) || decide (a.name = [])) && ((decide (a.kind = 22) || decide (a.kind = 23)) || decide (a.num = 0))
def stmtS (g : Sg) (a : Tree) : Bool :=
 if headS a = false then false
 else if a.kind = 20 then blockS g a
 else if a.kind = 21 then isName a.name && (kidsR [Tree.isType] none a.kids || kidsR [Tree.isType, g.expr] none a.kids)
 else if a.kind = 22 then asgS g (nmS g) a
 else if a.kind = 23 then asgS g (plS g) a
 else if a.kind = 24 then kidsR [callS g] none a.kids
 else if a.kind = 25 then kidsR [g.expr, g.block] none a.kids || kidsR [g.expr, g.block, otherS g] none a.kids
 else if a.kind = 26 then kidsR [g.block] none a.kids || kidsR [g.expr, g.block] none a.kids
 else if a.kind = 27 then a.kids.all g.expr
 else if a.kind = 28 ∨ a.kind = 29 then kidsR [] none a.kids
 else false
def Sg.step (g : Sg) : Sg := ⟨exprS g, stmtS g, blockS g⟩
def sg : Nat → Sg
 | 0 => ⟨fun _ => false, fun _ => false, fun _ => false⟩
 | n + 1 => (sg n).step
def kid0 (a : Tree) : Tree := a.kids.headD (.mk 0 [] 0 [])
def recvS (a : Tree) : Bool := a.isParam && (decide ((kid0 a).kind = 11) && decide ((kid0 (kid0 a)).kind = 10))
def fieldS (p : Tree → Bool) (a : Tree) : Bool := ofB a 6 && kidsR [p] none a.kids
def declS (g : Sg) (a : Tree) : Bool :=
 if a.kind = 2 then ofB a 2 && a.kids.all (fieldS Tree.isType)
 else if a.kind = 3 then ofB a 3 && a.kids.all (fieldS Tree.isSig)
 else if a.kind = 4 then ofB a 4 && kidsR [Tree.isSig, g.block] none a.kids
 else if a.kind = 5 then ofB a 5 && kidsR [recvS, Tree.isSig, g.block] none a.kids
 else false
def soundB (a : Tree) : Bool := (decide (a.size ≤ 20000) && decide (a.deep ≤ 100)) && (bareB a (decide (a.kind = 1)) false false && a.kids.all (declS (sg 100)))
end Go.Sep


/- PsSnd1 -/
set_option linter.unusedVariables false
set_option linter.unusedSimpArgs false
namespace Go.Sep
open Go.Proofs
attribute [local irreducible] TC TO OT TCallX TCall DO DOt thenQ blockQ retQ At
theorem sl1 {m : Mem} {b : Nat} {fn : FuncId} (h : At m b 0 [.func (.func fn) ⟨[]⟩ ⟨[]⟩]) : SlRep rFn m ⟨some ⟨b, 0, none⟩, 1, 1⟩ [fn] := SlRep.one (r := rFn) (h := fn) h rfl (by decide)
set_option maxHeartbeats 1600000 in
theorem type_law (a : Tree) : ∀ (m : Mem) (L : List Item) (h : HTree) (hr : TreeRep m h a) (hB : a.bulk ≤ 140737488355328), TCall Tryz.prog 46 ⟨[treeV h]⟩ m L (Ret (.bool a.isType) m L) := by
 induction a using Tree.ind with
 | h a ih =>
 intro m L h hr hB
 have hp : IsPred 46 Tree.isType a.kids := ⟨goes46, fun m L h k hk hr => ih k hk m L h hr (Nat.le_trans (Nat.le_of_lt (bulk_kid hk)) hB)⟩
 have hr' := hr
 obtain ⟨h1, h2, h3, h4⟩ := hr
 have hl := h4.len
 refine TCall.forget ?_
 rw [isType_eq]
 unfold TCall
 refine TCallX.enter Tryz.func46 rfl 47 rfl ?_
 by_cases h10 : a.kind = 10
 ·rw [if_pos h10]
  obtain ⟨k, n, u, s⟩ := h
  obtain rfl : k = 10 := h1.trans h10
  repeat (first|refine q1 ?_|refine q3 ?_)
  refine TO.step rfl (OT.box rfl rfl rfl rfl rfl (fun b => ?_))
  repeat (first|(first|refine q1 ?_|refine q2 ?_|refine q3 ?_|refine q4 tab rfl rfl ?_|refine q5 ?_|refine q6 ?_|refine q16 rfl ?_)|(first|refine qs rfl (ql tab 0 rfl rfl rfl rfl rfl rfl ?_)|refine qs rfl (qz tab 0 rfl rfl rfl rfl rfl rfl ?_)))
  refine TO.step rfl (OT.call rfl rfl rfl rfl rfl rfl goes43 ((of_law _ _ ⟨10, n, u, s⟩ a hr' hB 10).x ?_));
  rintro _ _ _ ⟨rfl, rfl, rfl⟩
  repeat (refine q4 tab rfl rfl ?_)
  refine TO.split rfl rfl (fun h7 => ?_) (fun h7 => ?_)
  ·repeat ((refine qs rfl (qz tab 0 rfl rfl rfl rfl rfl rfl ?_)))
   refine TO.step rfl (OT.call rfl rfl rfl rfl rfl rfl goes45 ((kids_law _ _ ⟨10, n, u, s⟩ a hr' ⟨none, 0, 0⟩ [] none (SlRep.nil _ _) (fun _ h => by cases h) (fun _ h => by cases h)).x ?_));
   rintro _ _ _ ⟨rfl, rfl, rfl⟩
   repeat (first|refine q4 tab rfl rfl ?_|refine q5 ?_|refine q6 ?_|refine q8 ?_|refine q9 ?_|refine q15 ?_)
   refine retQ_ret rfl (by repeat (first|exact List.Sublist.refl _|refine List.Sublist.cons _ ?_)) ⟨Mem.le_refl _, rfl, ?_⟩
   simp_all [kidsR0, kidsR1, ofB, restB]
  ·repeat (first|refine q4 tab rfl rfl ?_|refine q5 ?_|refine q6 ?_|refine q8 ?_|refine q9 ?_|refine q15 ?_)
   refine retQ_ret rfl (by repeat (first|exact List.Sublist.refl _|refine List.Sublist.cons _ ?_)) ⟨Mem.le_refl _, rfl, ?_⟩
   unfold ofB at h7
   rw [h10, decide_eq_true rfl, Bool.true_and] at h7
   rw [← Bool.and_assoc, h7]; rfl
 rw [if_neg h10]
 by_cases h11 : a.kind = 11 ∨ a.kind = 12
 ·rw [if_pos h11]
  have h12 : h.kind = 11 ∨ h.kind = 12 := by rw [h1]; exact h11
  obtain ⟨k, n, u, s⟩ := h
  rcases h12 with h12 | h12
  all_goals
   simp only at h12
   subst h12
   repeat (first|refine q1 ?_|refine q3 ?_)
   refine TO.step rfl (OT.box rfl rfl rfl rfl rfl (fun b => ?_))
   repeat (first|(first|refine q1 ?_|refine q2 ?_|refine q3 ?_|refine q4 tab rfl rfl ?_|refine q5 ?_|refine q6 ?_|refine q13 ?_|refine q16 rfl ?_|refine q17 rfl ?_)|(first|refine qs rfl (ql tab 0 rfl rfl rfl rfl rfl rfl ?_)|refine qs rfl (qz tab 0 rfl rfl rfl rfl rfl rfl ?_)))
   refine TO.step rfl (OT.call rfl rfl rfl rfl rfl rfl goes25 ((bare_law _ _ ⟨_, n, u, s⟩ a hr' true false false).x ?_));
   rintro _ _ _ ⟨rfl, rfl, rfl⟩
   repeat (refine q4 tab rfl rfl ?_)
   refine TO.split rfl rfl (fun h7 => ?_) (fun h7 => ?_)
   ·repeat ((refine qs rfl (qz tab 0 rfl rfl rfl rfl rfl rfl ?_)))
    refine TO.step rfl (OT.lit tab rfl rfl rfl rfl (fun b2 => ?_))
    refine TO.freeze fun m1 hm1 hA1 => ?_
    skip
    refine TO.step rfl (OT.call rfl rfl rfl rfl rfl rfl goes45 ((kids_law m1 _ ⟨_, n, u, s⟩ a (hr'.mono hm1) ⟨some ⟨b2, 0, none⟩, 1, 1⟩ [(46, Tree.isType)] none (sl1 hA1) (fun p h => by rw [List.mem_singleton.1 h]; exact hp) (fun _ h => by cases h)).x ?_));
    rintro _ _ _ ⟨rfl, rfl, rfl⟩
    repeat (first|refine q4 tab rfl rfl ?_|refine q5 ?_|refine q6 ?_|refine q8 ?_|refine q9 ?_|refine q15 ?_)
    refine retQ_ret rfl (by repeat (first|exact List.Sublist.refl _|refine List.Sublist.cons _ ?_)) ⟨hm1, rfl, ?_⟩
    simp_all [bareB, kidsR1, restB]
   ·repeat (first|refine q4 tab rfl rfl ?_|refine q5 ?_|refine q6 ?_|refine q8 ?_|refine q9 ?_|refine q15 ?_)
    refine retQ_ret rfl (by repeat (first|exact List.Sublist.refl _|refine List.Sublist.cons _ ?_)) ⟨Mem.le_refl _, rfl, ?_⟩
    unfold bareB at h7
    simp only [Bool.true_and, Bool.false_or] at h7
    rw [← Bool.and_assoc, h7]; rfl
 rw [if_neg h11]
 by_cases h13 : a.kind = 13
 ·rw [if_pos h13]
  obtain ⟨k, n, u, s⟩ := h
  obtain rfl : k = 13 := h1.trans h13
  repeat (first|refine q1 ?_|refine q3 ?_)
  refine TO.step rfl (OT.box rfl rfl rfl rfl rfl (fun b => ?_))
  repeat (first|(first|refine q1 ?_|refine q2 ?_|refine q3 ?_|refine q4 tab rfl rfl ?_|refine q5 ?_|refine q6 ?_|refine q16 rfl ?_|refine q17 rfl ?_)|(first|refine qs rfl (ql tab 0 rfl rfl rfl rfl rfl rfl ?_)|refine qs rfl (qz tab 0 rfl rfl rfl rfl rfl rfl ?_)))
  refine TO.step rfl (OT.call rfl rfl rfl rfl rfl rfl goes25 ((bare_law _ _ ⟨13, n, u, s⟩ a hr' true false true).x ?_));
  rintro _ _ _ ⟨rfl, rfl, rfl⟩
  simp only at h2 h3 hl
  repeat (refine q4 tab rfl rfl ?_)
  refine TO.split rfl rfl (fun h7 => ?_) (fun h7 => ?_)
  ·have hn : a.name = [] := by unfold bareB at h7; simpa using h7
   repeat (first|(refine q4 tab rfl rfl ?_)|(refine qs rfl (ql tab 0 rfl rfl rfl rfl rfl rfl ?_)))
   (refine TO.splitP rfl rfl (fun h8 => ?_) (fun h8 => ?_))
   ·repeat (first|(refine q4 tab rfl rfl ?_)|(refine qs rfl (ql tab 0 rfl rfl rfl rfl rfl rfl ?_)))
    (refine TO.splitP rfl rfl (fun h9 => ?_) (fun h9 => ?_))
    ·repeat (first|(refine q4 tab rfl rfl ?_)|(refine qs rfl (ql tab 0 rfl rfl rfl rfl rfl rfl ?_)))
     refine TO.step rfl (OT.call rfl rfl rfl rfl rfl rfl goes26 ((pall_law _ _ s a.kids h4 46 Tree.isType hp).x ?_));
     rintro _ _ _ ⟨rfl, rfl, rfl⟩
     repeat (first|refine q4 tab rfl rfl ?_|refine q5 ?_|refine q6 ?_|refine q8 ?_|refine q9 ?_|refine q15 ?_)
     refine retQ_ret rfl (by repeat (first|exact List.Sublist.refl _|refine List.Sublist.cons _ ?_)) ⟨Mem.le_refl _, rfl, ?_⟩
     simp only at h8 h9
     rw [decide_eq_true hn, decide_eq_true (by omega), decide_eq_true (by omega)]; rfl
    ·repeat (first|refine q4 tab rfl rfl ?_|refine q5 ?_|refine q6 ?_|refine q8 ?_|refine q9 ?_|refine q15 ?_)
     refine retQ_ret rfl (by repeat (first|exact List.Sublist.refl _|refine List.Sublist.cons _ ?_)) ⟨Mem.le_refl _, rfl, ?_⟩
     simp only at h8 h9
     rw [decide_eq_true hn, decide_eq_true (by omega), decide_eq_false (by omega)]; rfl
   ·repeat (first|refine q4 tab rfl rfl ?_|refine q5 ?_|refine q6 ?_|refine q8 ?_|refine q9 ?_|refine q15 ?_)
    refine retQ_ret rfl (by repeat (first|exact List.Sublist.refl _|refine List.Sublist.cons _ ?_)) ⟨Mem.le_refl _, rfl, ?_⟩
    simp only at h8
    rw [decide_eq_true hn, decide_eq_false (by omega)]; rfl
  ·repeat (first|refine q4 tab rfl rfl ?_|refine q5 ?_|refine q6 ?_|refine q8 ?_|refine q9 ?_|refine q15 ?_)
   refine retQ_ret rfl (by repeat (first|exact List.Sublist.refl _|refine List.Sublist.cons _ ?_)) ⟨Mem.le_refl _, rfl, ?_⟩
   have hn : ¬ a.name = [] := by unfold bareB at h7; simpa using h7
   rw [decide_eq_false hn]; rfl
 rw [if_neg h13]
 repeat (first|refine q1 ?_|refine q3 ?_)
 refine TO.step rfl (OT.box rfl rfl rfl rfl rfl (fun b => ?_))
 repeat (first|(first|refine q1 ?_|refine q2 ?_|refine q3 ?_|refine q4 tab rfl rfl ?_|refine q5 ?_|refine q6 ?_)|(refine qs rfl (ql tab 0 rfl rfl rfl rfl rfl rfl ?_)))
 refine TC.condP rfl (fun h5 => ?_) (fun h5 => ?_)
 ·omega
 repeat (first|refine q1 ?_|refine q3 ?_|refine q4 tab rfl rfl ?_|refine q5 ?_|refine q6 ?_)
 refine TC.condP rfl (fun h5 => ?_) (fun h5 => ?_)
 ·omega
 repeat (first|refine q3 ?_|refine q4 tab rfl rfl ?_|refine q5 ?_|refine q6 ?_)
 refine TC.condP rfl (fun h5 => ?_) (fun h5 => ?_)
 ·omega
 repeat (first|refine q1 ?_|refine q3 ?_|refine q4 tab rfl rfl ?_|refine q5 ?_|refine q6 ?_)
 refine TC.condP rfl (fun h5 => ?_) (fun h5 => ?_)
 ·omega
 repeat (first|refine q1 ?_|refine q3 ?_|refine q4 tab rfl rfl ?_|refine q5 ?_|refine q6 ?_|refine q7 ?_|refine q13 ?_|refine q15 ?_)
 exact retQ_ret rfl (by repeat (first|exact List.Sublist.refl _|refine List.Sublist.cons _ ?_)) ⟨Mem.le_refl _, rfl, rfl⟩
set_option maxHeartbeats 800000 in
theorem param_law (a : Tree) (m : Mem) (L : List Item) (h : HTree) (hr : TreeRep m h a) (hB : a.bulk ≤ 140737488355328) : TCall Tryz.prog 84 ⟨[treeV h]⟩ m L (Ret (.bool a.isParam) m L) := by
 have hp : IsPred 46 Tree.isType a.kids := ⟨goes46, fun m L h k hk hr => type_law k m L h hr (Nat.le_trans (Nat.le_of_lt (bulk_kid hk)) hB)⟩
 refine TCall.forget ?_
 unfold TCall
 refine TCallX.enter Tryz.func84 rfl 10 rfl ?_
 repeat (first|refine q1 ?_|refine q3 ?_)
 refine TO.step rfl (OT.box rfl rfl rfl rfl rfl (fun b => ?_))
 repeat (first|(first|refine q1 ?_|refine q3 ?_|refine q4 tab rfl rfl ?_|refine q5 ?_|refine q6 ?_)|(refine qs rfl (qz tab 0 rfl rfl rfl rfl rfl rfl ?_)))
 refine TO.step rfl (OT.call rfl rfl rfl rfl rfl rfl goes43 ((of_law _ _ h a hr hB 8).x ?_));
 rintro _ _ _ ⟨rfl, rfl, rfl⟩
 repeat (refine q4 tab rfl rfl ?_)
 refine TO.split rfl rfl (fun h7 => ?_) (fun h7 => ?_)
 ·repeat ((refine qs rfl (qz tab 0 rfl rfl rfl rfl rfl rfl ?_)))
  refine TO.step rfl (OT.lit tab rfl rfl rfl rfl (fun b2 => ?_))
  refine TO.freeze fun m1 hm1 hA1 => ?_
  skip
  refine TO.step rfl (OT.call rfl rfl rfl rfl rfl rfl goes45 ((kids_law m1 _ h a (hr.mono hm1) ⟨some ⟨b2, 0, none⟩, 1, 1⟩ [(46, Tree.isType)] none (sl1 hA1) (fun p h => by rw [List.mem_singleton.1 h]; exact hp) (fun _ h => by cases h)).x ?_));
  rintro _ _ _ ⟨rfl, rfl, rfl⟩
  repeat (first|refine q4 tab rfl rfl ?_|refine q5 ?_|refine q6 ?_|refine q15 ?_)
  refine retQ_ret rfl (by repeat (first|exact List.Sublist.refl _|refine List.Sublist.cons _ ?_)) ⟨hm1, rfl, ?_⟩
  unfold Tree.isParam
  simp_all [kidsR0, kidsR1, ofB, restB]
 ·repeat (first|refine q4 tab rfl rfl ?_|refine q5 ?_|refine q6 ?_|refine q15 ?_)
  refine retQ_ret rfl (by repeat (first|exact List.Sublist.refl _|refine List.Sublist.cons _ ?_)) ⟨Mem.le_refl _, rfl, ?_⟩
  unfold ofB at h7
  unfold Tree.isParam
  rw [← Bool.and_assoc, ← Bool.and_assoc, Bool.and_assoc (decide (a.kind = 8)), h7]; rfl
set_option maxHeartbeats 800000 in
theorem sig_law (a : Tree) (m : Mem) (L : List Item) (h : HTree) (hr : TreeRep m h a) (hB : a.bulk ≤ 140737488355328) : TCall Tryz.prog 48 ⟨[treeV h]⟩ m L (Ret (.bool a.isSig) m L) := by
 have hp : IsPred 46 Tree.isType (a.kids.drop a.num.toNat) := ⟨goes46, fun m L h k hk hr => type_law k m L h hr (Nat.le_trans (Nat.le_of_lt (bulk_kid (List.mem_of_mem_drop hk))) hB)⟩
 have hp2 : IsPred 84 Tree.isParam (a.kids.take a.num.toNat) := ⟨goes84, fun m L h k hk hr => param_law k m L h hr (Nat.le_trans (Nat.le_of_lt (bulk_kid (List.mem_of_mem_take hk))) hB)⟩
 have hr' := hr
 obtain ⟨h1, h2, h3, h4⟩ := hr
 have hl := h4.len
 unfold TCall
 refine TCallX.enter Tryz.func48 rfl 37 rfl ?_
 repeat (first|refine q1 ?_|refine q3 ?_)
 refine TO.step rfl (OT.box rfl rfl rfl rfl rfl (fun b => ?_))
 repeat (first|(first|refine q1 ?_|refine q3 ?_|refine q4 tab rfl rfl ?_|refine q5 ?_|refine q6 ?_)|(first|refine qs rfl (ql tab 0 rfl rfl rfl rfl rfl rfl ?_)|refine qs rfl (qz tab 0 rfl rfl rfl rfl rfl rfl ?_)))
 refine TO.step rfl (OT.call rfl rfl rfl rfl rfl rfl goes25 ((bare_law _ _ h a hr' (decide (h.kind = 7)) false true).x ?_));
 rintro _ _ _ ⟨rfl, rfl, rfl⟩
 repeat (refine q4 tab rfl rfl ?_)
 refine TO.split rfl rfl (fun h7 => ?_) (fun h7 => ?_)
 ·have hn : a.kind = 7 ∧ a.name = [] := by unfold bareB at h7; rw [← h1]; simpa using h7
  repeat (first|(refine q4 tab rfl rfl ?_)|(refine qs rfl (ql tab 0 rfl rfl rfl rfl rfl rfl ?_)))
  (refine TO.splitP rfl rfl (fun h8 => ?_) (fun h8 => ?_))
  ·repeat (first|(refine q4 tab rfl rfl ?_)|(refine qs rfl (ql tab 0 rfl rfl rfl rfl rfl rfl ?_)))
   (refine TO.splitP rfl rfl (fun h9 => ?_) (fun h9 => ?_))
   ·repeat (first|(refine q4 tab rfl rfl ?_)|(refine qs rfl (ql tab 0 rfl rfl rfl rfl rfl rfl ?_)))
    have hnum : h.num = ((a.num.toNat : Nat) : Int) := by omega
    refine TO.step rfl (OT.cut tab rTree 0 a.num.toNat h4 rfl rfl rfl rfl rfl rfl rfl (.inl ⟨rfl, rfl⟩) (.inr (by rw [hnum])) (Nat.zero_le _) (by omega) (fun s1 hs1 => ?_))
    rw [List.drop_zero] at hs1
    skip
    refine TO.step rfl (OT.call rfl rfl rfl rfl rfl rfl goes26 ((pall_law _ _ s1 _ hs1 84 Tree.isParam hp2).x ?_));
    rintro _ _ _ ⟨rfl, rfl, rfl⟩
    repeat (refine q4 tab rfl rfl ?_)
    have pre : a.isSig = ((a.kids.take a.num.toNat).all Tree.isParam && (a.kids.drop a.num.toNat).all Tree.isType) := by
     unfold Tree.isSig
     rw [decide_eq_true hn.1, decide_eq_true hn.2, decide_eq_true (show 0 ≤ a.num by omega), decide_eq_true (show a.num ≤ (a.kids.length : Int) by omega)]; rfl
    refine TO.split rfl rfl (fun h10 => ?_) (fun h10 => ?_)
    ·repeat (first|(refine q4 tab rfl rfl ?_)|(refine qs rfl (ql tab 0 rfl rfl rfl rfl rfl rfl ?_)))
     refine TO.step rfl (OT.cut tab rTree a.num.toNat h.kids.len h4 rfl rfl rfl rfl rfl rfl rfl (.inr (by rw [hnum])) (.inl ⟨rfl, rfl⟩) (by omega) (by omega) (fun s2 hs2 => ?_))
     rw [List.take_of_length_le (by omega)] at hs2
     skip
     refine TO.step rfl (OT.call rfl rfl rfl rfl rfl rfl goes26 ((pall_law _ _ s2 _ hs2 46 Tree.isType hp).x ?_));
     rintro _ _ _ ⟨rfl, rfl, rfl⟩
     repeat (first|refine q4 tab rfl rfl ?_|refine q5 ?_|refine q6 ?_|refine q15 ?_)
     refine retQ_ret rfl (by repeat (first|exact List.Sublist.refl _|refine List.Sublist.cons _ ?_)) ⟨rfl, rfl, ?_⟩
     rw [pre, h10]; rfl
    ·repeat (first|refine q4 tab rfl rfl ?_|refine q5 ?_|refine q6 ?_|refine q15 ?_)
     refine retQ_ret rfl (by repeat (first|exact List.Sublist.refl _|refine List.Sublist.cons _ ?_)) ⟨rfl, rfl, ?_⟩
     rw [pre, h10]; rfl
   ·repeat (first|refine q4 tab rfl rfl ?_|refine q5 ?_|refine q6 ?_|refine q15 ?_)
    refine retQ_ret rfl (by repeat (first|exact List.Sublist.refl _|refine List.Sublist.cons _ ?_)) ⟨rfl, rfl, ?_⟩
    unfold Tree.isSig
    rw [decide_eq_true hn.1, decide_eq_true hn.2, decide_eq_true (show 0 ≤ a.num by omega), decide_eq_false (show ¬ a.num ≤ (a.kids.length : Int) by omega)]; rfl
  ·repeat (first|refine q4 tab rfl rfl ?_|refine q5 ?_|refine q6 ?_|refine q15 ?_)
   refine retQ_ret rfl (by repeat (first|exact List.Sublist.refl _|refine List.Sublist.cons _ ?_)) ⟨rfl, rfl, ?_⟩
   unfold Tree.isSig
   rw [decide_eq_true hn.1, decide_eq_true hn.2, decide_eq_false (show ¬ 0 ≤ a.num by omega)]; rfl
 ·repeat (first|refine q4 tab rfl rfl ?_|refine q5 ?_|refine q6 ?_|refine q15 ?_)
  refine retQ_ret rfl (by repeat (first|exact List.Sublist.refl _|refine List.Sublist.cons _ ?_)) ⟨rfl, rfl, ?_⟩
  have hn : ¬ (a.kind = 7 ∧ a.name = []) := by unfold bareB at h7; rw [← h1]; simpa using h7
  unfold Tree.isSig
  rw [← Bool.and_assoc, ← Bool.decide_and, decide_eq_false hn]; rfl
end Go.Sep


/- PsConcat -/
set_option linter.unusedVariables false
set_option linter.unusedSimpArgs false
namespace Go.Sep
open Go.Proofs
attribute [local irreducible] TC TO OT TCallX TCall DO DOt thenQ blockQ retQ At
abbrev rSlS := rSl rStr
set_option maxHeartbeats 800000 in
theorem growS_law (m : Mem) (L : List Item) (n : Nat) (hB : n * 16 ≤ 140737488355328) : TCall Tryz.prog 142 ⟨[.slice none 0 0, .int .i64 (n : Int)]⟩ m L (fun r m' L' => m = m' ∧ ∃ s : Sl, r = s.v ∧ Own s ∧ SlRep rStr m s [] ∧ L' = tok s 1 :: L) := by
 unfold TCall
 refine TCallX.enter Tryz.func142 rfl 27 rfl ?_
 repeat (first|refine q1 ?_|refine q3 ?_|refine q4 tab rfl rfl ?_|refine q5 ?_|refine q6 ?_|refine q13 ?_|refine q17 rfl ?_)
 refine TO.step rfl (OT.cap (s := ⟨none, 0, 0⟩) tab rfl rfl rfl rfl rfl ?_)
 repeat (refine q4 tab rfl rfl ?_)
 refine TO.step rfl (OT.arith (r' := ((0 : Nat) : Int)) rfl rfl rfl rfl rfl rfl rfl (by omega) ?_)
 skip
 refine TO.step rfl (OT.arith (r' := (n : Int)) rfl rfl rfl rfl rfl rfl (by simp) (by omega) ?_)
 repeat (first|refine q1 ?_|refine q3 ?_|refine q4 tab rfl rfl ?_|refine q5 ?_|refine q6 ?_)
 refine TC.condP rfl (fun e2 => ?_) (fun e2 => ?_)
 ·repeat (first|refine q3 ?_|refine q4 tab rfl rfl ?_)
  refine TO.step rfl (OT.cap (s := ⟨none, 0, 0⟩) tab rfl rfl rfl rfl rfl ?_)
  skip
  refine TO.step rfl (OT.cutS tab 0 0 (s := ⟨none, 0, 0⟩) rfl rfl rfl rfl rfl rfl rfl (.inl ⟨rfl, rfl⟩) (.inr rfl) (Nat.le_refl _) (Nat.le_refl _) ?_)
  repeat (refine q4 tab rfl rfl ?_)
  refine TO.step rfl (OT.growNil tab (z := n) (by omega) rfl rfl rfl rfl rfl rfl rfl rfl rfl (sz := 1) rfl rfl hB (fun b c hc => ?_))
  repeat (refine q4 tab rfl rfl ?_)
  refine TO.step rfl (OT.cutP tab 0 0 rfl rfl rfl rfl rfl rfl rfl (.inl ⟨rfl, rfl⟩) (.inr rfl) (Nat.le_refl _) (Nat.zero_le _) ?_)
  repeat (first|refine q1 ?_|refine q3 ?_|refine q4 tab rfl rfl ?_|refine q5 ?_|refine q6 ?_|refine q15 ?_)
  refine retQ_ret rfl (L' := .room b 0 (c * 1) :: L) (by repeat (exact List.Sublist.refl _)) ⟨rfl, ⟨some ⟨b, 0, none⟩, 0, c⟩, ?_, .inr ⟨b, 0, rfl⟩, ⟨rfl, Nat.zero_le _, by simp, [], trivial, .inl ⟨rfl, fun e => by cases e⟩⟩, by simp [tok]⟩
  simp only [Nat.sub_self, Nat.sub_zero, Nat.zero_mul, Nat.add_zero, ite_self]
 ·refine TC.grow0 (size := 1) ?_
  repeat (first|refine q1 ?_|refine q3 ?_|refine q4 tab rfl rfl ?_|refine q5 ?_|refine q6 ?_|refine q13 ?_|refine q15 ?_)
  exact retQ_ret rfl (L' := tok ⟨none, 0, 0⟩ 1 :: L) (by repeat (exact List.Sublist.refl _)) ⟨rfl, ⟨none, 0, 0⟩, rfl, .inl rfl, SlRep.nil _ _, rfl⟩
set_option maxHeartbeats 800000 in
theorem concatS_law (m : Mem) (L : List Item) (s : Sl) (ls : List (List Str)) (hs : SlRep (rSl rStr) m s ls) (hB : (ls.map List.length).sum * 16 ≤ 140737488355328) : TCall Tryz.prog 129 ⟨[s.v]⟩ m L (Made m L fun r m' => ∃ t : Sl, r = t.v ∧ SlRep rStr m' t ls.flatten) := by
 have hl := hs.len
 have hsm := hs.small rfl
 have hpre : ∀ k, ((ls.take k).map List.length).sum ≤ (ls.map List.length).sum := fun k => by
  conv => rhs; rw [← List.take_append_drop k ls]
  rw [List.map_append, List.sum_append]; omega
 unfold TCall
 refine TCallX.enter Tryz.func129 rfl 36 rfl ?_
 repeat (first|refine q1 ?_|refine q2 ?_|refine q3 ?_|refine q4 tab rfl rfl ?_|refine q5 ?_|refine q6 ?_)
 refine TC.loopK (ι := Nat) [0, 9, 10] rfl (fun k => [(11, .int .i64 (k : Int)), (3, .int .i64 ((((ls.take k).map List.length).sum : Nat) : Int))]) (fun _ => m) (fun _ => L) (fun k => k ≤ ls.length) (fun k => ls.length - k) 0 (by repeat (first|exact trivial|refine And.intro rfl ?_)) rfl (by repeat (exact List.Sublist.refl _)) (Nat.zero_le _) ?_
 rintro k hk
 repeat (first|refine q1 ?_|refine q3 ?_|refine q4 tab rfl rfl ?_|refine q5 ?_|refine q6 ?_)
 refine TC.condP rfl (fun h => ?_) (fun h => ?_)
 ·have hlt : k < ls.length := by omega
  have hx : ls[k]? = some ls[k] := by simp [hlt]
  have hp1 := hpre (k + 1)
  have hp0 : ((ls.take (k + 1)).map List.length).sum = ((ls.take k).map List.length).sum + ls[k].length := by
   rw [List.take_succ_eq_append_getElem hlt, List.map_append, List.sum_append]; simp only [List.map_cons, List.map_nil, List.sum_cons, List.sum_nil, Nat.add_zero]
  repeat (first|refine q1 ?_|refine q2 ?_|refine q3 ?_|refine q6 ?_|refine q13 ?_)
  refine TO.step rfl (OT.index tab rSlS k hs rfl rfl rfl rfl rfl (by first | rfl | omega | (simp only; omega)) rfl hx ?_)
  rintro b' i' s' hrd hA
  have hl' : s'.len = ls[k].length := hrd.len
  skip
  (refine TO.step rfl (OT.loadA0 tab hA rfl rfl rfl rfl rfl ?_))
  repeat (first|refine q1 ?_|refine q3 ?_|refine q4 tab rfl rfl ?_|refine q5 ?_|refine q6 ?_)
  refine TO.step rfl (OT.arith (r' := ((((ls.take (k + 1)).map List.length).sum : Nat) : Int)) rfl rfl rfl rfl rfl rfl (by omega) (by omega) ?_)
  repeat (first|refine q1 ?_|refine q3 ?_|refine q4 tab rfl rfl ?_|refine q5 ?_|refine q6 ?_|refine q7 ?_|refine q13 ?_|refine q17 rfl ?_)
  refine TO.step rfl (OT.arith (r' := ((k + 1 : Nat) : Int)) rfl rfl rfl rfl rfl rfl rfl (by omega) ?_)
  repeat (first|refine q4 tab rfl rfl ?_|refine q5 ?_|refine q6 ?_)
  exact ⟨k + 1, (by repeat (first|exact trivial|refine And.intro rfl ?_)), (by repeat (first|exact trivial|refine And.intro rfl ?_)), rfl, rfl, (by repeat (exact List.Sublist.refl _)), by omega, by omega⟩
 ·have hpk := hpre k
  repeat (first|refine q1 ?_|refine q3 ?_|refine q4 tab rfl rfl ?_|refine q6 ?_|refine q10 ?_|refine q11 ?_|refine q14 ?_)
  refine TO.step rfl (OT.call rfl rfl rfl rfl rfl rfl goes142 ((growS_law m _ ((ls.take k).map List.length).sum (by omega)).x ?_));
  rintro _ _ _ ⟨rfl, t, rfl, ho, hr, rfl⟩
  repeat (first|refine q1 ?_|refine q2 ?_|refine q3 ?_|refine q4 tab rfl rfl ?_|refine q5 ?_|refine q6 ?_)
  refine TC.loopK (ι := Nat × Sl × Mem) [0, 25, 26] rfl (fun x => [(27, .int .i64 (x.1 : Int)), (6, x.2.1.v)]) (fun x => x.2.2) (fun x => tok x.2.1 1 :: L) (fun x => x.1 ≤ ls.length ∧ m ≤ x.2.2 ∧ Own x.2.1 ∧ SlRep rStr x.2.2 x.2.1 (ls.take x.1).flatten) (fun x => ls.length - x.1) (0, t, m) (by repeat (first|exact trivial|refine And.intro rfl ?_)) rfl (by repeat (exact List.Sublist.refl _)) ⟨Nat.zero_le _, Mem.le_refl _, ho, hr⟩ ?_
  rintro ⟨j, u, m1⟩ ⟨hj, hm1, ho1, hr1⟩
  simp only at hj hm1 ho1 hr1 ⊢
  have hs1 := hs.mono hm1
  repeat (first|refine q1 ?_|refine q3 ?_|refine q4 tab rfl rfl ?_|refine q5 ?_|refine q6 ?_)
  refine TC.condP rfl (fun h2 => ?_) (fun h2 => ?_)
  ·have hlt : j < ls.length := by omega
   have hx : ls[j]? = some ls[j] := by simp [hlt]
   have hp1 := hpre (j + 1)
   have hp0 : ((ls.take (j + 1)).map List.length).sum = ((ls.take j).map List.length).sum + ls[j].length := by
    rw [List.take_succ_eq_append_getElem hlt, List.map_append, List.sum_append]; simp only [List.map_cons, List.map_nil, List.sum_cons, List.sum_nil, Nat.add_zero]
   have hfl : (ls.take j).flatten.length = ((ls.take j).map List.length).sum := List.length_flatten
   repeat (first|refine q1 ?_|refine q2 ?_|refine q3 ?_|refine q6 ?_|refine q13 ?_)
   refine TO.step rfl (OT.index tab rSlS j hs1 rfl rfl rfl rfl rfl (by first | rfl | omega | (simp only; omega)) rfl hx ?_)
   rintro b' i' s' hrd hA
   (refine TO.step rfl (OT.loadA0 tab hA rfl rfl rfl rfl rfl ?_))
   repeat (first|refine q3 ?_|refine q4 tab rfl rfl ?_|refine q5 ?_|refine q6 ?_)
   refine TO.step rfl (OT.append tab rStr 0 hr1 ho1 hrd rfl rfl rfl rfl rfl rfl rfl (by simp only [rStr]; omega) (fun s' m' hm' hs' ho' => ?_))
   repeat (first|refine q3 ?_|refine q4 tab rfl rfl ?_|refine q5 ?_|refine q6 ?_|refine q7 ?_)
   refine TO.step rfl (OT.arith (r' := ((j + 1 : Nat) : Int)) rfl rfl rfl rfl rfl rfl rfl (by omega) ?_)
   repeat (first|refine q4 tab rfl rfl ?_|refine q5 ?_|refine q6 ?_)
   exact ⟨(j + 1, s', m'), (by repeat (first|exact trivial|refine And.intro rfl ?_)), (by repeat (first|exact trivial|refine And.intro rfl ?_)), rfl, rfl, (by repeat (exact List.Sublist.refl _)), ⟨by simp only; omega, Mem.le_trans hm1 hm', ho', by rw [List.take_succ_eq_append_getElem hlt, List.flatten_append]; simpa using hs'⟩, by simp only; omega⟩
  ·rw [List.take_of_length_le (by omega)] at hr1
   repeat (first|refine q1 ?_|refine q3 ?_|refine q4 tab rfl rfl ?_|refine q5 ?_|refine q6 ?_|refine q10 ?_|refine q11 ?_|refine q14 ?_|refine q15 ?_)
   exact retQ_ret rfl (L' := L) (by repeat (first|exact List.Sublist.refl _|refine List.Sublist.cons _ ?_)) ⟨hm1, rfl, u, rfl, hr1⟩
end Go.Sep


/- PsSnd2 -/
set_option linter.unusedVariables false
set_option linter.unusedSimpArgs false
namespace Go.Sep
open Go.Proofs
attribute [local irreducible] TC TO OT TCallX TCall DO DOt thenQ blockQ retQ At
theorem kidPred {fn : FuncId} {p : Tree → Bool} {a : Tree} (hg : Goes Tryz.prog fn) (hB : a.bulk ≤ 140737488355328) (h : ∀ (b : Tree) (m : Mem) (L : List Item) (h : HTree), TreeRep m h b → b.bulk ≤ 140737488355328 → TCall Tryz.prog fn ⟨[treeV h]⟩ m L (Ret (.bool (p b)) m L)) : IsPred fn p a.kids :=
 ⟨hg, fun m L x k hk hr => h k m L x hr (Nat.le_trans (Nat.le_of_lt (bulk_kid hk)) hB)⟩
theorem pr0 {l : List Tree} : ∀ q ∈ ([] : List (FuncId × (Tree → Bool))), IsPred q.1 q.2 l := fun _ h => by cases h
theorem pr1 {l : List Tree} {f : FuncId} {p : Tree → Bool} (h : IsPred f p l) : ∀ q ∈ [(f, p)], IsPred q.1 q.2 l := fun q hq => by
 rw [List.mem_singleton.1 hq]; exact h
theorem pr2 {l : List Tree} {f f2 : FuncId} {p p2 : Tree → Bool} (h : IsPred f p l) (h2 : IsPred f2 p2 l) : ∀ q ∈ [(f, p), (f2, p2)], IsPred q.1 q.2 l := fun q hq => by
 rcases List.mem_cons.1 hq with e | hq
 ·rw [e]; exact h
 ·exact pr1 h2 q hq
theorem pr3 {l : List Tree} {f f2 f3 : FuncId} {p p2 p3 : Tree → Bool} (h : IsPred f p l) (h2 : IsPred f2 p2 l) (h3 : IsPred f3 p3 l) : ∀ q ∈ [(f, p), (f2, p2), (f3, p3)], IsPred q.1 q.2 l := fun q hq => by
 rcases List.mem_cons.1 hq with e | hq
 ·rw [e]; exact h
 ·exact pr2 h2 h3 q hq
theorem po0 {l : List Tree} : ∀ q : FuncId × (Tree → Bool), none = some q → IsPred q.1 q.2 l := fun _ h => by cases h
theorem po1 {l : List Tree} {f : FuncId} {p : Tree → Bool} (h : IsPred f p l) : ∀ q : FuncId × (Tree → Bool), some (f, p) = some q → IsPred q.1 q.2 l := fun q e => by
 cases e; exact h
set_option maxHeartbeats 4000000 in
theorem expr_teller (g : Sg) (a : Tree) (m : Mem) (L : List Item) (h : HTree) (hr : TreeRep m h a) (hB : a.bulk ≤ 140737488355328) (hE : IsPred 110 g.expr a.kids) (hK : IsPred 49 g.block a.kids) :
  TCall Tryz.prog 110 ⟨[treeV h]⟩ m L (Ret (.bool (exprS g a)) m L) := by
 have hT : IsPred 46 Tree.isType a.kids := kidPred goes46 hB fun b m L h hr hB => type_law b m L h hr hB
 have hSg : IsPred 48 Tree.isSig a.kids := kidPred goes48 hB fun b m L h hr hB => sig_law b m L h hr hB
 have hr' := hr
 obtain ⟨h1, h2, h3, h4⟩ := hr
 have hl := h4.len
 have hsm := h4.small rfl
 refine TCall.forget ?_
 unfold exprS TCall
 refine TCallX.enter Tryz.func110 rfl 170 rfl ?_
 by_cases hk40 : a.kind = 40
 ·rw [if_pos hk40]
  obtain ⟨k, n, u, s⟩ := h
  obtain rfl : k = 40 := h1.trans hk40
  simp only at h2 h3 h4 hl
  subst h2
  subst h3
  repeat (first|refine q1 ?_|refine q3 ?_)
  refine TO.step rfl (OT.box rfl rfl rfl rfl rfl (fun b => ?_))
  repeat (first|(first|refine q1 ?_|refine q2 ?_|refine q3 ?_|refine q4 tab rfl rfl ?_|refine q5 ?_|refine q6 ?_|refine q16 rfl ?_)|(first|refine qs rfl (ql tab 0 rfl rfl rfl rfl rfl rfl ?_)|refine qs rfl (qz tab 0 rfl rfl rfl rfl rfl rfl ?_)))
  refine TO.step rfl (OT.call rfl rfl rfl rfl rfl rfl goes25 ((bare_law _ _ ⟨40, a.name, a.num, s⟩ a hr' (decide (0 ≤ a.num)) false true).x ?_));
  rintro _ _ _ ⟨rfl, rfl, rfl⟩
  repeat (refine q4 tab rfl rfl ?_)
  refine TO.split rfl rfl (fun h7 => ?_) (fun h7 => ?_)
  ·repeat ((refine qs rfl (qz tab 0 rfl rfl rfl rfl rfl rfl ?_)))
   have hm1 := Mem.le_refl m
   refine TO.step rfl (OT.call rfl rfl rfl rfl rfl rfl goes45 ((kids_law m _ ⟨40, a.name, a.num, s⟩ a hr' ⟨none, 0, 0⟩ [] none (SlRep.nil _ _) pr0 po0).x ?_));
   rintro _ _ _ ⟨rfl, rfl, rfl⟩
   repeat (first|refine q4 tab rfl rfl ?_|refine q5 ?_|refine q6 ?_|refine q8 ?_|refine q9 ?_|refine q15 ?_)
   refine retQ_ret rfl (by repeat (first|exact List.Sublist.refl _|refine List.Sublist.cons _ ?_)) ⟨hm1, rfl, ?_⟩
   rw [h7]; rfl
  ·repeat (first|refine q4 tab rfl rfl ?_|refine q5 ?_|refine q6 ?_|refine q8 ?_|refine q9 ?_|refine q15 ?_)
   refine retQ_ret rfl (by repeat (first|exact List.Sublist.refl _|refine List.Sublist.cons _ ?_)) ⟨Mem.le_refl _, rfl, ?_⟩
   rw [h7]; rfl
 rw [if_neg hk40]
 by_cases hk41 : a.kind = 41
 ·rw [if_pos hk41]
  obtain ⟨k, n, u, s⟩ := h
  obtain rfl : k = 41 := h1.trans hk41
  simp only at h2 h3 h4 hl
  subst h2
  subst h3
  repeat (first|refine q1 ?_|refine q3 ?_)
  refine TO.step rfl (OT.box rfl rfl rfl rfl rfl (fun b => ?_))
  repeat (first|(first|refine q1 ?_|refine q2 ?_|refine q3 ?_|refine q4 tab rfl rfl ?_|refine q5 ?_|refine q6 ?_|refine q16 rfl ?_|refine q17 rfl ?_)|(first|refine qs rfl (ql tab 0 rfl rfl rfl rfl rfl rfl ?_)|refine qs rfl (qz tab 0 rfl rfl rfl rfl rfl rfl ?_)))
  refine TO.step rfl (OT.call rfl rfl rfl rfl rfl rfl goes25 ((bare_law _ _ ⟨41, a.name, a.num, s⟩ a hr' (decide ((a.name.length : Int) ≤ 1024)) true false).x ?_));
  rintro _ _ _ ⟨rfl, rfl, rfl⟩
  repeat (refine q4 tab rfl rfl ?_)
  refine TO.split rfl rfl (fun h7 => ?_) (fun h7 => ?_)
  ·repeat ((refine qs rfl (qz tab 0 rfl rfl rfl rfl rfl rfl ?_)))
   have hm1 := Mem.le_refl m
   refine TO.step rfl (OT.call rfl rfl rfl rfl rfl rfl goes45 ((kids_law m _ ⟨41, a.name, a.num, s⟩ a hr' ⟨none, 0, 0⟩ [] none (SlRep.nil _ _) pr0 po0).x ?_));
   rintro _ _ _ ⟨rfl, rfl, rfl⟩
   repeat (first|refine q4 tab rfl rfl ?_|refine q5 ?_|refine q6 ?_|refine q8 ?_|refine q9 ?_|refine q15 ?_)
   refine retQ_ret rfl (by repeat (first|exact List.Sublist.refl _|refine List.Sublist.cons _ ?_)) ⟨hm1, rfl, ?_⟩
   rw [h7]; rfl
  ·repeat (first|refine q4 tab rfl rfl ?_|refine q5 ?_|refine q6 ?_|refine q8 ?_|refine q9 ?_|refine q15 ?_)
   refine retQ_ret rfl (by repeat (first|exact List.Sublist.refl _|refine List.Sublist.cons _ ?_)) ⟨Mem.le_refl _, rfl, ?_⟩
   rw [h7]; rfl
 rw [if_neg hk41]
 by_cases hk42 : a.kind = 42
 ·rw [if_pos hk42]
  obtain ⟨k, n, u, s⟩ := h
  obtain rfl : k = 42 := h1.trans hk42
  simp only at h2 h3 h4 hl
  subst h2
  subst h3
  repeat (first|refine q1 ?_|refine q3 ?_)
  refine TO.step rfl (OT.box rfl rfl rfl rfl rfl (fun b => ?_))
  repeat (first|(first|refine q1 ?_|refine q2 ?_|refine q3 ?_|refine q4 tab rfl rfl ?_|refine q5 ?_|refine q6 ?_|refine q16 rfl ?_|refine q17 rfl ?_)|(first|refine qs rfl (ql tab 0 rfl rfl rfl rfl rfl rfl ?_)|refine qs rfl (qz tab 0 rfl rfl rfl rfl rfl rfl ?_)))
  refine TO.step rfl (OT.half (r := a.num / 2) rfl rfl rfl rfl rfl (by decide) (Int.fdiv_eq_ediv_of_nonneg _ (by decide)) ?_)
  repeat (refine q4 tab rfl rfl ?_)
  refine TO.step rfl (OT.call rfl rfl rfl rfl rfl rfl goes25 ((bare_law _ _ ⟨42, a.name, a.num, s⟩ a hr' (decide (a.num / 2 = 0)) false true).x ?_));
  rintro _ _ _ ⟨rfl, rfl, rfl⟩
  repeat (refine q4 tab rfl rfl ?_)
  refine TO.split rfl rfl (fun h7 => ?_) (fun h7 => ?_)
  ·repeat ((refine qs rfl (qz tab 0 rfl rfl rfl rfl rfl rfl ?_)))
   have hm1 := Mem.le_refl m
   refine TO.step rfl (OT.call rfl rfl rfl rfl rfl rfl goes45 ((kids_law m _ ⟨42, a.name, a.num, s⟩ a hr' ⟨none, 0, 0⟩ [] none (SlRep.nil _ _) pr0 po0).x ?_));
   rintro _ _ _ ⟨rfl, rfl, rfl⟩
   repeat (first|refine q4 tab rfl rfl ?_|refine q5 ?_|refine q6 ?_|refine q8 ?_|refine q9 ?_|refine q15 ?_)
   refine retQ_ret rfl (by repeat (first|exact List.Sublist.refl _|refine List.Sublist.cons _ ?_)) ⟨hm1, rfl, ?_⟩
   rw [h7]; rfl
  ·repeat (first|refine q4 tab rfl rfl ?_|refine q5 ?_|refine q6 ?_|refine q8 ?_|refine q9 ?_|refine q15 ?_)
   refine retQ_ret rfl (by repeat (first|exact List.Sublist.refl _|refine List.Sublist.cons _ ?_)) ⟨Mem.le_refl _, rfl, ?_⟩
   rw [h7]; rfl
 rw [if_neg hk42]
 by_cases hk43 : a.kind = 43
 ·rw [if_pos hk43]
  obtain ⟨k, n, u, s⟩ := h
  obtain rfl : k = 43 := h1.trans hk43
  simp only at h2 h3 h4 hl
  subst h2
  subst h3
  repeat (first|refine q1 ?_|refine q3 ?_)
  refine TO.step rfl (OT.box rfl rfl rfl rfl rfl (fun b => ?_))
  repeat (first|(first|refine q1 ?_|refine q2 ?_|refine q3 ?_|refine q4 tab rfl rfl ?_|refine q5 ?_|refine q6 ?_|refine q16 rfl ?_|refine q17 rfl ?_)|(first|refine qs rfl (ql tab 0 rfl rfl rfl rfl rfl rfl ?_)|refine qs rfl (qz tab 0 rfl rfl rfl rfl rfl rfl ?_)))
  refine TO.step rfl (OT.call rfl rfl rfl rfl rfl rfl goes25 ((bare_law _ _ ⟨43, a.name, a.num, s⟩ a hr' true false false).x ?_));
  rintro _ _ _ ⟨rfl, rfl, rfl⟩
  repeat (refine q4 tab rfl rfl ?_)
  refine TO.split rfl rfl (fun h7 => ?_) (fun h7 => ?_)
  ·repeat ((refine qs rfl (qz tab 0 rfl rfl rfl rfl rfl rfl ?_)))
   have hm1 := Mem.le_refl m
   refine TO.step rfl (OT.call rfl rfl rfl rfl rfl rfl goes45 ((kids_law m _ ⟨43, a.name, a.num, s⟩ a hr' ⟨none, 0, 0⟩ [] none (SlRep.nil _ _) pr0 po0).x ?_));
   rintro _ _ _ ⟨rfl, rfl, rfl⟩
   repeat (first|refine q4 tab rfl rfl ?_|refine q5 ?_|refine q6 ?_|refine q8 ?_|refine q9 ?_|refine q15 ?_)
   refine retQ_ret rfl (by repeat (first|exact List.Sublist.refl _|refine List.Sublist.cons _ ?_)) ⟨hm1, rfl, ?_⟩
   rw [h7]; rfl
  ·repeat (first|refine q4 tab rfl rfl ?_|refine q5 ?_|refine q6 ?_|refine q8 ?_|refine q9 ?_|refine q15 ?_)
   refine retQ_ret rfl (by repeat (first|exact List.Sublist.refl _|refine List.Sublist.cons _ ?_)) ⟨Mem.le_refl _, rfl, ?_⟩
   rw [h7]; rfl
 rw [if_neg hk43]
 by_cases hk44 : a.kind = 44
 ·rw [if_pos hk44]
  obtain ⟨k, n, u, s⟩ := h
  obtain rfl : k = 44 := h1.trans hk44
  simp only at h2 h3 h4 hl
  subst h2
  subst h3
  repeat (first|refine q1 ?_|refine q3 ?_)
  refine TO.step rfl (OT.box rfl rfl rfl rfl rfl (fun b => ?_))
  repeat (first|(first|refine q1 ?_|refine q2 ?_|refine q3 ?_|refine q4 tab rfl rfl ?_|refine q5 ?_|refine q6 ?_|refine q16 rfl ?_|refine q17 rfl ?_)|(first|refine qs rfl (ql tab 0 rfl rfl rfl rfl rfl rfl ?_)|refine qs rfl (qz tab 0 rfl rfl rfl rfl rfl rfl ?_)))
  refine TO.step rfl (OT.call rfl rfl rfl rfl rfl rfl goes43 ((of_law _ _ ⟨44, a.name, a.num, s⟩ a hr' hB 44).x ?_));
  rintro _ _ _ ⟨rfl, rfl, rfl⟩
  repeat (refine q4 tab rfl rfl ?_)
  refine TO.split rfl rfl (fun h7 => ?_) (fun h7 => ?_)
  ·repeat ((refine qs rfl (qz tab 0 rfl rfl rfl rfl rfl rfl ?_)))
   have hm1 := Mem.le_refl m
   refine TO.step rfl (OT.call rfl rfl rfl rfl rfl rfl goes45 ((kids_law m _ ⟨44, a.name, a.num, s⟩ a hr' ⟨none, 0, 0⟩ [] none (SlRep.nil _ _) pr0 po0).x ?_));
   rintro _ _ _ ⟨rfl, rfl, rfl⟩
   repeat (first|refine q4 tab rfl rfl ?_|refine q5 ?_|refine q6 ?_|refine q8 ?_|refine q9 ?_|refine q15 ?_)
   refine retQ_ret rfl (by repeat (first|exact List.Sublist.refl _|refine List.Sublist.cons _ ?_)) ⟨hm1, rfl, ?_⟩
   rw [h7]; rfl
  ·repeat (first|refine q4 tab rfl rfl ?_|refine q5 ?_|refine q6 ?_|refine q8 ?_|refine q9 ?_|refine q15 ?_)
   refine retQ_ret rfl (by repeat (first|exact List.Sublist.refl _|refine List.Sublist.cons _ ?_)) ⟨Mem.le_refl _, rfl, ?_⟩
   rw [h7]; rfl
 rw [if_neg hk44]
 by_cases hk45 : a.kind = 45
 ·rw [if_pos hk45]
  obtain ⟨k, n, u, s⟩ := h
  obtain rfl : k = 45 := h1.trans hk45
  simp only at h2 h3 h4 hl
  subst h2
  subst h3
  repeat (first|refine q1 ?_|refine q3 ?_)
  refine TO.step rfl (OT.box rfl rfl rfl rfl rfl (fun b => ?_))
  repeat (first|(first|refine q1 ?_|refine q2 ?_|refine q3 ?_|refine q4 tab rfl rfl ?_|refine q5 ?_|refine q6 ?_|refine q16 rfl ?_|refine q17 rfl ?_)|(first|refine qs rfl (ql tab 0 rfl rfl rfl rfl rfl rfl ?_)|refine qs rfl (qz tab 0 rfl rfl rfl rfl rfl rfl ?_)))
  refine TO.step rfl (OT.call rfl rfl rfl rfl rfl rfl goes43 ((of_law _ _ ⟨45, a.name, a.num, s⟩ a hr' hB 45).x ?_));
  rintro _ _ _ ⟨rfl, rfl, rfl⟩
  repeat (refine q4 tab rfl rfl ?_)
  refine TO.split rfl rfl (fun h7 => ?_) (fun h7 => ?_)
  ·repeat (first|(refine q4 tab rfl rfl ?_)|(refine qs rfl (ql tab 0 rfl rfl rfl rfl rfl rfl ?_)))
   have hm1 := Mem.le_refl m
   refine TO.step rfl (OT.call rfl rfl rfl rfl rfl rfl goes26 ((pall_law _ _ s a.kids h4 110 g.expr hE).x ?_));
   rintro _ _ _ ⟨rfl, rfl, rfl⟩
   repeat (first|refine q4 tab rfl rfl ?_|refine q5 ?_|refine q6 ?_|refine q8 ?_|refine q9 ?_|refine q15 ?_)
   refine retQ_ret rfl (by repeat (first|exact List.Sublist.refl _|refine List.Sublist.cons _ ?_)) ⟨hm1, rfl, ?_⟩
   rw [h7]; rfl
  ·repeat (first|refine q4 tab rfl rfl ?_|refine q5 ?_|refine q6 ?_|refine q8 ?_|refine q9 ?_|refine q15 ?_)
   refine retQ_ret rfl (by repeat (first|exact List.Sublist.refl _|refine List.Sublist.cons _ ?_)) ⟨Mem.le_refl _, rfl, ?_⟩
   rw [h7]; rfl
 rw [if_neg hk45]
 by_cases hk46 : a.kind = 46
 ·rw [if_pos hk46]
  obtain ⟨k, n, u, s⟩ := h
  obtain rfl : k = 46 := h1.trans hk46
  simp only at h2 h3 h4 hl
  subst h2
  subst h3
  repeat (first|refine q1 ?_|refine q3 ?_)
  refine TO.step rfl (OT.box rfl rfl rfl rfl rfl (fun b => ?_))
  repeat (first|(first|refine q1 ?_|refine q2 ?_|refine q3 ?_|refine q4 tab rfl rfl ?_|refine q5 ?_|refine q6 ?_|refine q16 rfl ?_|refine q17 rfl ?_)|(first|refine qs rfl (ql tab 0 rfl rfl rfl rfl rfl rfl ?_)|refine qs rfl (qz tab 0 rfl rfl rfl rfl rfl rfl ?_)))
  refine TO.step rfl (OT.call rfl rfl rfl rfl rfl rfl goes25 ((bare_law _ _ ⟨46, a.name, a.num, s⟩ a hr' true false false).x ?_));
  rintro _ _ _ ⟨rfl, rfl, rfl⟩
  repeat (refine q4 tab rfl rfl ?_)
  refine TO.split rfl rfl (fun h7 => ?_) (fun h7 => ?_)
  ·repeat ((refine qs rfl (qz tab 0 rfl rfl rfl rfl rfl rfl ?_)))
   refine TO.step rfl (OT.litR tab rFn (hs := [46]) (l := [46]) ⟨rfl, trivial⟩ rfl rfl rfl rfl rfl (by decide) (fun s1 m1 hm1 hs1 _ _ => ?_))
   skip
   refine TO.step rfl (OT.call rfl rfl rfl rfl rfl rfl goes45 ((kids_law m1 _ ⟨46, a.name, a.num, s⟩ a (hr'.mono hm1) s1 [(46, Tree.isType)] (some (110, g.expr)) hs1 (pr1 hT) (po1 hE)).x ?_));
   rintro _ _ _ ⟨rfl, rfl, rfl⟩
   repeat (first|refine q4 tab rfl rfl ?_|refine q5 ?_|refine q6 ?_|refine q8 ?_|refine q9 ?_|refine q15 ?_)
   refine retQ_ret rfl (by repeat (first|exact List.Sublist.refl _|refine List.Sublist.cons _ ?_)) ⟨hm1, rfl, ?_⟩
   rw [h7]; rfl
  ·repeat (first|refine q4 tab rfl rfl ?_|refine q5 ?_|refine q6 ?_|refine q8 ?_|refine q9 ?_|refine q15 ?_)
   refine retQ_ret rfl (by repeat (first|exact List.Sublist.refl _|refine List.Sublist.cons _ ?_)) ⟨Mem.le_refl _, rfl, ?_⟩
   rw [h7]; rfl
 rw [if_neg hk46]
 by_cases hk47 : a.kind = 47
 ·rw [if_pos hk47]
  obtain ⟨k, n, u, s⟩ := h
  obtain rfl : k = 47 := h1.trans hk47
  simp only at h2 h3 h4 hl
  subst h2
  subst h3
  repeat (first|refine q1 ?_|refine q3 ?_)
  refine TO.step rfl (OT.box rfl rfl rfl rfl rfl (fun b => ?_))
  repeat (first|(first|refine q1 ?_|refine q2 ?_|refine q3 ?_|refine q4 tab rfl rfl ?_|refine q5 ?_|refine q6 ?_|refine q16 rfl ?_|refine q17 rfl ?_)|(first|refine qs rfl (ql tab 0 rfl rfl rfl rfl rfl rfl ?_)|refine qs rfl (qz tab 0 rfl rfl rfl rfl rfl rfl ?_)))
  refine TO.step rfl (OT.call rfl rfl rfl rfl rfl rfl goes25 ((bare_law _ _ ⟨47, a.name, a.num, s⟩ a hr' true false false).x ?_));
  rintro _ _ _ ⟨rfl, rfl, rfl⟩
  repeat (refine q4 tab rfl rfl ?_)
  refine TO.split rfl rfl (fun h7 => ?_) (fun h7 => ?_)
  ·repeat ((refine qs rfl (qz tab 0 rfl rfl rfl rfl rfl rfl ?_)))
   refine TO.step rfl (OT.litR tab rFn (hs := [48, 49]) (l := [48, 49]) ⟨rfl, rfl, trivial⟩ rfl rfl rfl rfl rfl (by decide) (fun s1 m1 hm1 hs1 _ _ => ?_))
   skip
   refine TO.step rfl (OT.call rfl rfl rfl rfl rfl rfl goes45 ((kids_law m1 _ ⟨47, a.name, a.num, s⟩ a (hr'.mono hm1) s1 [(48, Tree.isSig), (49, g.block)] none hs1 (pr2 hSg hK) po0).x ?_));
   rintro _ _ _ ⟨rfl, rfl, rfl⟩
   repeat (first|refine q4 tab rfl rfl ?_|refine q5 ?_|refine q6 ?_|refine q8 ?_|refine q9 ?_|refine q15 ?_)
   refine retQ_ret rfl (by repeat (first|exact List.Sublist.refl _|refine List.Sublist.cons _ ?_)) ⟨hm1, rfl, ?_⟩
   rw [h7]; rfl
  ·repeat (first|refine q4 tab rfl rfl ?_|refine q5 ?_|refine q6 ?_|refine q8 ?_|refine q9 ?_|refine q15 ?_)
   refine retQ_ret rfl (by repeat (first|exact List.Sublist.refl _|refine List.Sublist.cons _ ?_)) ⟨Mem.le_refl _, rfl, ?_⟩
   rw [h7]; rfl
 rw [if_neg hk47]
 by_cases hk48 : a.kind = 48
 ·rw [if_pos hk48]
  obtain ⟨k, n, u, s⟩ := h
  obtain rfl : k = 48 := h1.trans hk48
  simp only at h2 h3 h4 hl
  subst h2
  subst h3
  repeat (first|refine q1 ?_|refine q3 ?_)
  refine TO.step rfl (OT.box rfl rfl rfl rfl rfl (fun b => ?_))
  repeat (first|(first|refine q1 ?_|refine q2 ?_|refine q3 ?_|refine q4 tab rfl rfl ?_|refine q5 ?_|refine q6 ?_|refine q16 rfl ?_|refine q17 rfl ?_)|(first|refine qs rfl (ql tab 0 rfl rfl rfl rfl rfl rfl ?_)|refine qs rfl (qz tab 0 rfl rfl rfl rfl rfl rfl ?_)))
  refine TO.step rfl (OT.call rfl rfl rfl rfl rfl rfl goes43 ((of_law _ _ ⟨48, a.name, a.num, s⟩ a hr' hB 48).x ?_));
  rintro _ _ _ ⟨rfl, rfl, rfl⟩
  repeat (refine q4 tab rfl rfl ?_)
  refine TO.split rfl rfl (fun h7 => ?_) (fun h7 => ?_)
  ·repeat ((refine qs rfl (qz tab 0 rfl rfl rfl rfl rfl rfl ?_)))
   refine TO.step rfl (OT.litR tab rFn (hs := [110]) (l := [110]) ⟨rfl, trivial⟩ rfl rfl rfl rfl rfl (by decide) (fun s1 m1 hm1 hs1 _ _ => ?_))
   skip
   refine TO.step rfl (OT.call rfl rfl rfl rfl rfl rfl goes45 ((kids_law m1 _ ⟨48, a.name, a.num, s⟩ a (hr'.mono hm1) s1 [(110, g.expr)] none hs1 (pr1 hE) po0).x ?_));
   rintro _ _ _ ⟨rfl, rfl, rfl⟩
   repeat (first|refine q4 tab rfl rfl ?_|refine q5 ?_|refine q6 ?_|refine q8 ?_|refine q9 ?_|refine q15 ?_)
   refine retQ_ret rfl (by repeat (first|exact List.Sublist.refl _|refine List.Sublist.cons _ ?_)) ⟨hm1, rfl, ?_⟩
   rw [h7]; rfl
  ·repeat (first|refine q4 tab rfl rfl ?_|refine q5 ?_|refine q6 ?_|refine q8 ?_|refine q9 ?_|refine q15 ?_)
   refine retQ_ret rfl (by repeat (first|exact List.Sublist.refl _|refine List.Sublist.cons _ ?_)) ⟨Mem.le_refl _, rfl, ?_⟩
   rw [h7]; rfl
 rw [if_neg hk48]
 by_cases hk49 : a.kind = 49
 ·rw [if_pos hk49]
  obtain ⟨k, n, u, s⟩ := h
  obtain rfl : k = 49 := h1.trans hk49
  simp only at h2 h3 h4 hl
  subst h2
  subst h3
  repeat (first|refine q1 ?_|refine q3 ?_)
  refine TO.step rfl (OT.box rfl rfl rfl rfl rfl (fun b => ?_))
  repeat (first|(first|refine q1 ?_|refine q2 ?_|refine q3 ?_|refine q4 tab rfl rfl ?_|refine q5 ?_|refine q6 ?_|refine q16 rfl ?_|refine q17 rfl ?_)|(first|refine qs rfl (ql tab 0 rfl rfl rfl rfl rfl rfl ?_)|refine qs rfl (qz tab 0 rfl rfl rfl rfl rfl rfl ?_)))
  refine TO.step rfl (OT.call rfl rfl rfl rfl rfl rfl goes25 ((bare_law _ _ ⟨49, a.name, a.num, s⟩ a hr' true false false).x ?_));
  rintro _ _ _ ⟨rfl, rfl, rfl⟩
  repeat (refine q4 tab rfl rfl ?_)
  refine TO.split rfl rfl (fun h7 => ?_) (fun h7 => ?_)
  ·repeat ((refine qs rfl (qz tab 0 rfl rfl rfl rfl rfl rfl ?_)))
   refine TO.step rfl (OT.litR tab rFn (hs := [110, 110]) (l := [110, 110]) ⟨rfl, rfl, trivial⟩ rfl rfl rfl rfl rfl (by decide) (fun s1 m1 hm1 hs1 _ _ => ?_))
   skip
   refine TO.step rfl (OT.call rfl rfl rfl rfl rfl rfl goes45 ((kids_law m1 _ ⟨49, a.name, a.num, s⟩ a (hr'.mono hm1) s1 [(110, g.expr), (110, g.expr)] none hs1 (pr2 hE hE) po0).x ?_));
   rintro _ _ _ ⟨rfl, rfl, rfl⟩
   repeat (first|refine q4 tab rfl rfl ?_|refine q5 ?_|refine q6 ?_|refine q8 ?_|refine q9 ?_|refine q15 ?_)
   refine retQ_ret rfl (by repeat (first|exact List.Sublist.refl _|refine List.Sublist.cons _ ?_)) ⟨hm1, rfl, ?_⟩
   rw [h7]; rfl
  ·repeat (first|refine q4 tab rfl rfl ?_|refine q5 ?_|refine q6 ?_|refine q8 ?_|refine q9 ?_|refine q15 ?_)
   refine retQ_ret rfl (by repeat (first|exact List.Sublist.refl _|refine List.Sublist.cons _ ?_)) ⟨Mem.le_refl _, rfl, ?_⟩
   rw [h7]; rfl
 rw [if_neg hk49]
 by_cases hk50 : a.kind = 50
 ·rw [if_pos hk50]
  obtain ⟨k, n, u, s⟩ := h
  obtain rfl : k = 50 := h1.trans hk50
  simp only at h2 h3 h4 hl
  subst h2
  subst h3
  repeat (first|refine q1 ?_|refine q3 ?_)
  refine TO.step rfl (OT.box rfl rfl rfl rfl rfl (fun b => ?_))
  repeat (first|(first|refine q1 ?_|refine q2 ?_|refine q3 ?_|refine q4 tab rfl rfl ?_|refine q5 ?_|refine q6 ?_|refine q16 rfl ?_|refine q17 rfl ?_)|(first|refine qs rfl (ql tab 0 rfl rfl rfl rfl rfl rfl ?_)|refine qs rfl (qz tab 0 rfl rfl rfl rfl rfl rfl ?_)))
  refine TO.step rfl (OT.shK (r := a.num / 4) rfl (.inr rfl) rfl rfl rfl rfl (by decide) (by show Int.fdiv a.num 4 = a.num / 4; exact Int.fdiv_eq_ediv_of_nonneg _ (by decide)) ?_)
  repeat (refine q4 tab rfl rfl ?_)
  (refine TO.splitP rfl rfl (fun e4 => ?_) (fun e4 => ?_))
  ·have hlv : a.num = 0 ∨ a.num = 1 ∨ a.num = 2 ∨ a.num = 3 := by omega
   have hand : ∀ w, (Op.intBits .and .i64 a.num 1).run Tryz.prog w = .ok (.int .i64 (a.num % 2)) w := by
    rcases hlv with e | e | e | e <;> (intro w; rw [e]; rfl)
   have hlv2 : lvl a = decide ((s.len : Int) = 1 + a.num % 2 + a.num / 2) := by
    unfold lvl
    rw [decide_eq_true (show 0 ≤ a.num by omega), decide_eq_true (show a.num ≤ 3 by omega), hl]; rfl
   rw [hlv2]
   repeat (first|(refine q4 tab rfl rfl ?_)|(refine qs rfl (ql tab 0 rfl rfl rfl rfl rfl rfl ?_)))
   refine TO.step rfl (OT.andK (r := a.num % 2) rfl rfl rfl rfl rfl hand ?_)
   refine TO.step rfl (OT.arith (r' := 1 + a.num % 2) rfl rfl rfl rfl rfl rfl (by omega) (by omega) ?_)
   repeat (first|(refine q4 tab rfl rfl ?_)|(refine qs rfl (ql tab 0 rfl rfl rfl rfl rfl rfl ?_)))
   refine TO.step rfl (OT.half (r := a.num / 2) rfl rfl rfl rfl rfl (by decide) (Int.fdiv_eq_ediv_of_nonneg _ (by decide)) ?_)
   refine TO.step rfl (OT.arith (r' := 1 + a.num % 2 + a.num / 2) rfl rfl rfl rfl rfl rfl (by omega) (by omega) ?_)
   repeat (refine q4 tab rfl rfl ?_)
   refine TO.step rfl (OT.call rfl rfl rfl rfl rfl rfl goes25 ((bare_law _ _ ⟨50, a.name, a.num, s⟩ a hr' (decide ((s.len : Int) = 1 + a.num % 2 + a.num / 2)) false true).x ?_));
   rintro _ _ _ ⟨rfl, rfl, rfl⟩
   repeat (refine q4 tab rfl rfl ?_)
   refine TO.split rfl rfl (fun h7 => ?_) (fun h7 => ?_)
   ·repeat (first|(refine q4 tab rfl rfl ?_)|(refine qs rfl (ql tab 0 rfl rfl rfl rfl rfl rfl ?_)))
    refine TO.step rfl (OT.call rfl rfl rfl rfl rfl rfl goes26 ((pall_law _ _ s a.kids h4 110 g.expr hE).x ?_));
    rintro _ _ _ ⟨rfl, rfl, rfl⟩
    repeat (first|refine q4 tab rfl rfl ?_|refine q5 ?_|refine q6 ?_|refine q8 ?_|refine q9 ?_|refine q15 ?_)
    refine retQ_ret rfl (by repeat (first|exact List.Sublist.refl _|refine List.Sublist.cons _ ?_)) ⟨Mem.le_refl _, rfl, ?_⟩
    rw [h7]; rfl
   ·repeat (first|refine q4 tab rfl rfl ?_|refine q5 ?_|refine q6 ?_|refine q8 ?_|refine q9 ?_|refine q15 ?_)
    refine retQ_ret rfl (by repeat (first|exact List.Sublist.refl _|refine List.Sublist.cons _ ?_)) ⟨Mem.le_refl _, rfl, ?_⟩
    rw [h7]; rfl
  ·have hlv2 : lvl a = false := by
    unfold lvl
    by_cases h5 : 0 ≤ a.num
    ·rw [decide_eq_false (show ¬ a.num ≤ 3 by omega), Bool.false_and, Bool.and_false]
    ·rw [decide_eq_false h5]; rfl
   rw [hlv2]
   repeat ((refine q4 tab rfl rfl ?_))
   refine TO.step rfl (OT.call rfl rfl rfl rfl rfl rfl goes25 ((bare_law _ _ ⟨50, a.name, a.num, s⟩ a hr' false false true).x ?_));
   rintro _ _ _ ⟨rfl, rfl, rfl⟩
   repeat (first|refine q4 tab rfl rfl ?_|refine q5 ?_|refine q6 ?_|refine q8 ?_|refine q9 ?_|refine q15 ?_)
   exact retQ_ret rfl (by repeat (first|exact List.Sublist.refl _|refine List.Sublist.cons _ ?_)) ⟨Mem.le_refl _, rfl, rfl⟩
 rw [if_neg hk50]
 by_cases hk51 : a.kind = 51
 ·rw [if_pos hk51]
  obtain ⟨k, n, u, s⟩ := h
  obtain rfl : k = 51 := h1.trans hk51
  simp only at h2 h3 h4 hl
  subst h2
  subst h3
  repeat (first|refine q1 ?_|refine q3 ?_)
  refine TO.step rfl (OT.box rfl rfl rfl rfl rfl (fun b => ?_))
  repeat (first|(first|refine q1 ?_|refine q2 ?_|refine q3 ?_|refine q4 tab rfl rfl ?_|refine q5 ?_|refine q6 ?_|refine q16 rfl ?_|refine q17 rfl ?_)|(first|refine qs rfl (ql tab 0 rfl rfl rfl rfl rfl rfl ?_)|refine qs rfl (qz tab 0 rfl rfl rfl rfl rfl rfl ?_)))
  refine TO.step rfl (OT.call rfl rfl rfl rfl rfl rfl goes25 ((bare_law _ _ ⟨51, a.name, a.num, s⟩ a hr' true false false).x ?_));
  rintro _ _ _ ⟨rfl, rfl, rfl⟩
  repeat (refine q4 tab rfl rfl ?_)
  refine TO.split rfl rfl (fun h7 => ?_) (fun h7 => ?_)
  ·repeat ((refine qs rfl (qz tab 0 rfl rfl rfl rfl rfl rfl ?_)))
   refine TO.step rfl (OT.litR tab rFn (hs := [110]) (l := [110]) ⟨rfl, trivial⟩ rfl rfl rfl rfl rfl (by decide) (fun s1 m1 hm1 hs1 _ _ => ?_))
   skip
   refine TO.step rfl (OT.call rfl rfl rfl rfl rfl rfl goes45 ((kids_law m1 _ ⟨51, a.name, a.num, s⟩ a (hr'.mono hm1) s1 [(110, g.expr)] (some (110, g.expr)) hs1 (pr1 hE) (po1 hE)).x ?_));
   rintro _ _ _ ⟨rfl, rfl, rfl⟩
   repeat (first|refine q4 tab rfl rfl ?_|refine q5 ?_|refine q6 ?_|refine q8 ?_|refine q9 ?_|refine q15 ?_)
   refine retQ_ret rfl (by repeat (first|exact List.Sublist.refl _|refine List.Sublist.cons _ ?_)) ⟨hm1, rfl, ?_⟩
   rw [h7]; rfl
  ·repeat (first|refine q4 tab rfl rfl ?_|refine q5 ?_|refine q6 ?_|refine q8 ?_|refine q9 ?_|refine q15 ?_)
   refine retQ_ret rfl (by repeat (first|exact List.Sublist.refl _|refine List.Sublist.cons _ ?_)) ⟨Mem.le_refl _, rfl, ?_⟩
   rw [h7]; rfl
 rw [if_neg hk51]
 by_cases hk52 : a.kind = 52
 ·rw [if_pos hk52]
  obtain ⟨k, n, u, s⟩ := h
  obtain rfl : k = 52 := h1.trans hk52
  simp only at h2 h3 h4 hl
  subst h2
  subst h3
  repeat (first|refine q1 ?_|refine q3 ?_)
  refine TO.step rfl (OT.box rfl rfl rfl rfl rfl (fun b => ?_))
  repeat (first|(first|refine q1 ?_|refine q2 ?_|refine q3 ?_|refine q4 tab rfl rfl ?_|refine q5 ?_|refine q6 ?_|refine q16 rfl ?_|refine q17 rfl ?_)|(refine qs rfl (ql tab 0 rfl rfl rfl rfl rfl rfl ?_)))
  refine TC.draw [] mixed 12 rfl [.cells b 0 [.int .i64 52, strV a.name, .int .i64 a.num, s.v]] L (by first | exact List.Perm.refl _ | (rw [List.append_nil]; exact List.Perm.refl _)) ?_
  (refine DO.loadL (k := 0) tab 0 0 (by repeat (first|exact Calm.ret|refine Calm.then ?_|refine Calm.block ?_)) (by kernel_rfl) (by kernel_rfl) rfl rfl rfl rfl rfl rfl rfl rfl ?_)
  refine DO.pure tab (by repeat (first|exact Calm.ret|refine Calm.then ?_|refine Calm.block ?_)) (by kernel_rfl) [2] (by kernel_rfl) rfl ?_
  (refine DO.loadL tab 3 0 (by repeat (first|exact Calm.ret|refine Calm.then ?_|refine Calm.block ?_)) (by kernel_rfl) (by kernel_rfl) rfl rfl rfl rfl rfl rfl rfl rfl ?_)
  refine DO.run 1 rfl rfl (by kernel_rfl) rfl ?_
  refine OT.litR tab rStr (hs := [[45], [33], [38], [42]]) (l := [[45], [33], [38], [42]]) ⟨rfl, rfl, rfl, rfl, trivial⟩ rfl rfl rfl rfl rfl (by decide) (fun s1 m1 hm1 hs1 _ _ => ?_); refine ⟨hm1, _, List.Perm.refl _, ?_⟩
  refine DO.run 4 rfl rfl (by kernel_rfl) rfl (OT.call rfl rfl rfl rfl rfl rfl goes60 ((contains_str _ _ s1 ops4 a.name hs1).x ?_))
  rintro _ _ _ ⟨rfl, rfl, rfl⟩; refine ⟨Mem.le_refl _, _, List.Perm.refl _, ?_⟩
  refine DO.run 5 rfl rfl (by kernel_rfl) rfl (OT.call rfl rfl rfl rfl rfl rfl goes25 ((bare_law _ _ ⟨52, a.name, a.num, s⟩ a (hr'.mono hm1) (decide (a.name ∈ ops4)) true false).x ?_))
  rintro _ _ _ ⟨rfl, rfl, rfl⟩; refine ⟨Mem.le_refl _, _, List.Perm.refl _, ?_⟩
  refine DO.pure tab (by repeat (first|exact Calm.ret|refine Calm.then ?_|refine Calm.block ?_)) (by kernel_rfl) [6] (by kernel_rfl) rfl ?_
  (refine DO.split (d := 151) rfl (fun h7 => ?_) (fun h7 => ?_))
  (refine DO.loadL (k := 0) tab 7 0 (by repeat (first|exact Calm.ret|refine Calm.then ?_|refine Calm.block ?_)) (by kernel_rfl) (by kernel_rfl) rfl rfl rfl rfl rfl rfl rfl rfl ?_)
  refine DO.run 8 rfl rfl (by kernel_rfl) rfl ?_
  refine OT.litR tab rFn (hs := [110]) (l := [110]) ⟨rfl, trivial⟩ rfl rfl rfl rfl rfl (by decide) (fun s2 m2 hm2 hs2 _ _ => ?_); refine ⟨hm2, _, List.Perm.refl _, ?_⟩
  refine DO.run 9 rfl rfl (by kernel_rfl) rfl (OT.call rfl rfl rfl rfl rfl rfl goes45 ((kids_law m2 _ ⟨52, a.name, a.num, s⟩ a (hr'.mono (Mem.le_trans hm1 hm2)) s2 [(110, g.expr)] none hs2 (pr1 hE) po0).x ?_))
  rintro _ _ _ ⟨rfl, rfl, rfl⟩; refine ⟨Mem.le_refl _, _, List.Perm.refl _, ?_⟩
  refine DO.pure tab (by repeat (first|exact Calm.ret|refine Calm.then ?_|refine Calm.block ?_)) (by kernel_rfl) [10, 11] (by kernel_rfl) rfl ?_
  (refine DO.nil (by kernel_rfl) ?_)
  rotate_left 1
  refine DO.pure tab (by repeat (first|exact Calm.ret|refine Calm.then ?_|refine Calm.block ?_)) (by kernel_rfl) [7, 8, 9, 10, 11] (by kernel_rfl) rfl ?_
  (refine DO.nil (by kernel_rfl) ?_)
  rotate_left 1
  ·repeat (first|refine q6 ?_|refine q8 ?_|refine q9 ?_|refine q15 ?_)
   refine retQ_ret rfl (by repeat (first|exact List.Sublist.refl _|refine List.Sublist.cons _ ?_)) ⟨Mem.le_trans hm1 hm2, rfl, ?_⟩
   rw [h7]; rfl
  ·repeat (first|refine q6 ?_|refine q8 ?_|refine q9 ?_|refine q15 ?_)
   refine retQ_ret rfl (by repeat (first|exact List.Sublist.refl _|refine List.Sublist.cons _ ?_)) ⟨hm1, rfl, ?_⟩
   rw [h7]; rfl
 rw [if_neg hk52]
 by_cases hk53 : a.kind = 53
 ·rw [if_pos hk53]
  obtain ⟨k, n, u, s⟩ := h
  obtain rfl : k = 53 := h1.trans hk53
  simp only at h2 h3 h4 hl
  subst h2
  subst h3
  repeat (first|refine q1 ?_|refine q3 ?_)
  refine TO.step rfl (OT.box rfl rfl rfl rfl rfl (fun b => ?_))
  repeat (first|(first|refine q1 ?_|refine q2 ?_|refine q3 ?_|refine q4 tab rfl rfl ?_|refine q5 ?_|refine q6 ?_|refine q16 rfl ?_|refine q17 rfl ?_)|(refine qs rfl (ql tab 0 rfl rfl rfl rfl rfl rfl ?_)))
  refine TC.draw [] mixed 13 rfl [.cells b 0 [.int .i64 53, strV a.name, .int .i64 a.num, s.v]] L (by first | exact List.Perm.refl _ | (rw [List.append_nil]; exact List.Perm.refl _)) ?_
  (refine DO.loadL (k := 0) tab 0 0 (by repeat (first|exact Calm.ret|refine Calm.then ?_|refine Calm.block ?_)) (by kernel_rfl) (by kernel_rfl) rfl rfl rfl rfl rfl rfl rfl rfl ?_)
  refine DO.pure tab (by repeat (first|exact Calm.ret|refine Calm.then ?_|refine Calm.block ?_)) (by kernel_rfl) [3] (by kernel_rfl) rfl ?_
  (refine DO.loadL tab 4 0 (by repeat (first|exact Calm.ret|refine Calm.then ?_|refine Calm.block ?_)) (by kernel_rfl) (by kernel_rfl) rfl rfl rfl rfl rfl rfl rfl rfl ?_)
  refine DO.run 1 rfl rfl (by kernel_rfl) rfl (OT.call rfl rfl rfl rfl rfl rfl goes130 ((levels_law _ _).x ?_))
  rintro _ m0 _ ⟨hm0, rfl, s0, rfl, hs0⟩; refine ⟨hm0, _, List.Perm.refl _, ?_⟩
  refine DO.run 2 rfl rfl (by kernel_rfl) rfl (OT.call rfl rfl rfl rfl rfl rfl goes129 ((concatS_law m0 _ s0 Ps.levels hs0 (by decide)).x ?_))
  rintro _ m1 _ ⟨hm1, rfl, s1, rfl, hs1⟩; refine ⟨hm1, _, List.Perm.refl _, ?_⟩
  refine DO.run 5 rfl rfl (by kernel_rfl) rfl (OT.call rfl rfl rfl rfl rfl rfl goes60 ((contains_str _ _ s1 Ps.levels.flatten a.name hs1).x ?_))
  rintro _ _ _ ⟨rfl, rfl, rfl⟩; refine ⟨Mem.le_refl _, _, List.Perm.refl _, ?_⟩
  refine DO.run 6 rfl rfl (by kernel_rfl) rfl (OT.call rfl rfl rfl rfl rfl rfl goes25 ((bare_law _ _ ⟨53, a.name, a.num, s⟩ a (hr'.mono (Mem.le_trans hm0 hm1)) (decide (a.name ∈ Ps.levels.flatten)) true false).x ?_))
  rintro _ _ _ ⟨rfl, rfl, rfl⟩; refine ⟨Mem.le_refl _, _, List.Perm.refl _, ?_⟩
  refine DO.pure tab (by repeat (first|exact Calm.ret|refine Calm.then ?_|refine Calm.block ?_)) (by kernel_rfl) [7] (by kernel_rfl) rfl ?_
  (refine DO.split (d := 165) rfl (fun h7 => ?_) (fun h7 => ?_))
  (refine DO.loadL (k := 0) tab 8 0 (by repeat (first|exact Calm.ret|refine Calm.then ?_|refine Calm.block ?_)) (by kernel_rfl) (by kernel_rfl) rfl rfl rfl rfl rfl rfl rfl rfl ?_)
  refine DO.run 9 rfl rfl (by kernel_rfl) rfl ?_
  refine OT.litR tab rFn (hs := [110, 110]) (l := [110, 110]) ⟨rfl, rfl, trivial⟩ rfl rfl rfl rfl rfl (by decide) (fun s2 m2 hm2 hs2 _ _ => ?_); refine ⟨hm2, _, List.Perm.refl _, ?_⟩
  refine DO.run 10 rfl rfl (by kernel_rfl) rfl (OT.call rfl rfl rfl rfl rfl rfl goes45 ((kids_law m2 _ ⟨53, a.name, a.num, s⟩ a (hr'.mono (Mem.le_trans (Mem.le_trans hm0 hm1) hm2)) s2 [(110, g.expr), (110, g.expr)] none hs2 (pr2 hE hE) po0).x ?_))
  rintro _ _ _ ⟨rfl, rfl, rfl⟩; refine ⟨Mem.le_refl _, _, List.Perm.refl _, ?_⟩
  refine DO.pure tab (by repeat (first|exact Calm.ret|refine Calm.then ?_|refine Calm.block ?_)) (by kernel_rfl) [11, 12] (by kernel_rfl) rfl ?_
  (refine DO.nil (by kernel_rfl) ?_)
  rotate_left 1
  refine DO.pure tab (by repeat (first|exact Calm.ret|refine Calm.then ?_|refine Calm.block ?_)) (by kernel_rfl) [8, 9, 10, 11, 12] (by kernel_rfl) rfl ?_
  (refine DO.nil (by kernel_rfl) ?_)
  rotate_left 1
  ·repeat (first|refine q6 ?_|refine q8 ?_|refine q9 ?_|refine q15 ?_)
   refine retQ_ret rfl (by repeat (first|exact List.Sublist.refl _|refine List.Sublist.cons _ ?_)) ⟨Mem.le_trans (Mem.le_trans hm0 hm1) hm2, rfl, ?_⟩
   rw [h7]; rfl
  ·repeat (first|refine q6 ?_|refine q8 ?_|refine q9 ?_|refine q15 ?_)
   refine retQ_ret rfl (by repeat (first|exact List.Sublist.refl _|refine List.Sublist.cons _ ?_)) ⟨Mem.le_trans hm0 hm1, rfl, ?_⟩
   rw [h7]; rfl
 rw [if_neg hk53]
 repeat (first|refine q1 ?_|refine q3 ?_)
 refine TO.step rfl (OT.box rfl rfl rfl rfl rfl (fun b => ?_))
 repeat (first|(first|refine q1 ?_|refine q2 ?_|refine q3 ?_|refine q4 tab rfl rfl ?_|refine q5 ?_|refine q6 ?_)|(refine qs rfl (ql tab 0 rfl rfl rfl rfl rfl rfl ?_)))
 refine TC.condP rfl (fun h5 => ?_) (fun h5 => ?_)
 ·omega
 repeat (first|refine q1 ?_|refine q3 ?_|refine q4 tab rfl rfl ?_|refine q5 ?_|refine q6 ?_)
 refine TC.condP rfl (fun h5 => ?_) (fun h5 => ?_)
 ·omega
 repeat (first|refine q1 ?_|refine q3 ?_|refine q4 tab rfl rfl ?_|refine q5 ?_|refine q6 ?_)
 refine TC.condP rfl (fun h5 => ?_) (fun h5 => ?_)
 ·omega
 repeat (first|refine q1 ?_|refine q3 ?_|refine q4 tab rfl rfl ?_|refine q5 ?_|refine q6 ?_)
 refine TC.condP rfl (fun h5 => ?_) (fun h5 => ?_)
 ·omega
 repeat (first|refine q1 ?_|refine q3 ?_|refine q4 tab rfl rfl ?_|refine q5 ?_|refine q6 ?_)
 refine TC.condP rfl (fun h5 => ?_) (fun h5 => ?_)
 ·omega
 repeat (first|refine q1 ?_|refine q3 ?_|refine q4 tab rfl rfl ?_|refine q5 ?_|refine q6 ?_)
 refine TC.condP rfl (fun h5 => ?_) (fun h5 => ?_)
 ·omega
 repeat (first|refine q1 ?_|refine q3 ?_|refine q4 tab rfl rfl ?_|refine q5 ?_|refine q6 ?_)
 refine TC.condP rfl (fun h5 => ?_) (fun h5 => ?_)
 ·omega
 repeat (first|refine q1 ?_|refine q3 ?_|refine q4 tab rfl rfl ?_|refine q5 ?_|refine q6 ?_)
 refine TC.condP rfl (fun h5 => ?_) (fun h5 => ?_)
 ·omega
 repeat (first|refine q1 ?_|refine q3 ?_|refine q4 tab rfl rfl ?_|refine q5 ?_|refine q6 ?_)
 refine TC.condP rfl (fun h5 => ?_) (fun h5 => ?_)
 ·omega
 repeat (first|refine q1 ?_|refine q3 ?_|refine q4 tab rfl rfl ?_|refine q5 ?_|refine q6 ?_)
 refine TC.condP rfl (fun h5 => ?_) (fun h5 => ?_)
 ·omega
 repeat (first|refine q1 ?_|refine q3 ?_|refine q4 tab rfl rfl ?_|refine q5 ?_|refine q6 ?_)
 refine TC.condP rfl (fun h5 => ?_) (fun h5 => ?_)
 ·omega
 repeat (first|refine q1 ?_|refine q3 ?_|refine q4 tab rfl rfl ?_|refine q5 ?_|refine q6 ?_)
 refine TC.condP rfl (fun h5 => ?_) (fun h5 => ?_)
 ·omega
 repeat (first|refine q1 ?_|refine q3 ?_|refine q4 tab rfl rfl ?_|refine q5 ?_|refine q6 ?_)
 refine TC.condP rfl (fun h5 => ?_) (fun h5 => ?_)
 ·omega
 repeat (first|refine q1 ?_|refine q3 ?_|refine q4 tab rfl rfl ?_|refine q5 ?_|refine q6 ?_)
 refine TC.condP rfl (fun h5 => ?_) (fun h5 => ?_)
 ·omega
 repeat (first|refine q1 ?_|refine q3 ?_|refine q4 tab rfl rfl ?_|refine q5 ?_|refine q6 ?_|refine q7 ?_|refine q13 ?_|refine q15 ?_)
 exact retQ_ret rfl (by repeat (first|exact List.Sublist.refl _|refine List.Sublist.cons _ ?_)) ⟨Mem.le_refl _, rfl, rfl⟩
end Go.Sep


/- PsSnd3 -/
set_option linter.unusedVariables false
set_option linter.unusedSimpArgs false
namespace Go.Sep
open Go.Proofs
attribute [local irreducible] TC TO OT TCallX TCall DO DOt thenQ blockQ retQ At
set_option maxHeartbeats 800000 in
theorem block_teller (g : Sg) (a : Tree) (m : Mem) (L : List Item) (h : HTree) (hr : TreeRep m h a) (hS : IsPred 85 g.stmt a.kids) :
  TCall Tryz.prog 49 ⟨[treeV h]⟩ m L (Ret (.bool (blockS g a)) m L) := by
 have hr' := hr
 obtain ⟨h1, h2, h3, h4⟩ := hr
 unfold TCall
 refine TCallX.enter Tryz.func49 rfl 13 rfl ?_
 repeat (first|refine q1 ?_|refine q3 ?_)
 refine TO.step rfl (OT.box rfl rfl rfl rfl rfl (fun b => ?_))
 repeat (first|(first|refine q1 ?_|refine q3 ?_|refine q4 tab rfl rfl ?_|refine q5 ?_|refine q6 ?_)|(first|refine qs rfl (ql tab 0 rfl rfl rfl rfl rfl rfl ?_)|refine qs rfl (qz tab 0 rfl rfl rfl rfl rfl rfl ?_)))
 refine TO.step rfl (OT.call rfl rfl rfl rfl rfl rfl goes25 ((bare_law _ _ h a hr' (decide (h.kind = 20)) false false).x ?_));
 rintro _ _ _ ⟨rfl, rfl, rfl⟩
 unfold blockS
 rw [← h1]
 repeat (refine q4 tab rfl rfl ?_)
 refine TO.split rfl rfl (fun h7 => ?_) (fun h7 => ?_)
 ·repeat (first|(refine q4 tab rfl rfl ?_)|(refine qs rfl (ql tab 0 rfl rfl rfl rfl rfl rfl ?_)))
  refine TO.step rfl (OT.call rfl rfl rfl rfl rfl rfl goes26 ((pall_law _ _ h.kids a.kids h4 85 g.stmt hS).x ?_));
  rintro _ _ _ ⟨rfl, rfl, rfl⟩
  repeat (first|refine q4 tab rfl rfl ?_|refine q5 ?_|refine q6 ?_|refine q15 ?_)
  refine retQ_ret rfl (by repeat (first|exact List.Sublist.refl _|refine List.Sublist.cons _ ?_)) ⟨rfl, rfl, ?_⟩
  rw [h7]; rfl
 ·repeat (first|refine q4 tab rfl rfl ?_|refine q5 ?_|refine q6 ?_|refine q15 ?_)
  refine retQ_ret rfl (by repeat (first|exact List.Sublist.refl _|refine List.Sublist.cons _ ?_)) ⟨rfl, rfl, ?_⟩
  rw [h7]; rfl
set_option maxHeartbeats 800000 in
theorem nm_pred {g : Sg} {l : List Tree} (hE : IsPred 110 g.expr l) : IsPred 112 (nmS g) l := by
 refine ⟨goes112, fun m L h a ha hr => ?_⟩
 have hr' := hr
 obtain ⟨h1, h2, h3, h4⟩ := hr
 unfold TCall
 refine TCallX.enter Tryz.func112 rfl 10 rfl ?_
 repeat (first|refine q1 ?_|refine q3 ?_)
 refine TO.step rfl (OT.box rfl rfl rfl rfl rfl (fun b => ?_))
 repeat (first|(first|refine q1 ?_|refine q3 ?_|refine q4 tab rfl rfl ?_|refine q5 ?_|refine q6 ?_)|(refine qs rfl (ql tab 0 rfl rfl rfl rfl rfl rfl ?_)))
 unfold nmS
 rw [← h1]
 (refine TO.splitP rfl rfl (fun e1 => ?_) (fun e1 => ?_))
 ·repeat ((refine qs rfl (qz tab 0 rfl rfl rfl rfl rfl rfl ?_)))
  refine TO.step rfl (OT.call rfl rfl rfl rfl rfl rfl hE.1 ((hE.2 _ _ h a ha hr').x ?_));
  rintro _ _ _ ⟨rfl, rfl, rfl⟩
  repeat (first|refine q4 tab rfl rfl ?_|refine q5 ?_|refine q6 ?_|refine q15 ?_)
  refine retQ_ret rfl (by repeat (first|exact List.Sublist.refl _|refine List.Sublist.cons _ ?_)) ⟨rfl, rfl, ?_⟩
  rw [decide_eq_true e1]; rfl
 ·repeat (first|refine q4 tab rfl rfl ?_|refine q5 ?_|refine q6 ?_|refine q15 ?_)
  refine retQ_ret rfl (by repeat (first|exact List.Sublist.refl _|refine List.Sublist.cons _ ?_)) ⟨rfl, rfl, ?_⟩
  rw [decide_eq_false e1]; rfl
set_option maxHeartbeats 800000 in
theorem call_pred {g : Sg} {l : List Tree} (hE : IsPred 110 g.expr l) : IsPred 113 (callS g) l := by
 refine ⟨goes113, fun m L h a ha hr => ?_⟩
 have hr' := hr
 obtain ⟨h1, h2, h3, h4⟩ := hr
 unfold TCall
 refine TCallX.enter Tryz.func113 rfl 10 rfl ?_
 repeat (first|refine q1 ?_|refine q3 ?_)
 refine TO.step rfl (OT.box rfl rfl rfl rfl rfl (fun b => ?_))
 repeat (first|(first|refine q1 ?_|refine q3 ?_|refine q4 tab rfl rfl ?_|refine q5 ?_|refine q6 ?_)|(refine qs rfl (ql tab 0 rfl rfl rfl rfl rfl rfl ?_)))
 unfold callS
 rw [← h1]
 (refine TO.splitP rfl rfl (fun e1 => ?_) (fun e1 => ?_))
 ·repeat ((refine qs rfl (qz tab 0 rfl rfl rfl rfl rfl rfl ?_)))
  refine TO.step rfl (OT.call rfl rfl rfl rfl rfl rfl hE.1 ((hE.2 _ _ h a ha hr').x ?_));
  rintro _ _ _ ⟨rfl, rfl, rfl⟩
  repeat (first|refine q4 tab rfl rfl ?_|refine q5 ?_|refine q6 ?_|refine q15 ?_)
  refine retQ_ret rfl (by repeat (first|exact List.Sublist.refl _|refine List.Sublist.cons _ ?_)) ⟨rfl, rfl, ?_⟩
  rw [decide_eq_true e1]; rfl
 ·repeat (first|refine q4 tab rfl rfl ?_|refine q5 ?_|refine q6 ?_|refine q15 ?_)
  refine retQ_ret rfl (by repeat (first|exact List.Sublist.refl _|refine List.Sublist.cons _ ?_)) ⟨rfl, rfl, ?_⟩
  rw [decide_eq_false e1]; rfl
set_option maxHeartbeats 800000 in
theorem pl_pred {g : Sg} {l : List Tree} (hE : IsPred 110 g.expr l) : IsPred 111 (plS g) l := by
 refine ⟨goes111, fun m L h a ha hr => ?_⟩
 have hr' := hr
 obtain ⟨h1, h2, h3, h4⟩ := hr
 unfold TCall
 refine TCallX.enter Tryz.func111 rfl 9 rfl ?_
 repeat (first|refine q1 ?_|refine q3 ?_)
 refine TO.step rfl (OT.box rfl rfl rfl rfl rfl (fun b => ?_))
 repeat (first|(first|refine q1 ?_|refine q3 ?_|refine q4 tab rfl rfl ?_|refine q5 ?_|refine q6 ?_)|(refine qs rfl (qz tab 0 rfl rfl rfl rfl rfl rfl ?_)))
 refine TO.step rfl (OT.call rfl rfl rfl rfl rfl rfl isPl_tells.1 ((isPl_tells.2 _ _ h a hr').x ?_));
 rintro _ _ _ ⟨rfl, rfl, rfl⟩
 unfold plS
 repeat (refine q4 tab rfl rfl ?_)
 refine TO.split rfl rfl (fun h7 => ?_) (fun h7 => ?_)
 ·repeat ((refine qs rfl (qz tab 0 rfl rfl rfl rfl rfl rfl ?_)))
  refine TO.step rfl (OT.call rfl rfl rfl rfl rfl rfl hE.1 ((hE.2 _ _ h a ha hr').x ?_));
  rintro _ _ _ ⟨rfl, rfl, rfl⟩
  repeat (first|refine q4 tab rfl rfl ?_|refine q5 ?_|refine q6 ?_|refine q15 ?_)
  refine retQ_ret rfl (by repeat (first|exact List.Sublist.refl _|refine List.Sublist.cons _ ?_)) ⟨rfl, rfl, ?_⟩
  rw [h7]; rfl
 ·repeat (first|refine q4 tab rfl rfl ?_|refine q5 ?_|refine q6 ?_|refine q15 ?_)
  refine retQ_ret rfl (by repeat (first|exact List.Sublist.refl _|refine List.Sublist.cons _ ?_)) ⟨rfl, rfl, ?_⟩
  rw [h7]; rfl
set_option maxHeartbeats 800000 in
theorem other_pred {g : Sg} {l : List Tree} (hK : IsPred 49 g.block l) (hS : IsPred 85 g.stmt l) : IsPred 114 (otherS g) l := by
 refine ⟨goes114, fun m L h a ha hr => ?_⟩
 have hr' := hr
 obtain ⟨h1, h2, h3, h4⟩ := hr
 unfold TCall
 refine TCallX.enter Tryz.func114 rfl 14 rfl ?_
 repeat (first|refine q1 ?_|refine q3 ?_)
 refine TO.step rfl (OT.box rfl rfl rfl rfl rfl (fun b => ?_))
 repeat (first|(first|refine q1 ?_|refine q3 ?_|refine q4 tab rfl rfl ?_|refine q5 ?_|refine q6 ?_)|(refine qs rfl (qz tab 0 rfl rfl rfl rfl rfl rfl ?_)))
 refine TO.step rfl (OT.call rfl rfl rfl rfl rfl rfl hK.1 ((hK.2 _ _ h a ha hr').x ?_));
 rintro _ _ _ ⟨rfl, rfl, rfl⟩
 unfold otherS
 rw [← h1]
 repeat (refine q4 tab rfl rfl ?_)
 refine TO.split rfl rfl (fun h7 => ?_) (fun h7 => ?_)
 ·repeat (first|refine q4 tab rfl rfl ?_|refine q5 ?_|refine q6 ?_|refine q15 ?_)
  refine retQ_ret rfl (by repeat (first|exact List.Sublist.refl _|refine List.Sublist.cons _ ?_)) ⟨rfl, rfl, ?_⟩
  rw [h7]; rfl
 ·repeat (first|(refine q4 tab rfl rfl ?_)|(refine qs rfl (ql tab 0 rfl rfl rfl rfl rfl rfl ?_)))
  (refine TO.splitP rfl rfl (fun e1 => ?_) (fun e1 => ?_))
  ·repeat ((refine qs rfl (qz tab 0 rfl rfl rfl rfl rfl rfl ?_)))
   refine TO.step rfl (OT.call rfl rfl rfl rfl rfl rfl hS.1 ((hS.2 _ _ h a ha hr').x ?_));
   rintro _ _ _ ⟨rfl, rfl, rfl⟩
   repeat (first|refine q4 tab rfl rfl ?_|refine q5 ?_|refine q6 ?_|refine q15 ?_)
   refine retQ_ret rfl (by repeat (first|exact List.Sublist.refl _|refine List.Sublist.cons _ ?_)) ⟨rfl, rfl, ?_⟩
   rw [h7, decide_eq_true e1]; rfl
  ·repeat (first|refine q4 tab rfl rfl ?_|refine q5 ?_|refine q6 ?_|refine q15 ?_)
   refine retQ_ret rfl (by repeat (first|exact List.Sublist.refl _|refine List.Sublist.cons _ ?_)) ⟨rfl, rfl, ?_⟩
   rw [h7, decide_eq_false e1]; rfl
theorem stmtS_no {g : Sg} {a : Tree} (h : headS a = false) : stmtS g a = false := by unfold stmtS; rw [if_pos h]
set_option maxHeartbeats 4000000 in
theorem stmt_teller (g : Sg) (a : Tree) (m : Mem) (L : List Item) (h : HTree) (hr : TreeRep m h a) (hB : a.bulk ≤ 140737488355328) (hE : IsPred 110 g.expr a.kids) (hK : IsPred 49 g.block a.kids) (hS : IsPred 85 g.stmt a.kids) :
  TCall Tryz.prog 85 ⟨[treeV h]⟩ m L (Ret (.bool (stmtS g a)) m L) := by
 have hT : IsPred 46 Tree.isType a.kids := kidPred goes46 hB fun b m L h hr hB => type_law b m L h hr hB
 have hC := call_pred hE
 have hO := other_pred hK hS
 have hr' := hr
 obtain ⟨h1, h2, h3, h4⟩ := hr
 have hl := h4.len
 have hsm := h4.small rfl
 refine TCall.forget ?_
 unfold TCall
 refine TCallX.enter Tryz.func85 rfl 121 rfl ?_
 by_cases hk20 : a.kind = 20
 ·obtain ⟨k, n, u, s⟩ := h
  obtain rfl : k = 20 := h1.trans hk20
  simp only at h2 h3 h4 hl
  subst h2
  subst h3
  repeat (first|refine q1 ?_|refine q3 ?_)
  refine TO.step rfl (OT.box rfl rfl rfl rfl rfl (fun b => ?_))
  repeat (first|(first|refine q1 ?_|refine q3 ?_|refine q4 tab rfl rfl ?_|refine q5 ?_|refine q6 ?_)|(refine qs rfl (ql tab 0 rfl rfl rfl rfl rfl rfl ?_)))
  (refine TO.splitN rfl rfl (fun e1 => ?_) (fun e1 => ?_))
  ·repeat (first|refine q1 ?_|refine q3 ?_|refine q4 tab rfl rfl ?_|refine q5 ?_|refine q6 ?_|refine q8 ?_|refine q15 ?_|refine q16 rfl ?_)
   refine retQ_ret rfl (by repeat (first|exact List.Sublist.refl _|refine List.Sublist.cons _ ?_)) ⟨Mem.le_refl _, rfl, ?_⟩
   rw [stmtS_no (show headS a = false by unfold headS; rw [hk20, decide_eq_false e1]; rfl)]
  repeat (first|(first|refine q4 tab rfl rfl ?_|refine q5 ?_|refine q6 ?_)|(refine qs rfl (ql tab 0 rfl rfl rfl rfl rfl rfl ?_)))
  refine TC.condN rfl (fun e2 => ?_) (fun e2 => ?_)
  ·simp only at e2
   repeat (first|refine q1 ?_|refine q3 ?_|refine q4 tab rfl rfl ?_|refine q5 ?_|refine q6 ?_|refine q8 ?_|refine q15 ?_)
   refine retQ_ret rfl (by repeat (first|exact List.Sublist.refl _|refine List.Sublist.cons _ ?_)) ⟨Mem.le_refl _, rfl, ?_⟩
   rw [stmtS_no (show headS a = false by unfold headS; rw [hk20, decide_eq_false e2]; simp)]
  simp only at e2
  repeat (first|(first|refine q1 ?_|refine q2 ?_|refine q3 ?_|refine q4 tab rfl rfl ?_|refine q5 ?_|refine q6 ?_|refine q13 ?_|refine q16 rfl ?_)|(first|refine qs rfl (ql tab 0 rfl rfl rfl rfl rfl rfl ?_)|refine qs rfl (qz tab 0 rfl rfl rfl rfl rfl rfl ?_)))
  have hh : headS a = true := by unfold headS; rw [hk20, decide_eq_true e1, decide_eq_true e2]; simp
  have hspec : stmtS g a = blockS g a := by unfold stmtS; rw [if_neg (by rw [hh]; decide)]; simp [hk20]
  rw [hspec]
  skip
  refine TO.step rfl (OT.call rfl rfl rfl rfl rfl rfl goes49 ((block_teller g a _ _ ⟨20, a.name, a.num, s⟩ hr' hS).x ?_));
  rintro _ _ _ ⟨rfl, rfl, rfl⟩
  repeat (first|refine q4 tab rfl rfl ?_|refine q5 ?_|refine q6 ?_|refine q8 ?_|refine q9 ?_|refine q15 ?_)
  refine retQ_ret rfl (by repeat (first|exact List.Sublist.refl _|refine List.Sublist.cons _ ?_)) ⟨Mem.le_refl _, rfl, ?_⟩
  rfl
 by_cases hk21 : a.kind = 21
 ·obtain ⟨k, n, u, s⟩ := h
  obtain rfl : k = 21 := h1.trans hk21
  simp only at h2 h3 h4 hl
  subst h2
  subst h3
  repeat (first|refine q1 ?_|refine q3 ?_)
  refine TO.step rfl (OT.box rfl rfl rfl rfl rfl (fun b => ?_))
  repeat (first|(first|refine q1 ?_|refine q3 ?_|refine q4 tab rfl rfl ?_|refine q5 ?_|refine q6 ?_)|(refine qs rfl (ql tab 0 rfl rfl rfl rfl rfl rfl ?_)))
  refine TC.condN rfl (fun e2 => ?_) (fun e2 => ?_)
  ·simp only at e2
   repeat (first|refine q1 ?_|refine q3 ?_|refine q4 tab rfl rfl ?_|refine q5 ?_|refine q6 ?_|refine q8 ?_|refine q15 ?_)
   refine retQ_ret rfl (by repeat (first|exact List.Sublist.refl _|refine List.Sublist.cons _ ?_)) ⟨Mem.le_refl _, rfl, ?_⟩
   rw [stmtS_no (show headS a = false by unfold headS; rw [hk21, decide_eq_false e2]; simp)]
  simp only at e2
  repeat (first|(first|refine q1 ?_|refine q2 ?_|refine q3 ?_|refine q4 tab rfl rfl ?_|refine q5 ?_|refine q6 ?_|refine q13 ?_|refine q16 rfl ?_|refine q17 rfl ?_)|(first|refine qs rfl (ql tab 0 rfl rfl rfl rfl rfl rfl ?_)|refine qs rfl (qz tab 0 rfl rfl rfl rfl rfl rfl ?_)))
  have hh : headS a = true := by unfold headS; rw [hk21, decide_eq_true e2]; simp
  have hspec : stmtS g a = (isName a.name && (kidsR [Tree.isType] none a.kids || kidsR [Tree.isType, g.expr] none a.kids)) := by unfold stmtS; rw [if_neg (by rw [hh]; decide)]; simp [hk21]
  rw [hspec]
  skip
  refine TO.step rfl (OT.call rfl rfl rfl rfl rfl rfl goes83 ((named_law _ _ ⟨21, a.name, a.num, s⟩ a hr' hB).x ?_));
  rintro _ _ _ ⟨rfl, rfl, rfl⟩
  repeat (refine q4 tab rfl rfl ?_)
  refine TO.split rfl rfl (fun h7 => ?_) (fun h7 => ?_)
  ·repeat ((refine qs rfl (qz tab 0 rfl rfl rfl rfl rfl rfl ?_)))
   refine TO.step rfl (OT.litR tab rFn (hs := [46]) (l := [46]) ⟨rfl, trivial⟩ rfl rfl rfl rfl rfl (by decide) (fun s1 m1 hm1 hs1 _ _ => ?_))
   skip
   refine TO.step rfl (OT.call rfl rfl rfl rfl rfl rfl goes45 ((kids_law m1 _ ⟨21, a.name, a.num, s⟩ a (hr'.mono hm1) s1 [(46, Tree.isType)] none hs1 (pr1 hT) po0).x ?_));
   rintro _ _ _ ⟨rfl, rfl, rfl⟩
   repeat (refine q4 tab rfl rfl ?_)
   refine TO.split rfl rfl (fun h8 => ?_) (fun h8 => ?_)
   ·skip
    repeat (first|refine q4 tab rfl rfl ?_|refine q5 ?_|refine q6 ?_|refine q8 ?_|refine q9 ?_|refine q15 ?_)
    refine retQ_ret rfl (by repeat (first|exact List.Sublist.refl _|refine List.Sublist.cons _ ?_)) ⟨hm1, rfl, ?_⟩
    rw [h7, show kidsR [Tree.isType] none a.kids = true from h8]; rfl
   ·repeat ((refine qs rfl (qz tab 0 rfl rfl rfl rfl rfl rfl ?_)))
    refine TO.step rfl (OT.litR tab rFn (hs := [46, 110]) (l := [46, 110]) ⟨rfl, rfl, trivial⟩ rfl rfl rfl rfl rfl (by decide) (fun s2 m2 hm2 hs2 _ _ => ?_))
    skip
    refine TO.step rfl (OT.call rfl rfl rfl rfl rfl rfl goes45 ((kids_law m2 _ ⟨21, a.name, a.num, s⟩ a (hr'.mono (Mem.le_trans hm1 hm2)) s2 [(46, Tree.isType), (110, g.expr)] none hs2 (pr2 hT hE) po0).x ?_));
    rintro _ _ _ ⟨rfl, rfl, rfl⟩
    repeat (first|refine q4 tab rfl rfl ?_|refine q5 ?_|refine q6 ?_|refine q8 ?_|refine q9 ?_|refine q15 ?_)
    refine retQ_ret rfl (by repeat (first|exact List.Sublist.refl _|refine List.Sublist.cons _ ?_)) ⟨(Mem.le_trans hm1 hm2), rfl, ?_⟩
    rw [h7, show kidsR [Tree.isType] none a.kids = false from h8]; rfl
  ·skip
   repeat (first|refine q4 tab rfl rfl ?_|refine q5 ?_|refine q6 ?_|refine q8 ?_|refine q9 ?_|refine q15 ?_)
   refine retQ_ret rfl (by repeat (first|exact List.Sublist.refl _|refine List.Sublist.cons _ ?_)) ⟨Mem.le_refl _, rfl, ?_⟩
   rw [h7]; rfl
 by_cases hk22 : a.kind = 22
 ·obtain ⟨k, n, u, s⟩ := h
  obtain rfl : k = 22 := h1.trans hk22
  simp only at h2 h3 h4 hl
  subst h2
  subst h3
  repeat (first|refine q1 ?_|refine q3 ?_)
  refine TO.step rfl (OT.box rfl rfl rfl rfl rfl (fun b => ?_))
  repeat (first|(first|refine q1 ?_|refine q3 ?_|refine q4 tab rfl rfl ?_|refine q5 ?_|refine q6 ?_)|(refine qs rfl (ql tab 0 rfl rfl rfl rfl rfl rfl ?_)))
  (refine TO.splitN rfl rfl (fun e1 => ?_) (fun e1 => ?_))
  ·repeat (first|refine q1 ?_|refine q3 ?_|refine q4 tab rfl rfl ?_|refine q5 ?_|refine q6 ?_|refine q8 ?_|refine q15 ?_|refine q16 rfl ?_)
   refine retQ_ret rfl (by repeat (first|exact List.Sublist.refl _|refine List.Sublist.cons _ ?_)) ⟨Mem.le_refl _, rfl, ?_⟩
   rw [stmtS_no (show headS a = false by unfold headS; rw [hk22, decide_eq_false e1]; rfl)]
  repeat (first|(first|refine q1 ?_|refine q2 ?_|refine q3 ?_|refine q4 tab rfl rfl ?_|refine q5 ?_|refine q6 ?_|refine q13 ?_|refine q16 rfl ?_|refine q17 rfl ?_)|(refine qs rfl (ql tab 0 rfl rfl rfl rfl rfl rfl ?_)))
  have hh : headS a = true := by unfold headS; rw [hk22, decide_eq_true e1]; simp
  have hspec : stmtS g a = asgS g (nmS g) a := by unfold stmtS; rw [if_neg (by rw [hh]; decide)]; simp [hk22]
  rw [hspec]
  unfold asgS
  have hp1 : IsPred 110 g.expr (a.kids.drop a.num.toNat) := ⟨hE.1, fun m L x b hb => hE.2 m L x b (List.mem_of_mem_drop hb)⟩
  have hp2' := nm_pred hE
  have hp2 : IsPred 112 (nmS g) (a.kids.take a.num.toNat) := ⟨hp2'.1, fun m L x b hb => hp2'.2 m L x b (List.mem_of_mem_take hb)⟩
  skip
  (refine TO.splitP rfl rfl (fun e3 => ?_) (fun e3 => ?_))
  ·simp only at e3
   repeat (first|(refine q4 tab rfl rfl ?_)|(refine qs rfl (ql tab 0 rfl rfl rfl rfl rfl rfl ?_)))
   (refine TO.splitP rfl rfl (fun e4 => ?_) (fun e4 => ?_))
   ·simp only at e4
    have hnum : a.num = ((a.num.toNat : Nat) : Int) := by omega
    rw [decide_eq_true e3, decide_eq_true (show a.num < (a.kids.length : Int) by omega), Bool.true_and, Bool.true_and]
    repeat (first|(refine q4 tab rfl rfl ?_)|(refine qs rfl (ql tab 0 rfl rfl rfl rfl rfl rfl ?_)))
    refine TO.step rfl (OT.cut tab rTree 0 a.num.toNat h4 rfl rfl rfl rfl rfl rfl rfl (.inl ⟨rfl, rfl⟩) (.inr (by rw [← hnum])) (Nat.zero_le _) (by omega) (fun s1 hs1 => ?_))
    rw [List.drop_zero] at hs1
    repeat (refine q4 tab rfl rfl ?_)
    refine TO.step rfl (OT.call rfl rfl rfl rfl rfl rfl goes26 ((pall_law _ _ s1 _ hs1 112 (nmS g) hp2).x ?_));
    rintro _ _ _ ⟨rfl, rfl, rfl⟩
    repeat (refine q4 tab rfl rfl ?_)
    refine TO.split rfl rfl (fun h10 => ?_) (fun h10 => ?_)
    ·repeat (first|(refine q4 tab rfl rfl ?_)|(refine qs rfl (ql tab 0 rfl rfl rfl rfl rfl rfl ?_)))
     refine TO.step rfl (OT.cut tab rTree a.num.toNat s.len h4 rfl rfl rfl rfl rfl rfl rfl (.inr (by rw [← hnum])) (.inl ⟨rfl, rfl⟩) (by omega) (by omega) (fun s2 hs2 => ?_))
     rw [List.take_of_length_le (by omega)] at hs2
     skip
     refine TO.step rfl (OT.call rfl rfl rfl rfl rfl rfl goes26 ((pall_law _ _ s2 _ hs2 110 g.expr hp1).x ?_));
     rintro _ _ _ ⟨rfl, rfl, rfl⟩
     repeat (first|refine q4 tab rfl rfl ?_|refine q5 ?_|refine q6 ?_|refine q8 ?_|refine q9 ?_|refine q15 ?_)
     refine retQ_ret rfl (by repeat (first|exact List.Sublist.refl _|refine List.Sublist.cons _ ?_)) ⟨Mem.le_refl _, rfl, ?_⟩
     rw [h10]; rfl
    ·skip
     repeat (first|refine q4 tab rfl rfl ?_|refine q5 ?_|refine q6 ?_|refine q8 ?_|refine q9 ?_|refine q15 ?_)
     refine retQ_ret rfl (by repeat (first|exact List.Sublist.refl _|refine List.Sublist.cons _ ?_)) ⟨Mem.le_refl _, rfl, ?_⟩
     rw [h10]; rfl
   ·simp only at e4
    repeat (first|refine q4 tab rfl rfl ?_|refine q5 ?_|refine q6 ?_|refine q8 ?_|refine q9 ?_|refine q15 ?_)
    refine retQ_ret rfl (by repeat (first|exact List.Sublist.refl _|refine List.Sublist.cons _ ?_)) ⟨Mem.le_refl _, rfl, ?_⟩
    rw [decide_eq_false (show ¬ a.num < (a.kids.length : Int) by omega), Bool.false_and, Bool.and_false]
  ·simp only at e3
   repeat (first|refine q4 tab rfl rfl ?_|refine q5 ?_|refine q6 ?_|refine q8 ?_|refine q9 ?_|refine q15 ?_)
   refine retQ_ret rfl (by repeat (first|exact List.Sublist.refl _|refine List.Sublist.cons _ ?_)) ⟨Mem.le_refl _, rfl, ?_⟩
   rw [decide_eq_false e3]; rfl
 by_cases hk23 : a.kind = 23
 ·obtain ⟨k, n, u, s⟩ := h
  obtain rfl : k = 23 := h1.trans hk23
  simp only at h2 h3 h4 hl
  subst h2
  subst h3
  repeat (first|refine q1 ?_|refine q3 ?_)
  refine TO.step rfl (OT.box rfl rfl rfl rfl rfl (fun b => ?_))
  repeat (first|(first|refine q1 ?_|refine q3 ?_|refine q4 tab rfl rfl ?_|refine q5 ?_|refine q6 ?_)|(refine qs rfl (ql tab 0 rfl rfl rfl rfl rfl rfl ?_)))
  (refine TO.splitN rfl rfl (fun e1 => ?_) (fun e1 => ?_))
  ·repeat (first|refine q1 ?_|refine q3 ?_|refine q4 tab rfl rfl ?_|refine q5 ?_|refine q6 ?_|refine q8 ?_|refine q15 ?_|refine q16 rfl ?_)
   refine retQ_ret rfl (by repeat (first|exact List.Sublist.refl _|refine List.Sublist.cons _ ?_)) ⟨Mem.le_refl _, rfl, ?_⟩
   rw [stmtS_no (show headS a = false by unfold headS; rw [hk23, decide_eq_false e1]; rfl)]
  repeat (first|(first|refine q1 ?_|refine q2 ?_|refine q3 ?_|refine q4 tab rfl rfl ?_|refine q5 ?_|refine q6 ?_|refine q13 ?_|refine q16 rfl ?_|refine q17 rfl ?_)|(refine qs rfl (ql tab 0 rfl rfl rfl rfl rfl rfl ?_)))
  have hh : headS a = true := by unfold headS; rw [hk23, decide_eq_true e1]; simp
  have hspec : stmtS g a = asgS g (plS g) a := by unfold stmtS; rw [if_neg (by rw [hh]; decide)]; simp [hk23]
  rw [hspec]
  unfold asgS
  have hp1 : IsPred 110 g.expr (a.kids.drop a.num.toNat) := ⟨hE.1, fun m L x b hb => hE.2 m L x b (List.mem_of_mem_drop hb)⟩
  have hp2' := pl_pred hE
  have hp2 : IsPred 111 (plS g) (a.kids.take a.num.toNat) := ⟨hp2'.1, fun m L x b hb => hp2'.2 m L x b (List.mem_of_mem_take hb)⟩
  skip
  (refine TO.splitP rfl rfl (fun e3 => ?_) (fun e3 => ?_))
  ·simp only at e3
   repeat (first|(refine q4 tab rfl rfl ?_)|(refine qs rfl (ql tab 0 rfl rfl rfl rfl rfl rfl ?_)))
   (refine TO.splitP rfl rfl (fun e4 => ?_) (fun e4 => ?_))
   ·simp only at e4
    have hnum : a.num = ((a.num.toNat : Nat) : Int) := by omega
    rw [decide_eq_true e3, decide_eq_true (show a.num < (a.kids.length : Int) by omega), Bool.true_and, Bool.true_and]
    repeat (first|(refine q4 tab rfl rfl ?_)|(refine qs rfl (ql tab 0 rfl rfl rfl rfl rfl rfl ?_)))
    refine TO.step rfl (OT.cut tab rTree 0 a.num.toNat h4 rfl rfl rfl rfl rfl rfl rfl (.inl ⟨rfl, rfl⟩) (.inr (by rw [← hnum])) (Nat.zero_le _) (by omega) (fun s1 hs1 => ?_))
    rw [List.drop_zero] at hs1
    repeat (refine q4 tab rfl rfl ?_)
    refine TO.step rfl (OT.call rfl rfl rfl rfl rfl rfl goes26 ((pall_law _ _ s1 _ hs1 111 (plS g) hp2).x ?_));
    rintro _ _ _ ⟨rfl, rfl, rfl⟩
    repeat (refine q4 tab rfl rfl ?_)
    refine TO.split rfl rfl (fun h10 => ?_) (fun h10 => ?_)
    ·repeat (first|(refine q4 tab rfl rfl ?_)|(refine qs rfl (ql tab 0 rfl rfl rfl rfl rfl rfl ?_)))
     refine TO.step rfl (OT.cut tab rTree a.num.toNat s.len h4 rfl rfl rfl rfl rfl rfl rfl (.inr (by rw [← hnum])) (.inl ⟨rfl, rfl⟩) (by omega) (by omega) (fun s2 hs2 => ?_))
     rw [List.take_of_length_le (by omega)] at hs2
     skip
     refine TO.step rfl (OT.call rfl rfl rfl rfl rfl rfl goes26 ((pall_law _ _ s2 _ hs2 110 g.expr hp1).x ?_));
     rintro _ _ _ ⟨rfl, rfl, rfl⟩
     repeat (first|refine q4 tab rfl rfl ?_|refine q5 ?_|refine q6 ?_|refine q8 ?_|refine q9 ?_|refine q15 ?_)
     refine retQ_ret rfl (by repeat (first|exact List.Sublist.refl _|refine List.Sublist.cons _ ?_)) ⟨Mem.le_refl _, rfl, ?_⟩
     rw [h10]; rfl
    ·skip
     repeat (first|refine q4 tab rfl rfl ?_|refine q5 ?_|refine q6 ?_|refine q8 ?_|refine q9 ?_|refine q15 ?_)
     refine retQ_ret rfl (by repeat (first|exact List.Sublist.refl _|refine List.Sublist.cons _ ?_)) ⟨Mem.le_refl _, rfl, ?_⟩
     rw [h10]; rfl
   ·simp only at e4
    repeat (first|refine q4 tab rfl rfl ?_|refine q5 ?_|refine q6 ?_|refine q8 ?_|refine q9 ?_|refine q15 ?_)
    refine retQ_ret rfl (by repeat (first|exact List.Sublist.refl _|refine List.Sublist.cons _ ?_)) ⟨Mem.le_refl _, rfl, ?_⟩
    rw [decide_eq_false (show ¬ a.num < (a.kids.length : Int) by omega), Bool.false_and, Bool.and_false]
  ·simp only at e3
   repeat (first|refine q4 tab rfl rfl ?_|refine q5 ?_|refine q6 ?_|refine q8 ?_|refine q9 ?_|refine q15 ?_)
   refine retQ_ret rfl (by repeat (first|exact List.Sublist.refl _|refine List.Sublist.cons _ ?_)) ⟨Mem.le_refl _, rfl, ?_⟩
   rw [decide_eq_false e3]; rfl
 by_cases hk24 : a.kind = 24
 ·obtain ⟨k, n, u, s⟩ := h
  obtain rfl : k = 24 := h1.trans hk24
  simp only at h2 h3 h4 hl
  subst h2
  subst h3
  repeat (first|refine q1 ?_|refine q3 ?_)
  refine TO.step rfl (OT.box rfl rfl rfl rfl rfl (fun b => ?_))
  repeat (first|(first|refine q1 ?_|refine q3 ?_|refine q4 tab rfl rfl ?_|refine q5 ?_|refine q6 ?_)|(refine qs rfl (ql tab 0 rfl rfl rfl rfl rfl rfl ?_)))
  (refine TO.splitN rfl rfl (fun e1 => ?_) (fun e1 => ?_))
  ·repeat (first|refine q1 ?_|refine q3 ?_|refine q4 tab rfl rfl ?_|refine q5 ?_|refine q6 ?_|refine q8 ?_|refine q15 ?_|refine q16 rfl ?_)
   refine retQ_ret rfl (by repeat (first|exact List.Sublist.refl _|refine List.Sublist.cons _ ?_)) ⟨Mem.le_refl _, rfl, ?_⟩
   rw [stmtS_no (show headS a = false by unfold headS; rw [hk24, decide_eq_false e1]; rfl)]
  repeat (first|(first|refine q4 tab rfl rfl ?_|refine q5 ?_|refine q6 ?_)|(refine qs rfl (ql tab 0 rfl rfl rfl rfl rfl rfl ?_)))
  refine TC.condN rfl (fun e2 => ?_) (fun e2 => ?_)
  ·simp only at e2
   repeat (first|refine q1 ?_|refine q3 ?_|refine q4 tab rfl rfl ?_|refine q5 ?_|refine q6 ?_|refine q8 ?_|refine q15 ?_)
   refine retQ_ret rfl (by repeat (first|exact List.Sublist.refl _|refine List.Sublist.cons _ ?_)) ⟨Mem.le_refl _, rfl, ?_⟩
   rw [stmtS_no (show headS a = false by unfold headS; rw [hk24, decide_eq_false e2]; simp)]
  simp only at e2
  repeat (first|(first|refine q1 ?_|refine q2 ?_|refine q3 ?_|refine q4 tab rfl rfl ?_|refine q5 ?_|refine q6 ?_|refine q13 ?_|refine q16 rfl ?_|refine q17 rfl ?_)|(first|refine qs rfl (ql tab 0 rfl rfl rfl rfl rfl rfl ?_)|refine qs rfl (qz tab 0 rfl rfl rfl rfl rfl rfl ?_)))
  have hh : headS a = true := by unfold headS; rw [hk24, decide_eq_true e1, decide_eq_true e2]; simp
  have hspec : stmtS g a = kidsR [callS g] none a.kids := by unfold stmtS; rw [if_neg (by rw [hh]; decide)]; simp [hk24]
  rw [hspec]
  skip
  refine TO.step rfl (OT.litR tab rFn (hs := [113]) (l := [113]) ⟨rfl, trivial⟩ rfl rfl rfl rfl rfl (by decide) (fun s1 m1 hm1 hs1 _ _ => ?_))
  skip
  refine TO.step rfl (OT.call rfl rfl rfl rfl rfl rfl goes45 ((kids_law m1 _ ⟨24, a.name, a.num, s⟩ a (hr'.mono hm1) s1 [(113, callS g)] none hs1 (pr1 hC) po0).x ?_));
  rintro _ _ _ ⟨rfl, rfl, rfl⟩
  repeat (first|refine q4 tab rfl rfl ?_|refine q5 ?_|refine q6 ?_|refine q8 ?_|refine q9 ?_|refine q15 ?_)
  refine retQ_ret rfl (by repeat (first|exact List.Sublist.refl _|refine List.Sublist.cons _ ?_)) ⟨hm1, rfl, ?_⟩
  rfl
 by_cases hk25 : a.kind = 25
 ·obtain ⟨k, n, u, s⟩ := h
  obtain rfl : k = 25 := h1.trans hk25
  simp only at h2 h3 h4 hl
  subst h2
  subst h3
  repeat (first|refine q1 ?_|refine q3 ?_)
  refine TO.step rfl (OT.box rfl rfl rfl rfl rfl (fun b => ?_))
  repeat (first|(first|refine q1 ?_|refine q3 ?_|refine q4 tab rfl rfl ?_|refine q5 ?_|refine q6 ?_)|(refine qs rfl (ql tab 0 rfl rfl rfl rfl rfl rfl ?_)))
  (refine TO.splitN rfl rfl (fun e1 => ?_) (fun e1 => ?_))
  ·repeat (first|refine q1 ?_|refine q3 ?_|refine q4 tab rfl rfl ?_|refine q5 ?_|refine q6 ?_|refine q8 ?_|refine q15 ?_|refine q16 rfl ?_)
   refine retQ_ret rfl (by repeat (first|exact List.Sublist.refl _|refine List.Sublist.cons _ ?_)) ⟨Mem.le_refl _, rfl, ?_⟩
   rw [stmtS_no (show headS a = false by unfold headS; rw [hk25, decide_eq_false e1]; rfl)]
  repeat (first|(first|refine q4 tab rfl rfl ?_|refine q5 ?_|refine q6 ?_)|(refine qs rfl (ql tab 0 rfl rfl rfl rfl rfl rfl ?_)))
  refine TC.condN rfl (fun e2 => ?_) (fun e2 => ?_)
  ·simp only at e2
   repeat (first|refine q1 ?_|refine q3 ?_|refine q4 tab rfl rfl ?_|refine q5 ?_|refine q6 ?_|refine q8 ?_|refine q15 ?_)
   refine retQ_ret rfl (by repeat (first|exact List.Sublist.refl _|refine List.Sublist.cons _ ?_)) ⟨Mem.le_refl _, rfl, ?_⟩
   rw [stmtS_no (show headS a = false by unfold headS; rw [hk25, decide_eq_false e2]; simp)]
  simp only at e2
  repeat (first|(first|refine q1 ?_|refine q2 ?_|refine q3 ?_|refine q4 tab rfl rfl ?_|refine q5 ?_|refine q6 ?_|refine q13 ?_|refine q16 rfl ?_|refine q17 rfl ?_)|(first|refine qs rfl (ql tab 0 rfl rfl rfl rfl rfl rfl ?_)|refine qs rfl (qz tab 0 rfl rfl rfl rfl rfl rfl ?_)))
  have hh : headS a = true := by unfold headS; rw [hk25, decide_eq_true e1, decide_eq_true e2]; simp
  have hspec : stmtS g a = (kidsR [g.expr, g.block] none a.kids || kidsR [g.expr, g.block, otherS g] none a.kids) := by unfold stmtS; rw [if_neg (by rw [hh]; decide)]; simp [hk25]
  rw [hspec]
  skip
  refine TO.step rfl (OT.litR tab rFn (hs := [110, 49]) (l := [110, 49]) ⟨rfl, rfl, trivial⟩ rfl rfl rfl rfl rfl (by decide) (fun s1 m1 hm1 hs1 _ _ => ?_))
  skip
  refine TO.step rfl (OT.call rfl rfl rfl rfl rfl rfl goes45 ((kids_law m1 _ ⟨25, a.name, a.num, s⟩ a (hr'.mono hm1) s1 [(110, g.expr), (49, g.block)] none hs1 (pr2 hE hK) po0).x ?_));
  rintro _ _ _ ⟨rfl, rfl, rfl⟩
  repeat (refine q4 tab rfl rfl ?_)
  refine TO.split rfl rfl (fun h8 => ?_) (fun h8 => ?_)
  ·skip
   repeat (first|refine q4 tab rfl rfl ?_|refine q5 ?_|refine q6 ?_|refine q8 ?_|refine q9 ?_|refine q15 ?_)
   refine retQ_ret rfl (by repeat (first|exact List.Sublist.refl _|refine List.Sublist.cons _ ?_)) ⟨hm1, rfl, ?_⟩
   rw [show kidsR [g.expr, g.block] none a.kids = true from h8]; rfl
  ·repeat (first|(refine q4 tab rfl rfl ?_)|(refine qs rfl (qz tab 0 rfl rfl rfl rfl rfl rfl ?_)))
   refine TO.step rfl (OT.litR tab rFn (hs := [110, 49, 114]) (l := [110, 49, 114]) ⟨rfl, rfl, rfl, trivial⟩ rfl rfl rfl rfl rfl (by decide) (fun s2 m2 hm2 hs2 _ _ => ?_))
   skip
   refine TO.step rfl (OT.call rfl rfl rfl rfl rfl rfl goes45 ((kids_law m2 _ ⟨25, a.name, a.num, s⟩ a (hr'.mono (Mem.le_trans hm1 hm2)) s2 [(110, g.expr), (49, g.block), (114, otherS g)] none hs2 (pr3 hE hK hO) po0).x ?_));
   rintro _ _ _ ⟨rfl, rfl, rfl⟩
   repeat (first|refine q4 tab rfl rfl ?_|refine q5 ?_|refine q6 ?_|refine q8 ?_|refine q9 ?_|refine q15 ?_)
   refine retQ_ret rfl (by repeat (first|exact List.Sublist.refl _|refine List.Sublist.cons _ ?_)) ⟨(Mem.le_trans hm1 hm2), rfl, ?_⟩
   rw [show kidsR [g.expr, g.block] none a.kids = false from h8]; rfl
 by_cases hk26 : a.kind = 26
 ·obtain ⟨k, n, u, s⟩ := h
  obtain rfl : k = 26 := h1.trans hk26
  simp only at h2 h3 h4 hl
  subst h2
  subst h3
  repeat (first|refine q1 ?_|refine q3 ?_)
  refine TO.step rfl (OT.box rfl rfl rfl rfl rfl (fun b => ?_))
  repeat (first|(first|refine q1 ?_|refine q3 ?_|refine q4 tab rfl rfl ?_|refine q5 ?_|refine q6 ?_)|(refine qs rfl (ql tab 0 rfl rfl rfl rfl rfl rfl ?_)))
  (refine TO.splitN rfl rfl (fun e1 => ?_) (fun e1 => ?_))
  ·repeat (first|refine q1 ?_|refine q3 ?_|refine q4 tab rfl rfl ?_|refine q5 ?_|refine q6 ?_|refine q8 ?_|refine q15 ?_|refine q16 rfl ?_)
   refine retQ_ret rfl (by repeat (first|exact List.Sublist.refl _|refine List.Sublist.cons _ ?_)) ⟨Mem.le_refl _, rfl, ?_⟩
   rw [stmtS_no (show headS a = false by unfold headS; rw [hk26, decide_eq_false e1]; rfl)]
  repeat (first|(first|refine q4 tab rfl rfl ?_|refine q5 ?_|refine q6 ?_)|(refine qs rfl (ql tab 0 rfl rfl rfl rfl rfl rfl ?_)))
  refine TC.condN rfl (fun e2 => ?_) (fun e2 => ?_)
  ·simp only at e2
   repeat (first|refine q1 ?_|refine q3 ?_|refine q4 tab rfl rfl ?_|refine q5 ?_|refine q6 ?_|refine q8 ?_|refine q15 ?_)
   refine retQ_ret rfl (by repeat (first|exact List.Sublist.refl _|refine List.Sublist.cons _ ?_)) ⟨Mem.le_refl _, rfl, ?_⟩
   rw [stmtS_no (show headS a = false by unfold headS; rw [hk26, decide_eq_false e2]; simp)]
  simp only at e2
  repeat (first|(first|refine q1 ?_|refine q2 ?_|refine q3 ?_|refine q4 tab rfl rfl ?_|refine q5 ?_|refine q6 ?_|refine q13 ?_|refine q16 rfl ?_|refine q17 rfl ?_)|(first|refine qs rfl (ql tab 0 rfl rfl rfl rfl rfl rfl ?_)|refine qs rfl (qz tab 0 rfl rfl rfl rfl rfl rfl ?_)))
  have hh : headS a = true := by unfold headS; rw [hk26, decide_eq_true e1, decide_eq_true e2]; simp
  have hspec : stmtS g a = (kidsR [g.block] none a.kids || kidsR [g.expr, g.block] none a.kids) := by unfold stmtS; rw [if_neg (by rw [hh]; decide)]; simp [hk26]
  rw [hspec]
  skip
  refine TO.step rfl (OT.litR tab rFn (hs := [49]) (l := [49]) ⟨rfl, trivial⟩ rfl rfl rfl rfl rfl (by decide) (fun s1 m1 hm1 hs1 _ _ => ?_))
  skip
  refine TO.step rfl (OT.call rfl rfl rfl rfl rfl rfl goes45 ((kids_law m1 _ ⟨26, a.name, a.num, s⟩ a (hr'.mono hm1) s1 [(49, g.block)] none hs1 (pr1 hK) po0).x ?_));
  rintro _ _ _ ⟨rfl, rfl, rfl⟩
  repeat (refine q4 tab rfl rfl ?_)
  refine TO.split rfl rfl (fun h8 => ?_) (fun h8 => ?_)
  ·skip
   repeat (first|refine q4 tab rfl rfl ?_|refine q5 ?_|refine q6 ?_|refine q8 ?_|refine q9 ?_|refine q15 ?_)
   refine retQ_ret rfl (by repeat (first|exact List.Sublist.refl _|refine List.Sublist.cons _ ?_)) ⟨hm1, rfl, ?_⟩
   rw [show kidsR [g.block] none a.kids = true from h8]; rfl
  ·repeat ((refine qs rfl (qz tab 0 rfl rfl rfl rfl rfl rfl ?_)))
   refine TO.step rfl (OT.litR tab rFn (hs := [110, 49]) (l := [110, 49]) ⟨rfl, rfl, trivial⟩ rfl rfl rfl rfl rfl (by decide) (fun s2 m2 hm2 hs2 _ _ => ?_))
   skip
   refine TO.step rfl (OT.call rfl rfl rfl rfl rfl rfl goes45 ((kids_law m2 _ ⟨26, a.name, a.num, s⟩ a (hr'.mono (Mem.le_trans hm1 hm2)) s2 [(110, g.expr), (49, g.block)] none hs2 (pr2 hE hK) po0).x ?_));
   rintro _ _ _ ⟨rfl, rfl, rfl⟩
   repeat (first|refine q4 tab rfl rfl ?_|refine q5 ?_|refine q6 ?_|refine q8 ?_|refine q9 ?_|refine q15 ?_)
   refine retQ_ret rfl (by repeat (first|exact List.Sublist.refl _|refine List.Sublist.cons _ ?_)) ⟨(Mem.le_trans hm1 hm2), rfl, ?_⟩
   rw [show kidsR [g.block] none a.kids = false from h8]; rfl
 by_cases hk27 : a.kind = 27
 ·obtain ⟨k, n, u, s⟩ := h
  obtain rfl : k = 27 := h1.trans hk27
  simp only at h2 h3 h4 hl
  subst h2
  subst h3
  repeat (first|refine q1 ?_|refine q3 ?_)
  refine TO.step rfl (OT.box rfl rfl rfl rfl rfl (fun b => ?_))
  repeat (first|(first|refine q1 ?_|refine q3 ?_|refine q4 tab rfl rfl ?_|refine q5 ?_|refine q6 ?_)|(refine qs rfl (ql tab 0 rfl rfl rfl rfl rfl rfl ?_)))
  (refine TO.splitN rfl rfl (fun e1 => ?_) (fun e1 => ?_))
  ·repeat (first|refine q1 ?_|refine q3 ?_|refine q4 tab rfl rfl ?_|refine q5 ?_|refine q6 ?_|refine q8 ?_|refine q15 ?_|refine q16 rfl ?_)
   refine retQ_ret rfl (by repeat (first|exact List.Sublist.refl _|refine List.Sublist.cons _ ?_)) ⟨Mem.le_refl _, rfl, ?_⟩
   rw [stmtS_no (show headS a = false by unfold headS; rw [hk27, decide_eq_false e1]; rfl)]
  repeat (first|(first|refine q4 tab rfl rfl ?_|refine q5 ?_|refine q6 ?_)|(refine qs rfl (ql tab 0 rfl rfl rfl rfl rfl rfl ?_)))
  refine TC.condN rfl (fun e2 => ?_) (fun e2 => ?_)
  ·simp only at e2
   repeat (first|refine q1 ?_|refine q3 ?_|refine q4 tab rfl rfl ?_|refine q5 ?_|refine q6 ?_|refine q8 ?_|refine q15 ?_)
   refine retQ_ret rfl (by repeat (first|exact List.Sublist.refl _|refine List.Sublist.cons _ ?_)) ⟨Mem.le_refl _, rfl, ?_⟩
   rw [stmtS_no (show headS a = false by unfold headS; rw [hk27, decide_eq_false e2]; simp)]
  simp only at e2
  repeat (first|(first|refine q1 ?_|refine q2 ?_|refine q3 ?_|refine q4 tab rfl rfl ?_|refine q5 ?_|refine q6 ?_|refine q13 ?_|refine q16 rfl ?_|refine q17 rfl ?_)|(refine qs rfl (ql tab 0 rfl rfl rfl rfl rfl rfl ?_)))
  have hh : headS a = true := by unfold headS; rw [hk27, decide_eq_true e1, decide_eq_true e2]; simp
  have hspec : stmtS g a = a.kids.all g.expr := by unfold stmtS; rw [if_neg (by rw [hh]; decide)]; simp [hk27]
  rw [hspec]
  skip
  refine TO.step rfl (OT.call rfl rfl rfl rfl rfl rfl goes26 ((pall_law _ _ s a.kids h4 110 g.expr hE).x ?_));
  rintro _ _ _ ⟨rfl, rfl, rfl⟩
  repeat (first|refine q4 tab rfl rfl ?_|refine q5 ?_|refine q6 ?_|refine q8 ?_|refine q9 ?_|refine q15 ?_)
  refine retQ_ret rfl (by repeat (first|exact List.Sublist.refl _|refine List.Sublist.cons _ ?_)) ⟨Mem.le_refl _, rfl, ?_⟩
  rfl
 by_cases hk28 : a.kind = 28
 ·obtain ⟨k, n, u, s⟩ := h
  obtain rfl : k = 28 := h1.trans hk28
  simp only at h2 h3 h4 hl
  subst h2
  subst h3
  repeat (first|refine q1 ?_|refine q3 ?_)
  refine TO.step rfl (OT.box rfl rfl rfl rfl rfl (fun b => ?_))
  repeat (first|(first|refine q1 ?_|refine q3 ?_|refine q4 tab rfl rfl ?_|refine q5 ?_|refine q6 ?_)|(refine qs rfl (ql tab 0 rfl rfl rfl rfl rfl rfl ?_)))
  (refine TO.splitN rfl rfl (fun e1 => ?_) (fun e1 => ?_))
  ·repeat (first|refine q1 ?_|refine q3 ?_|refine q4 tab rfl rfl ?_|refine q5 ?_|refine q6 ?_|refine q8 ?_|refine q15 ?_|refine q16 rfl ?_)
   refine retQ_ret rfl (by repeat (first|exact List.Sublist.refl _|refine List.Sublist.cons _ ?_)) ⟨Mem.le_refl _, rfl, ?_⟩
   rw [stmtS_no (show headS a = false by unfold headS; rw [hk28, decide_eq_false e1]; rfl)]
  repeat (first|(first|refine q4 tab rfl rfl ?_|refine q5 ?_|refine q6 ?_)|(refine qs rfl (ql tab 0 rfl rfl rfl rfl rfl rfl ?_)))
  refine TC.condN rfl (fun e2 => ?_) (fun e2 => ?_)
  ·simp only at e2
   repeat (first|refine q1 ?_|refine q3 ?_|refine q4 tab rfl rfl ?_|refine q5 ?_|refine q6 ?_|refine q8 ?_|refine q15 ?_)
   refine retQ_ret rfl (by repeat (first|exact List.Sublist.refl _|refine List.Sublist.cons _ ?_)) ⟨Mem.le_refl _, rfl, ?_⟩
   rw [stmtS_no (show headS a = false by unfold headS; rw [hk28, decide_eq_false e2]; simp)]
  simp only at e2
  repeat (first|(first|refine q1 ?_|refine q2 ?_|refine q3 ?_|refine q4 tab rfl rfl ?_|refine q5 ?_|refine q6 ?_|refine q13 ?_|refine q16 rfl ?_|refine q17 rfl ?_)|(first|refine qs rfl (ql tab 0 rfl rfl rfl rfl rfl rfl ?_)|refine qs rfl (qz tab 0 rfl rfl rfl rfl rfl rfl ?_)))
  have hh : headS a = true := by unfold headS; rw [hk28, decide_eq_true e1, decide_eq_true e2]; simp
  have hspec : stmtS g a = kidsR [] none a.kids := by unfold stmtS; rw [if_neg (by rw [hh]; decide)]; simp [hk28]
  rw [hspec]
  skip
  refine TO.step rfl (OT.call rfl rfl rfl rfl rfl rfl goes45 ((kids_law m _ ⟨28, a.name, a.num, s⟩ a hr' ⟨none, 0, 0⟩ [] none (SlRep.nil _ _) pr0 po0).x ?_));
  rintro _ _ _ ⟨rfl, rfl, rfl⟩
  repeat (first|refine q4 tab rfl rfl ?_|refine q5 ?_|refine q6 ?_|refine q8 ?_|refine q9 ?_|refine q15 ?_)
  refine retQ_ret rfl (by repeat (first|exact List.Sublist.refl _|refine List.Sublist.cons _ ?_)) ⟨(Mem.le_refl _), rfl, ?_⟩
  rfl
 by_cases hk29 : a.kind = 29
 ·obtain ⟨k, n, u, s⟩ := h
  obtain rfl : k = 29 := h1.trans hk29
  simp only at h2 h3 h4 hl
  subst h2
  subst h3
  repeat (first|refine q1 ?_|refine q3 ?_)
  refine TO.step rfl (OT.box rfl rfl rfl rfl rfl (fun b => ?_))
  repeat (first|(first|refine q1 ?_|refine q3 ?_|refine q4 tab rfl rfl ?_|refine q5 ?_|refine q6 ?_)|(refine qs rfl (ql tab 0 rfl rfl rfl rfl rfl rfl ?_)))
  (refine TO.splitN rfl rfl (fun e1 => ?_) (fun e1 => ?_))
  ·repeat (first|refine q1 ?_|refine q3 ?_|refine q4 tab rfl rfl ?_|refine q5 ?_|refine q6 ?_|refine q8 ?_|refine q15 ?_|refine q16 rfl ?_)
   refine retQ_ret rfl (by repeat (first|exact List.Sublist.refl _|refine List.Sublist.cons _ ?_)) ⟨Mem.le_refl _, rfl, ?_⟩
   rw [stmtS_no (show headS a = false by unfold headS; rw [hk29, decide_eq_false e1]; rfl)]
  repeat (first|(first|refine q4 tab rfl rfl ?_|refine q5 ?_|refine q6 ?_)|(refine qs rfl (ql tab 0 rfl rfl rfl rfl rfl rfl ?_)))
  refine TC.condN rfl (fun e2 => ?_) (fun e2 => ?_)
  ·simp only at e2
   repeat (first|refine q1 ?_|refine q3 ?_|refine q4 tab rfl rfl ?_|refine q5 ?_|refine q6 ?_|refine q8 ?_|refine q15 ?_)
   refine retQ_ret rfl (by repeat (first|exact List.Sublist.refl _|refine List.Sublist.cons _ ?_)) ⟨Mem.le_refl _, rfl, ?_⟩
   rw [stmtS_no (show headS a = false by unfold headS; rw [hk29, decide_eq_false e2]; simp)]
  simp only at e2
  repeat (first|(first|refine q1 ?_|refine q2 ?_|refine q3 ?_|refine q4 tab rfl rfl ?_|refine q5 ?_|refine q6 ?_|refine q13 ?_|refine q16 rfl ?_|refine q17 rfl ?_)|(first|refine qs rfl (ql tab 0 rfl rfl rfl rfl rfl rfl ?_)|refine qs rfl (qz tab 0 rfl rfl rfl rfl rfl rfl ?_)))
  have hh : headS a = true := by unfold headS; rw [hk29, decide_eq_true e1, decide_eq_true e2]; simp
  have hspec : stmtS g a = kidsR [] none a.kids := by unfold stmtS; rw [if_neg (by rw [hh]; decide)]; simp [hk29]
  rw [hspec]
  skip
  refine TO.step rfl (OT.call rfl rfl rfl rfl rfl rfl goes45 ((kids_law m _ ⟨29, a.name, a.num, s⟩ a hr' ⟨none, 0, 0⟩ [] none (SlRep.nil _ _) pr0 po0).x ?_));
  rintro _ _ _ ⟨rfl, rfl, rfl⟩
  repeat (first|refine q4 tab rfl rfl ?_|refine q5 ?_|refine q6 ?_|refine q8 ?_|refine q9 ?_|refine q15 ?_)
  refine retQ_ret rfl (by repeat (first|exact List.Sublist.refl _|refine List.Sublist.cons _ ?_)) ⟨(Mem.le_refl _), rfl, ?_⟩
  rfl
 have hspec : stmtS g a = false := by
  unfold stmtS
  split
  ·rfl
  ·simp [hk20, hk21, hk22, hk23, hk24, hk25, hk26, hk27, hk28, hk29]
 rw [hspec]
 repeat (first|refine q1 ?_|refine q3 ?_)
 refine TO.step rfl (OT.box rfl rfl rfl rfl rfl (fun b => ?_))
 repeat' (first|(first|refine q1 ?_|refine q2 ?_|refine q3 ?_|refine q4 tab rfl rfl ?_|refine q5 ?_|refine q6 ?_|refine q8 ?_|refine q13 ?_|refine q15 ?_|refine q16 rfl ?_|refine q17 rfl ?_)|(refine qs rfl (ql tab 0 rfl rfl rfl rfl rfl rfl ?_))|(first|refine TO.splitP rfl rfl (fun hb => ?_) (fun hb => ?_)|refine TO.splitN rfl rfl (fun hb => ?_) (fun hb => ?_)))
 all_goals try omega
 all_goals first | exact retQ_ret rfl (by repeat (first|exact List.Sublist.refl _|refine List.Sublist.cons _ ?_)) ⟨Mem.le_refl _, rfl, rfl⟩ | skip
 all_goals
  repeat' (first|(first|refine q1 ?_|refine q2 ?_|refine q3 ?_|refine q4 tab rfl rfl ?_|refine q5 ?_|refine q6 ?_|refine q7 ?_|refine q8 ?_|refine q13 ?_|refine q15 ?_)|(refine qs rfl (ql tab 0 rfl rfl rfl rfl rfl rfl ?_))|(refine TC.condP rfl (fun h5 => (by omega)) (fun h5 => ?_))|(refine TC.condN rfl (fun h5 => ?_) (fun h5 => ?_)))
 all_goals first | exact retQ_ret rfl (by repeat (first|exact List.Sublist.refl _|refine List.Sublist.cons _ ?_)) ⟨Mem.le_refl _, rfl, rfl⟩ | omega
end Go.Sep


/- PsSnd4 -/
set_option linter.unusedVariables false
set_option linter.unusedSimpArgs false
namespace Go.Sep
open Go.Proofs
attribute [local irreducible] TC TO OT TCallX TCall DO DOt thenQ blockQ retQ At
theorem deepL_mem : ∀ {l : List Tree} {t : Tree}, t ∈ l → t.deep ≤ deepL l
 | x :: xs, t, h => by
  rcases List.mem_cons.1 h with rfl | h
  ·simp only [deepL]; omega
  ·have := deepL_mem h; simp only [deepL]; omega
theorem deep_kid {a t : Tree} (h : t ∈ a.kids) : t.deep < a.deep := by
 obtain ⟨k, n, u, ks⟩ := a
 have := deepL_mem h
 simp only [Tree.kids, Tree.deep] at *
 omega
structure SgT (n : Nat) (a : Tree) (m : Mem) (L : List Item) (h : HTree) : Prop where
 expr : TCall Tryz.prog 110 ⟨[treeV h]⟩ m L (Ret (.bool ((sg n).expr a)) m L)
 stmt : TCall Tryz.prog 85 ⟨[treeV h]⟩ m L (Ret (.bool ((sg n).stmt a)) m L)
 block : TCall Tryz.prog 49 ⟨[treeV h]⟩ m L (Ret (.bool ((sg n).block a)) m L)
theorem sg_tellers : ∀ (n : Nat) (a : Tree), a.deep ≤ n → a.bulk ≤ 140737488355328 → ∀ (m : Mem) (L : List Item) (h : HTree), TreeRep m h a → SgT n a m L h
 | 0, a, hd, hB, m, L, h, hr => by
  obtain ⟨k, nm, u, ks⟩ := a
  simp only [Tree.deep] at hd
  omega
 | n + 1, a, hd, hB, m, L, h, hr => by
  have ih : ∀ b ∈ a.kids, ∀ (m : Mem) (L : List Item) (h : HTree), TreeRep m h b → SgT n b m L h := fun b hb m L h hr =>
   sg_tellers n b (by have := deep_kid hb; omega) (Nat.le_trans (Nat.le_of_lt (bulk_kid hb)) hB) m L h hr
  have hE : IsPred 110 (sg n).expr a.kids := ⟨goes110, fun m L h b hb hr => (ih b hb m L h hr).expr⟩
  have hS : IsPred 85 (sg n).stmt a.kids := ⟨goes85, fun m L h b hb hr => (ih b hb m L h hr).stmt⟩
  have hK : IsPred 49 (sg n).block a.kids := ⟨goes49, fun m L h b hb hr => (ih b hb m L h hr).block⟩
  exact ⟨expr_teller _ a m L h hr hB hE hK, stmt_teller _ a m L h hr hB hE hK hS, block_teller _ a m L h hr hS⟩
set_option maxHeartbeats 800000 in
theorem fieldT_teller (a : Tree) (m : Mem) (L : List Item) (h : HTree) (hr : TreeRep m h a) (hB : a.bulk ≤ 140737488355328) :
  TCall Tryz.prog 44 ⟨[treeV h]⟩ m L (Ret (.bool (fieldS Tree.isType a)) m L) := by
 have hT : IsPred 46 Tree.isType a.kids := kidPred goes46 hB fun b m L h hr hB => type_law b m L h hr hB
 refine TCall.forget ?_
 unfold TCall fieldS
 refine TCallX.enter Tryz.func44 rfl 10 rfl ?_
 repeat (first|refine q1 ?_|refine q3 ?_)
 refine TO.step rfl (OT.box rfl rfl rfl rfl rfl (fun b => ?_))
 repeat (first|(first|refine q1 ?_|refine q3 ?_|refine q4 tab rfl rfl ?_|refine q5 ?_|refine q6 ?_)|(refine qs rfl (qz tab 0 rfl rfl rfl rfl rfl rfl ?_)))
 refine TO.step rfl (OT.call rfl rfl rfl rfl rfl rfl goes43 ((of_law _ _ h a hr hB 6).x ?_));
 rintro _ _ _ ⟨rfl, rfl, rfl⟩
 repeat (refine q4 tab rfl rfl ?_)
 refine TO.split rfl rfl (fun h7 => ?_) (fun h7 => ?_)
 ·repeat ((refine qs rfl (qz tab 0 rfl rfl rfl rfl rfl rfl ?_)))
  refine TO.step rfl (OT.litR tab rFn (hs := [46]) (l := [46]) ⟨rfl, trivial⟩ rfl rfl rfl rfl rfl (by decide) (fun s1 m1 hm1 hs1 _ _ => ?_))
  skip
  refine TO.step rfl (OT.call rfl rfl rfl rfl rfl rfl goes45 ((kids_law m1 _ h a (hr.mono hm1) s1 [(46, Tree.isType)] none hs1 (pr1 hT) po0).x ?_));
  rintro _ _ _ ⟨rfl, rfl, rfl⟩
  repeat (first|refine q4 tab rfl rfl ?_|refine q5 ?_|refine q6 ?_|refine q15 ?_)
  refine retQ_ret rfl (by repeat (first|exact List.Sublist.refl _|refine List.Sublist.cons _ ?_)) ⟨hm1, rfl, ?_⟩
  rw [h7]; rfl
 ·repeat (first|refine q4 tab rfl rfl ?_|refine q5 ?_|refine q6 ?_|refine q15 ?_)
  refine retQ_ret rfl (by repeat (first|exact List.Sublist.refl _|refine List.Sublist.cons _ ?_)) ⟨Mem.le_refl _, rfl, ?_⟩
  rw [h7]; rfl
set_option maxHeartbeats 800000 in
theorem fieldG_teller (a : Tree) (m : Mem) (L : List Item) (h : HTree) (hr : TreeRep m h a) (hB : a.bulk ≤ 140737488355328) :
  TCall Tryz.prog 47 ⟨[treeV h]⟩ m L (Ret (.bool (fieldS Tree.isSig a)) m L) := by
 have hT : IsPred 48 Tree.isSig a.kids := kidPred goes48 hB fun b m L h hr hB => sig_law b m L h hr hB
 refine TCall.forget ?_
 unfold TCall fieldS
 refine TCallX.enter Tryz.func47 rfl 10 rfl ?_
 repeat (first|refine q1 ?_|refine q3 ?_)
 refine TO.step rfl (OT.box rfl rfl rfl rfl rfl (fun b => ?_))
 repeat (first|(first|refine q1 ?_|refine q3 ?_|refine q4 tab rfl rfl ?_|refine q5 ?_|refine q6 ?_)|(refine qs rfl (qz tab 0 rfl rfl rfl rfl rfl rfl ?_)))
 refine TO.step rfl (OT.call rfl rfl rfl rfl rfl rfl goes43 ((of_law _ _ h a hr hB 6).x ?_));
 rintro _ _ _ ⟨rfl, rfl, rfl⟩
 repeat (refine q4 tab rfl rfl ?_)
 refine TO.split rfl rfl (fun h7 => ?_) (fun h7 => ?_)
 ·repeat ((refine qs rfl (qz tab 0 rfl rfl rfl rfl rfl rfl ?_)))
  refine TO.step rfl (OT.litR tab rFn (hs := [48]) (l := [48]) ⟨rfl, trivial⟩ rfl rfl rfl rfl rfl (by decide) (fun s1 m1 hm1 hs1 _ _ => ?_))
  skip
  refine TO.step rfl (OT.call rfl rfl rfl rfl rfl rfl goes45 ((kids_law m1 _ h a (hr.mono hm1) s1 [(48, Tree.isSig)] none hs1 (pr1 hT) po0).x ?_));
  rintro _ _ _ ⟨rfl, rfl, rfl⟩
  repeat (first|refine q4 tab rfl rfl ?_|refine q5 ?_|refine q6 ?_|refine q15 ?_)
  refine retQ_ret rfl (by repeat (first|exact List.Sublist.refl _|refine List.Sublist.cons _ ?_)) ⟨hm1, rfl, ?_⟩
  rw [h7]; rfl
 ·repeat (first|refine q4 tab rfl rfl ?_|refine q5 ?_|refine q6 ?_|refine q15 ?_)
  refine retQ_ret rfl (by repeat (first|exact List.Sublist.refl _|refine List.Sublist.cons _ ?_)) ⟨Mem.le_refl _, rfl, ?_⟩
  rw [h7]; rfl
theorem isParam_kid {a : Tree} (h : a.isParam = true) : ∃ k, a.kids = [k] ∧ k.isType = true := by
 unfold Tree.isParam at h
 simp only [Bool.and_eq_true, decide_eq_true_eq, List.all_eq_true] at h
 obtain ⟨h1, _, _, h2, h3⟩ := h
 match hk : a.kids with
 | [] => rw [hk] at h2; cases h2
 | [k] => exact ⟨k, rfl, h3 k (by rw [hk]; simp)⟩
 | _ :: _ :: _ => rw [hk] at h2; simp at h2
theorem isType_kid {a : Tree} (h : a.isType = true) (h11 : a.kind = 11) : ∃ k, a.kids = [k] := by
 rw [isType_eq, if_neg (by omega), if_pos (.inl h11)] at h
 simp only [Bool.and_eq_true, decide_eq_true_eq] at h
 match hk : a.kids with
 | [] => rw [hk] at h; simp at h
 | [k] => exact ⟨k, rfl⟩
 | _ :: _ :: _ => rw [hk] at h; simp at h
set_option maxHeartbeats 1600000 in
theorem recv_teller (a : Tree) (m : Mem) (L : List Item) (h : HTree) (hr : TreeRep m h a) (hB : a.bulk ≤ 140737488355328) :
  TCall Tryz.prog 50 ⟨[treeV h]⟩ m L (Ret (.bool (recvS a)) m L) := by
 have hr' := hr
 obtain ⟨h1, h2, h3, h4⟩ := hr
 have hl := h4.len
 unfold TCall recvS
 refine TCallX.enter Tryz.func50 rfl 24 rfl ?_
 repeat (first|refine q1 ?_|refine q3 ?_)
 refine TO.step rfl (OT.box rfl rfl rfl rfl rfl (fun b => ?_))
 repeat (first|(first|refine q1 ?_|refine q3 ?_|refine q4 tab rfl rfl ?_|refine q5 ?_|refine q6 ?_)|(refine qs rfl (qz tab 0 rfl rfl rfl rfl rfl rfl ?_)))
 refine TO.step rfl (OT.call rfl rfl rfl rfl rfl rfl goes84 ((param_law a _ _ h hr' hB).x ?_));
 rintro _ _ _ ⟨rfl, rfl, rfl⟩
 repeat (refine q4 tab rfl rfl ?_)
 refine TO.split rfl rfl (fun h7 => ?_) (fun h7 => ?_)
 ·obtain ⟨k0, hk0, ht0⟩ := isParam_kid h7
  have e0 : kid0 a = k0 := by unfold kid0; rw [hk0]; rfl
  have hx : a.kids[0]? = some k0 := by rw [hk0]; rfl
  rw [h7, e0]
  repeat (first|(refine q4 tab rfl rfl ?_)|(refine qs rfl (ql tab 0 rfl rfl rfl rfl rfl rfl ?_)))
  refine TO.step rfl (OT.index tab rTree 0 h4 rfl rfl rfl rfl rfl (by first | rfl | omega | (simp only; omega)) rfl hx ?_)
  rintro b' i hd hrd hA
  obtain ⟨g1, g2, g3, g4⟩ := rTree_iff.1 hrd
  repeat ((refine q4 tab rfl rfl ?_))
  (refine TO.step rfl (OT.loadA tab hA rfl rfl rfl rfl rfl ?_))
  repeat (refine q4 tab rfl rfl ?_)
  (refine TO.splitP rfl rfl (fun e1 => ?_) (fun e1 => ?_))
  ·obtain ⟨k1, hk1⟩ := isType_kid ht0 (g1.symm.trans e1)
   have e2 : kid0 k0 = k1 := by unfold kid0; rw [hk1]; rfl
   have hx1 : k0.kids[0]? = some k1 := by rw [hk1]; rfl
   rw [e2, decide_eq_true (g1.symm.trans e1)]
   repeat (first|(refine q4 tab rfl rfl ?_)|(refine qs rfl (ql tab 0 rfl rfl rfl rfl rfl rfl ?_)))
   refine TO.step rfl (OT.index tab rTree 0 h4 rfl rfl rfl rfl rfl (by first | rfl | omega | (simp only; omega)) rfl hx ?_)
   rintro b2 i2 hd2 hrd2 hA2
   obtain ⟨f1, f2, f3, f4⟩ := rTree_iff.1 hrd2
   repeat ((refine q4 tab rfl rfl ?_))
   (refine TO.step rfl (OT.loadA tab hA2 rfl rfl rfl rfl rfl ?_))
   skip
   refine TO.step rfl (OT.index tab rTree 0 f4 rfl rfl rfl rfl rfl (by first | rfl | omega | (simp only; omega)) rfl hx1 ?_)
   rintro b3 i3 hd3 hrd3 hA3
   obtain ⟨d1, d2, d3, d4⟩ := rTree_iff.1 hrd3
   repeat ((refine q4 tab rfl rfl ?_))
   (refine TO.step rfl (OT.loadA tab hA3 rfl rfl rfl rfl rfl ?_))
   repeat (first|refine q4 tab rfl rfl ?_|refine q5 ?_|refine q6 ?_|refine q15 ?_)
   refine retQ_ret rfl (by repeat (first|exact List.Sublist.refl _|refine List.Sublist.cons _ ?_)) ⟨rfl, rfl, ?_⟩
   rw [d1]; rfl
  ·repeat (first|refine q4 tab rfl rfl ?_|refine q5 ?_|refine q6 ?_|refine q15 ?_)
   refine retQ_ret rfl (by repeat (first|exact List.Sublist.refl _|refine List.Sublist.cons _ ?_)) ⟨rfl, rfl, ?_⟩
   rw [decide_eq_false (fun e => e1 (g1.trans e))]; rfl
 ·repeat (first|refine q4 tab rfl rfl ?_|refine q5 ?_|refine q6 ?_|refine q15 ?_)
  refine retQ_ret rfl (by repeat (first|exact List.Sublist.refl _|refine List.Sublist.cons _ ?_)) ⟨rfl, rfl, ?_⟩
  rw [h7]; rfl
set_option maxHeartbeats 3000000 in
theorem decl_teller (g : Sg) (a : Tree) (m : Mem) (L : List Item) (h : HTree) (hr : TreeRep m h a) (hB : a.bulk ≤ 140737488355328) (hK : IsPred 49 g.block a.kids) :
  TCall Tryz.prog 27 ⟨[treeV h]⟩ m L (Ret (.bool (declS g a)) m L) := by
 have hSg : IsPred 48 Tree.isSig a.kids := kidPred goes48 hB fun b m L h hr hB => sig_law b m L h hr hB
 have hF1 : IsPred 44 (fieldS Tree.isType) a.kids := kidPred goes44 hB fun b m L h hr hB => fieldT_teller b m L h hr hB
 have hF2 : IsPred 47 (fieldS Tree.isSig) a.kids := kidPred goes47 hB fun b m L h hr hB => fieldG_teller b m L h hr hB
 have hR : IsPred 50 recvS a.kids := kidPred goes50 hB fun b m L h hr hB => recv_teller b m L h hr hB
 have hr' := hr
 obtain ⟨h1, h2, h3, h4⟩ := hr
 have hl := h4.len
 refine TCall.forget ?_
 unfold declS TCall
 refine TCallX.enter Tryz.func27 rfl 49 rfl ?_
 by_cases hk : a.kind = 2
 ·skip
  rw [if_pos hk]
  obtain ⟨k, n, u, s⟩ := h
  obtain rfl : k = 2 := h1.trans hk
  simp only at h2 h3 h4 hl
  subst h2
  subst h3
  repeat (first|refine q1 ?_|refine q3 ?_)
  refine TO.step rfl (OT.box rfl rfl rfl rfl rfl (fun b => ?_))
  repeat (first|(first|refine q1 ?_|refine q2 ?_|refine q3 ?_|refine q4 tab rfl rfl ?_|refine q5 ?_|refine q6 ?_|refine q16 rfl ?_)|(first|refine qs rfl (ql tab 0 rfl rfl rfl rfl rfl rfl ?_)|refine qs rfl (qz tab 0 rfl rfl rfl rfl rfl rfl ?_)))
  refine TO.step rfl (OT.call rfl rfl rfl rfl rfl rfl goes43 ((of_law _ _ ⟨2, a.name, a.num, s⟩ a hr' hB 2).x ?_));
  rintro _ _ _ ⟨rfl, rfl, rfl⟩
  repeat (refine q4 tab rfl rfl ?_)
  refine TO.split rfl rfl (fun h7 => ?_) (fun h7 => ?_)
  ·repeat (first|(refine q4 tab rfl rfl ?_)|(refine qs rfl (ql tab 0 rfl rfl rfl rfl rfl rfl ?_)))
   refine TO.step rfl (OT.call rfl rfl rfl rfl rfl rfl goes26 ((pall_law _ _ s a.kids h4 44 (fieldS Tree.isType) hF1).x ?_));
   rintro _ _ _ ⟨rfl, rfl, rfl⟩
   repeat (first|refine q4 tab rfl rfl ?_|refine q5 ?_|refine q6 ?_|refine q8 ?_|refine q9 ?_|refine q15 ?_)
   refine retQ_ret rfl (by repeat (first|exact List.Sublist.refl _|refine List.Sublist.cons _ ?_)) ⟨Mem.le_refl _, rfl, ?_⟩
   rw [h7]; rfl
  ·skip
   repeat (first|refine q4 tab rfl rfl ?_|refine q5 ?_|refine q6 ?_|refine q8 ?_|refine q9 ?_|refine q15 ?_)
   refine retQ_ret rfl (by repeat (first|exact List.Sublist.refl _|refine List.Sublist.cons _ ?_)) ⟨Mem.le_refl _, rfl, ?_⟩
   rw [h7]; rfl
 rw [if_neg hk]
 have hk2 := hk
 clear hk
 by_cases hk : a.kind = 3
 ·skip
  rw [if_pos hk]
  obtain ⟨k, n, u, s⟩ := h
  obtain rfl : k = 3 := h1.trans hk
  simp only at h2 h3 h4 hl
  subst h2
  subst h3
  repeat (first|refine q1 ?_|refine q3 ?_)
  refine TO.step rfl (OT.box rfl rfl rfl rfl rfl (fun b => ?_))
  repeat (first|(first|refine q1 ?_|refine q2 ?_|refine q3 ?_|refine q4 tab rfl rfl ?_|refine q5 ?_|refine q6 ?_|refine q16 rfl ?_|refine q17 rfl ?_)|(first|refine qs rfl (ql tab 0 rfl rfl rfl rfl rfl rfl ?_)|refine qs rfl (qz tab 0 rfl rfl rfl rfl rfl rfl ?_)))
  refine TO.step rfl (OT.call rfl rfl rfl rfl rfl rfl goes43 ((of_law _ _ ⟨3, a.name, a.num, s⟩ a hr' hB 3).x ?_));
  rintro _ _ _ ⟨rfl, rfl, rfl⟩
  repeat (refine q4 tab rfl rfl ?_)
  refine TO.split rfl rfl (fun h7 => ?_) (fun h7 => ?_)
  ·repeat (first|(refine q4 tab rfl rfl ?_)|(refine qs rfl (ql tab 0 rfl rfl rfl rfl rfl rfl ?_)))
   refine TO.step rfl (OT.call rfl rfl rfl rfl rfl rfl goes26 ((pall_law _ _ s a.kids h4 47 (fieldS Tree.isSig) hF2).x ?_));
   rintro _ _ _ ⟨rfl, rfl, rfl⟩
   repeat (first|refine q4 tab rfl rfl ?_|refine q5 ?_|refine q6 ?_|refine q8 ?_|refine q9 ?_|refine q15 ?_)
   refine retQ_ret rfl (by repeat (first|exact List.Sublist.refl _|refine List.Sublist.cons _ ?_)) ⟨Mem.le_refl _, rfl, ?_⟩
   rw [h7]; rfl
  ·skip
   repeat (first|refine q4 tab rfl rfl ?_|refine q5 ?_|refine q6 ?_|refine q8 ?_|refine q9 ?_|refine q15 ?_)
   refine retQ_ret rfl (by repeat (first|exact List.Sublist.refl _|refine List.Sublist.cons _ ?_)) ⟨Mem.le_refl _, rfl, ?_⟩
   rw [h7]; rfl
 rw [if_neg hk]
 have hk3 := hk
 clear hk
 by_cases hk : a.kind = 4
 ·skip
  rw [if_pos hk]
  obtain ⟨k, n, u, s⟩ := h
  obtain rfl : k = 4 := h1.trans hk
  simp only at h2 h3 h4 hl
  subst h2
  subst h3
  repeat (first|refine q1 ?_|refine q3 ?_)
  refine TO.step rfl (OT.box rfl rfl rfl rfl rfl (fun b => ?_))
  repeat (first|(first|refine q1 ?_|refine q2 ?_|refine q3 ?_|refine q4 tab rfl rfl ?_|refine q5 ?_|refine q6 ?_|refine q16 rfl ?_|refine q17 rfl ?_)|(first|refine qs rfl (ql tab 0 rfl rfl rfl rfl rfl rfl ?_)|refine qs rfl (qz tab 0 rfl rfl rfl rfl rfl rfl ?_)))
  refine TO.step rfl (OT.call rfl rfl rfl rfl rfl rfl goes43 ((of_law _ _ ⟨4, a.name, a.num, s⟩ a hr' hB 4).x ?_));
  rintro _ _ _ ⟨rfl, rfl, rfl⟩
  repeat (refine q4 tab rfl rfl ?_)
  refine TO.split rfl rfl (fun h7 => ?_) (fun h7 => ?_)
  ·repeat ((refine qs rfl (qz tab 0 rfl rfl rfl rfl rfl rfl ?_)))
   refine TO.step rfl (OT.litR tab rFn (hs := [48, 49]) (l := [48, 49]) ⟨rfl, rfl, trivial⟩ rfl rfl rfl rfl rfl (by decide) (fun s1 m1 hm1 hs1 _ _ => ?_))
   skip
   refine TO.step rfl (OT.call rfl rfl rfl rfl rfl rfl goes45 ((kids_law m1 _ ⟨4, a.name, a.num, s⟩ a (hr'.mono hm1) s1 [(48, Tree.isSig), (49, g.block)] none hs1 (pr2 hSg hK) po0).x ?_));
   rintro _ _ _ ⟨rfl, rfl, rfl⟩
   repeat (first|refine q4 tab rfl rfl ?_|refine q5 ?_|refine q6 ?_|refine q8 ?_|refine q9 ?_|refine q15 ?_)
   refine retQ_ret rfl (by repeat (first|exact List.Sublist.refl _|refine List.Sublist.cons _ ?_)) ⟨hm1, rfl, ?_⟩
   rw [h7]; rfl
  ·skip
   repeat (first|refine q4 tab rfl rfl ?_|refine q5 ?_|refine q6 ?_|refine q8 ?_|refine q9 ?_|refine q15 ?_)
   refine retQ_ret rfl (by repeat (first|exact List.Sublist.refl _|refine List.Sublist.cons _ ?_)) ⟨Mem.le_refl _, rfl, ?_⟩
   rw [h7]; rfl
 rw [if_neg hk]
 have hk4 := hk
 clear hk
 by_cases hk : a.kind = 5
 ·skip
  rw [if_pos hk]
  obtain ⟨k, n, u, s⟩ := h
  obtain rfl : k = 5 := h1.trans hk
  simp only at h2 h3 h4 hl
  subst h2
  subst h3
  repeat (first|refine q1 ?_|refine q3 ?_)
  refine TO.step rfl (OT.box rfl rfl rfl rfl rfl (fun b => ?_))
  repeat (first|(first|refine q1 ?_|refine q2 ?_|refine q3 ?_|refine q4 tab rfl rfl ?_|refine q5 ?_|refine q6 ?_|refine q16 rfl ?_|refine q17 rfl ?_)|(first|refine qs rfl (ql tab 0 rfl rfl rfl rfl rfl rfl ?_)|refine qs rfl (qz tab 0 rfl rfl rfl rfl rfl rfl ?_)))
  refine TO.step rfl (OT.call rfl rfl rfl rfl rfl rfl goes43 ((of_law _ _ ⟨5, a.name, a.num, s⟩ a hr' hB 5).x ?_));
  rintro _ _ _ ⟨rfl, rfl, rfl⟩
  repeat (refine q4 tab rfl rfl ?_)
  refine TO.split rfl rfl (fun h7 => ?_) (fun h7 => ?_)
  ·repeat ((refine qs rfl (qz tab 0 rfl rfl rfl rfl rfl rfl ?_)))
   refine TO.step rfl (OT.litR tab rFn (hs := [50, 48, 49]) (l := [50, 48, 49]) ⟨rfl, rfl, rfl, trivial⟩ rfl rfl rfl rfl rfl (by decide) (fun s1 m1 hm1 hs1 _ _ => ?_))
   skip
   refine TO.step rfl (OT.call rfl rfl rfl rfl rfl rfl goes45 ((kids_law m1 _ ⟨5, a.name, a.num, s⟩ a (hr'.mono hm1) s1 [(50, recvS), (48, Tree.isSig), (49, g.block)] none hs1 (pr3 hR hSg hK) po0).x ?_));
   rintro _ _ _ ⟨rfl, rfl, rfl⟩
   repeat (first|refine q4 tab rfl rfl ?_|refine q5 ?_|refine q6 ?_|refine q8 ?_|refine q9 ?_|refine q15 ?_)
   refine retQ_ret rfl (by repeat (first|exact List.Sublist.refl _|refine List.Sublist.cons _ ?_)) ⟨hm1, rfl, ?_⟩
   rw [h7]; rfl
  ·skip
   repeat (first|refine q4 tab rfl rfl ?_|refine q5 ?_|refine q6 ?_|refine q8 ?_|refine q9 ?_|refine q15 ?_)
   refine retQ_ret rfl (by repeat (first|exact List.Sublist.refl _|refine List.Sublist.cons _ ?_)) ⟨Mem.le_refl _, rfl, ?_⟩
   rw [h7]; rfl
 rw [if_neg hk]
 repeat (first|refine q1 ?_|refine q3 ?_)
 refine TO.step rfl (OT.box rfl rfl rfl rfl rfl (fun b => ?_))
 repeat (first|(first|refine q1 ?_|refine q2 ?_|refine q3 ?_|refine q4 tab rfl rfl ?_|refine q5 ?_|refine q6 ?_)|(refine qs rfl (ql tab 0 rfl rfl rfl rfl rfl rfl ?_)))
 refine TC.condP rfl (fun h5 => ?_) (fun h5 => ?_)
 ·omega
 repeat (first|refine q1 ?_|refine q3 ?_|refine q4 tab rfl rfl ?_|refine q5 ?_|refine q6 ?_)
 refine TC.condP rfl (fun h5 => ?_) (fun h5 => ?_)
 ·omega
 repeat (first|refine q1 ?_|refine q3 ?_|refine q4 tab rfl rfl ?_|refine q5 ?_|refine q6 ?_)
 refine TC.condP rfl (fun h5 => ?_) (fun h5 => ?_)
 ·omega
 repeat (first|refine q1 ?_|refine q3 ?_|refine q4 tab rfl rfl ?_|refine q5 ?_|refine q6 ?_)
 refine TC.condP rfl (fun h5 => ?_) (fun h5 => ?_)
 ·omega
 repeat (first|refine q1 ?_|refine q3 ?_|refine q4 tab rfl rfl ?_|refine q5 ?_|refine q6 ?_|refine q7 ?_|refine q13 ?_|refine q15 ?_)
 exact retQ_ret rfl (by repeat (first|exact List.Sublist.refl _|refine List.Sublist.cons _ ?_)) ⟨Mem.le_refl _, rfl, rfl⟩
set_option maxHeartbeats 1600000 in
theorem sound_law (a : Tree) (m : Mem) (L : List Item) (h : HTree) (hr : TreeRep m h a) (hB : a.bulk ≤ 140737488355328) :
  TCall Tryz.prog 12 ⟨[treeV h]⟩ m L (Ret (.bool (soundB a)) m L) := by
 have hr' := hr
 obtain ⟨h1, h2, h3, h4⟩ := hr
 unfold TCall
 refine TCallX.enter Tryz.func12 rfl 18 rfl ?_
 repeat (first|refine q1 ?_|refine q3 ?_)
 refine TO.step rfl (OT.box rfl rfl rfl rfl rfl (fun b => ?_))
 repeat (first|refine q1 ?_|refine q3 ?_|refine q4 tab rfl rfl ?_|refine q5 ?_|refine q6 ?_)
 refine TO.step rfl (OT.alloc tab rfl rfl rfl rfl (fun b3 => ?_))
 skip
 (refine TO.step rfl (OT.storeL0 tab 0 rfl rfl rfl rfl rfl rfl rfl rfl ?_))
 repeat (first|refine q1 ?_|refine q3 ?_|refine q5 ?_|refine q6 ?_)
 refine TO.step rfl (OT.loadL0 tab 1 rfl rfl rfl rfl rfl rfl ?_)
 skip
 refine TO.step rfl (OT.call rfl rfl rfl rfl rfl rfl goes20 ((fits_law a m _ h b3 1 20000 hr' (by decide) (by decide) (by decide) (by decide)).x ?_));
 rintro _ _ _ ⟨rfl, ⟨rfl, k1, k2, rfl⟩ | ⟨rfl, k1, n, rfl⟩⟩
 ·have e1 : (decide (a.size ≤ 20000) && decide (a.deep ≤ 100)) = true := by rw [decide_eq_true (by omega), decide_eq_true (by omega)]; rfl
  unfold soundB
  rw [e1, Bool.true_and, ← h1]
  have hD : IsPred 27 (declS (sg 100)) a.kids := by
   refine ⟨goes27, fun m L x c hc hrc => ?_⟩
   have hBc := Nat.le_trans (Nat.le_of_lt (bulk_kid hc)) hB
   refine decl_teller _ c m L x hrc hBc ⟨goes49, fun m L y d hd hrd => ?_⟩
   exact (sg_tellers 100 d (by have := deep_kid hc; have := deep_kid hd; omega) (Nat.le_trans (Nat.le_of_lt (bulk_kid hd)) hBc) m L y hrd).block
  repeat (refine q4 tab rfl rfl ?_)
  refine TO.step rfl (OT.loadL0 tab 1 rfl rfl rfl rfl rfl rfl ?_)
  repeat (first|(refine q4 tab rfl rfl ?_)|(refine qs rfl (ql tab 1 rfl rfl rfl rfl rfl rfl ?_)))
  refine TO.step rfl (OT.call rfl rfl rfl rfl rfl rfl goes25 ((bare_law _ _ h a hr' (decide (h.kind = 1)) false false).x ?_));
  rintro _ _ _ ⟨rfl, rfl, rfl⟩
  repeat (refine q4 tab rfl rfl ?_)
  refine TO.split rfl rfl (fun h7 => ?_) (fun h7 => ?_)
  ·repeat (first|(refine q4 tab rfl rfl ?_)|(refine qs rfl (ql tab 1 rfl rfl rfl rfl rfl rfl ?_)))
   refine TO.step rfl (OT.call rfl rfl rfl rfl rfl rfl goes26 ((pall_law _ _ h.kids a.kids h4 27 (declS (sg 100)) hD).x ?_));
   rintro _ _ _ ⟨rfl, rfl, rfl⟩
   repeat (first|refine q4 tab rfl rfl ?_|refine q5 ?_|refine q6 ?_|refine q15 ?_)
   refine retQ_ret rfl (by repeat (first|exact List.Sublist.refl _|refine List.Sublist.cons _ ?_)) ⟨rfl, rfl, ?_⟩
   rw [h7]; rfl
  ·repeat (first|refine q4 tab rfl rfl ?_|refine q5 ?_|refine q6 ?_|refine q15 ?_)
   refine retQ_ret rfl (by repeat (first|exact List.Sublist.refl _|refine List.Sublist.cons _ ?_)) ⟨rfl, rfl, ?_⟩
   rw [h7]; rfl
 ·have e1 : (decide (a.size ≤ 20000) && decide (a.deep ≤ 100)) = false := by
   rw [← Bool.decide_and, decide_eq_false (fun hh => k1 ⟨by omega, by omega⟩)]
  unfold soundB
  rw [e1]
  repeat (first|refine q4 tab rfl rfl ?_|refine q5 ?_|refine q6 ?_|refine q15 ?_)
  refine retQ_ret rfl (by repeat (first|exact List.Sublist.refl _|refine List.Sublist.cons _ ?_)) ⟨rfl, rfl, ?_⟩
  rfl
end Go.Sep


/- PsTerm -/
set_option linter.unusedVariables false
set_option linter.unusedSimpArgs false
namespace Go.Ps
open Go.Sep (Tree Str)
variable {α β : Type}
section
variable (M : Nat) (f : F)
structure Run (st : Bool) (k0 : Nat) (p : Pp α) : Prop where
 out : ∀ k, k0 ≤ k → k ≤ M → p f k ≠ .out
 ok : ∀ k, k0 ≤ k → k ≤ M → ∀ a k', p f k = .ok a k' → k ≤ k' ∧ k' ≤ M ∧ (st = true → k < k')
end
section
variable {M : Nat} {f : F}
theorem Run.vac {st : Bool} {k0 : Nat} {p : Pp α} (h : M < k0) : Run M f st k0 p := ⟨fun k h1 h2 => (by omega), fun k h1 h2 => (by omega)⟩
theorem Run.up {st : Bool} {k0 k1 : Nat} {p : Pp α} (h : Run M f st k0 p) (hk : k0 ≤ k1) : Run M f st k1 p := ⟨fun k h1 h2 => h.out k (by omega) h2, fun k h1 h2 => h.ok k (by omega) h2⟩
theorem Run.lax {st : Bool} {k0 : Nat} {p : Pp α} (h : Run M f st k0 p) : Run M f false k0 p := ⟨h.out, fun k h1 h2 a k' h3 => ⟨(h.ok k h1 h2 a k' h3).1, (h.ok k h1 h2 a k' h3).2.1, fun e => (by cases e)⟩⟩
theorem Run.ret {k0 : Nat} (a : α) : Run M f false k0 (ret a) := ⟨fun k _ _ h => (by cases h), fun k h1 h2 a k' h => (by injection h with _ h; subst h; exact ⟨Nat.le_refl _, h2, fun e => (by cases e)⟩)⟩
theorem Run.fail {st : Bool} {k0 : Nat} : Run M f st k0 (fail : Pp α) := ⟨fun k _ _ h => (by cases h), fun k h1 h2 a k' h => (by cases h)⟩
theorem Run.bind {s1 s2 : Bool} {k0 : Nat} {p : Pp α} {g : α → Pp β} (hp : Run M f s1 k0 p) (hg : ∀ a, Run M f s2 (bif s1 then k0 + 1 else k0) (g a)) : Run M f (s1 || s2) k0 (bind p g) := by
 have hb : ∀ k, k0 ≤ k → k ≤ M → ∀ a k1, p f k = .ok a k1 → (bif s1 then k0 + 1 else k0) ≤ k1 := fun k h1 h2 a k1 hx => by
  have := hp.ok k h1 h2 a k1 hx
  cases s1 with
  | true => have := this.2.2 rfl; show k0 + 1 ≤ k1; omega
  | false => show k0 ≤ k1; omega
 refine ⟨fun k h1 h2 h => ?_, fun k h1 h2 b k' h => ?_⟩
 ·unfold Ps.bind at h
  cases hx : p f k with
  | ok a k1 =>
   simp only [hx] at h
   exact (hg a).out k1 (hb k h1 h2 a k1 hx) (hp.ok k h1 h2 a k1 hx).2.1 h
  | bad k1 => simp only [hx] at h; cases h
  | out => exact hp.out k h1 h2 hx
 ·unfold Ps.bind at h
  cases hx : p f k with
  | ok a k1 =>
   simp only [hx] at h
   have q1 := hp.ok k h1 h2 a k1 hx
   have q2 := (hg a).ok k1 (hb k h1 h2 a k1 hx) q1.2.1 b k' h
   refine ⟨by omega, q2.2.1, fun e => ?_⟩
   cases s1 with
   | true => have := q1.2.2 rfl; omega
   | false => have := q2.2.2 e; omega
  | bad k1 => simp only [hx] at h; cases h
  | out => simp only [hx] at h; cases h
theorem Run.step {st : Bool} {k0 : Nat} {A : Pp α} {k : Nat} (h : Run M f st (k0 + 1) A) (h1 : k0 ≤ k) (hlt : k < M) : A f (k + 1) ≠ .out ∧ ∀ a k', A f (k + 1) = .ok a k' → k < k' ∧ k' ≤ M :=
 ⟨h.out _ (by omega) (by omega), fun a k' hx => (by have := h.ok _ (by omega) (by omega) a k' hx; omega)⟩
theorem isM_some {s : Str} {k : Nat} (h : isM s f k = true) : f k ≠ none := fun e => by unfold isM at h; rw [e] at h; cases h
variable (hf : ∀ i, M ≤ i → f i = none)
include hf
theorem at_lt {k : Nat} (h : f k ≠ none) : k < M := by
 rcases Nat.lt_or_ge k M with h1 | h1
 ·exact h1
 ·exact absurd (hf k h1) h
theorem Run.tok {s1 st : Bool} {k0 : Nat} {s : Str} {A B : Pp α} (hA : Run M f s1 (k0 + 1) A) (hB : Run M f st k0 B) : Run M f st k0 (tok s A B) := by
 refine ⟨fun k h1 h2 h => ?_, fun k h1 h2 a k' h => ?_⟩
 ·unfold Ps.tok at h
  cases hb : isM s f k with
  | true => simp only [hb, cond_true] at h; exact (hA.step h1 (at_lt hf (isM_some hb))).1 h
  | false => simp only [hb, cond_false] at h; exact hB.out k h1 h2 h
 ·unfold Ps.tok at h
  cases hb : isM s f k with
  | true =>
   simp only [hb, cond_true] at h
   have := (hA.step h1 (at_lt hf (isM_some hb))).2 a k' h
   exact ⟨by omega, this.2, fun _ => this.1⟩
  | false => simp only [hb, cond_false] at h; exact hB.ok k h1 h2 a k' h
theorem Run.need {s1 st : Bool} {k0 : Nat} {s : Str} {A : Pp α} (hA : Run M f s1 (k0 + 1) A) : Run M f st k0 (need s A) := Run.tok hf hA Run.fail
theorem Run.tkn {s1 st : Bool} {k0 : Nat} {c : Int} {A : Tk → Pp α} {B : Pp α} (hA : ∀ t, Run M f s1 (k0 + 1) (A t)) (hB : Run M f st k0 B) : Run M f st k0 (tkn c A B) := by
 refine ⟨fun k h1 h2 h => ?_, fun k h1 h2 a k' h => ?_⟩
 ·unfold Ps.tkn at h
  cases hx : f k with
  | none => simp only [hx] at h; exact hB.out k h1 h2 h
  | some t =>
   cases hb : decide (t.kind = c) with
   | true => simp only [hx, hb, cond_true] at h; exact ((hA t).step h1 (at_lt hf (by rw [hx]; exact fun e => (by cases e)))).1 h
   | false => simp only [hx, hb, cond_false] at h; exact hB.out k h1 h2 h
 ·unfold Ps.tkn at h
  cases hx : f k with
  | none => simp only [hx] at h; exact hB.ok k h1 h2 a k' h
  | some t =>
   cases hb : decide (t.kind = c) with
   | true =>
    simp only [hx, hb, cond_true] at h
    have := ((hA t).step h1 (at_lt hf (by rw [hx]; exact fun e => (by cases e)))).2 a k' h
    exact ⟨by omega, this.2, fun _ => this.1⟩
   | false => simp only [hx, hb, cond_false] at h; exact hB.ok k h1 h2 a k' h
theorem Run.name {s1 st : Bool} {k0 : Nat} {A : Str → Pp α} (hA : ∀ t, Run M f s1 (k0 + 1) (A t)) : Run M f st k0 (name A) := Run.tkn hf (fun t => hA t.text) Run.fail
theorem Run.oneOf {s1 st : Bool} {k0 : Nat} {ops : List Str} {A : Str → Pp α} {B : Pp α} (hA : ∀ t, Run M f s1 (k0 + 1) (A t)) (hB : Run M f st k0 B) : Run M f st k0 (oneOf ops A B) := by
 refine ⟨fun k h1 h2 h => ?_, fun k h1 h2 a k' h => ?_⟩
 ·unfold Ps.oneOf at h
  cases hx : ops.find? (fun s => isM s f k) with
  | none => simp only [hx] at h; exact hB.out k h1 h2 h
  | some t => simp only [hx] at h; exact ((hA t).step h1 (at_lt hf (isM_some (List.find?_some (p := fun s => isM s f k) hx)))).1 h
 ·unfold Ps.oneOf at h
  cases hx : ops.find? (fun s => isM s f k) with
  | none => simp only [hx] at h; exact hB.ok k h1 h2 a k' h
  | some t =>
   simp only [hx] at h
   have := ((hA t).step h1 (at_lt hf (isM_some (List.find?_some (p := fun s => isM s f k) hx)))).2 a k' h
   exact ⟨by omega, this.2, fun _ => this.1⟩
omit hf
theorem Run.peek {st : Bool} {k0 : Nat} {q : F → Nat → Bool} {A B : Pp α} (hA : Run M f st k0 A) (hB : Run M f st k0 B) : Run M f st k0 (peek q A B) := by
 refine ⟨fun k h1 h2 h => ?_, fun k h1 h2 a k' h => ?_⟩
 ·unfold Ps.peek at h
  cases hb : q f k with
  | true => simp only [hb, cond_true] at h; exact hA.out k h1 h2 h
  | false => simp only [hb, cond_false] at h; exact hB.out k h1 h2 h
 ·unfold Ps.peek at h
  cases hb : q f k with
  | true => simp only [hb, cond_true] at h; exact hA.ok k h1 h2 a k' h
  | false => simp only [hb, cond_false] at h; exact hB.ok k h1 h2 a k' h
include hf
theorem Run.commas {X : Pp α} : ∀ (j k0 : Nat), M + 1 ≤ j + k0 → Run M f true k0 X → Run M f true k0 (commas j X)
 | 0, k0, h, hX => Run.vac (by omega)
 | j + 1, k0, h, hX => by
  refine Run.bind (s2 := false) hX fun a => Run.tok hf (s1 := true) ?_ (Run.ret _)
  exact Run.bind (s2 := false) (Run.commas j _ (by show M + 1 ≤ j + (k0 + 1 + 1); omega) (hX.up (by show k0 ≤ k0 + 1 + 1; omega))) fun l => Run.ret _
theorem Run.upto {X : Pp α} {s : Str} : ∀ (j k0 : Nat), M + 1 ≤ j + k0 → Run M f true k0 X → Run M f true k0 (upto j s X)
 | 0, k0, h, hX => Run.vac (by omega)
 | j + 1, k0, h, hX => by
  refine Run.tok hf (Run.ret _) (Run.bind (s2 := false) hX fun a => ?_)
  exact (Run.bind (s2 := false) (Run.upto j _ (by show M + 1 ≤ j + (k0 + 1); omega) (hX.up (by show k0 ≤ k0 + 1; omega))) fun l => Run.ret _).lax
theorem Run.loopB {X : Pp Tree} {ops : List Str} : ∀ (j k0 : Nat) (n : Tree), M + 1 ≤ j + k0 → Run M f true k0 X → Run M f false k0 (loopB j ops X n)
 | 0, k0, n, h, hX => Run.vac (by omega)
 | j + 1, k0, n, h, hX => by
  refine Run.oneOf hf (s1 := true) (fun op => ?_) (Run.ret _)
  exact Run.bind (s2 := false) (hX.up (by omega)) fun m => Run.loopB j _ _ (by show M + 1 ≤ j + (k0 + 1 + 1); omega) (hX.up (by show k0 ≤ k0 + 1 + 1; omega))
theorem Run.binL {N : Nat} {U : Pp Tree} {k0 : Nat} (hN : M + 1 ≤ N) (hU : Run M f true k0 U) : ∀ l, Run M f true k0 (binL N U l)
 | [] => hU
 | ops :: rest => Run.bind (s2 := false) (Run.binL hN hU rest) fun n => Run.loopB hf N _ n (by show M + 1 ≤ N + (k0 + 1); omega) ((Run.binL hN hU rest).up (by show k0 ≤ k0 + 1; omega))
theorem Run.inP {N : Nat} {s : Str} {X : Pp α} {k0 : Nat} (hN : M + 1 ≤ N) (hX : Run M f true k0 X) : Run M f true k0 (inP N s X) := by
 refine Run.tok hf (Run.ret _) (Run.bind (s2 := true) (Run.commas hf N k0 (by omega) hX) fun l => Run.need hf (Run.ret _))
theorem Run.results {N : Nat} {typ : Pp Tree} {k0 : Nat} (hN : M + 1 ≤ N) (h : Run M f true k0 typ) : Run M f false k0 (resultsP N typ) := by
 refine Run.tok hf (s1 := true) (Run.bind (s2 := true) (Run.commas hf N _ (by omega) (h.up (by omega))) fun l => Run.need hf (Run.ret _)) (Run.peek (Run.bind (s2 := false) h fun t => Run.ret _).lax (Run.ret _))
theorem Run.sigLike {N : Nat} {kind : Int} {X typ : Pp Tree} {k0 : Nat} (hN : M + 1 ≤ N) (hX : Run M f true (k0 + 1) X) (h : Run M f true (k0 + 1) typ) : Run M f true k0 (sigLike N kind X typ) :=
 Run.need hf (s1 := true) (Run.bind (s2 := false) (Run.inP hf hN hX) fun ps => Run.bind (s2 := false) (Run.results hf hN (h.up (by show k0 + 1 ≤ k0 + 1 + 1; omega))) fun rs => Run.ret _)
theorem Run.param {typ : Pp Tree} {k0 : Nat} (h : Run M f true (k0 + 1) typ) : Run M f true k0 (paramP typ) := Run.name hf (s1 := true) fun s => Run.bind (s2 := false) h fun t => Run.ret _
theorem Run.sig {N : Nat} {typ : Pp Tree} {k0 : Nat} (hN : M + 1 ≤ N) (h : Run M f true (k0 + 1) typ) : Run M f true k0 (sigP N typ) := Run.sigLike hf hN (Run.param hf (h.up (by omega))) h
structure GRun (g : Gr) (n k0 : Nat) : Prop where
 typ : 3 * M + 1 ≤ n + 3 * k0 → Run M f true k0 g.typ
 block : 3 * M + 1 ≤ n + 3 * k0 → Run M f true k0 g.block
 branch : 3 * M + 1 ≤ n + 3 * k0 → Run M f true k0 g.branch
 unary : ∀ b, 3 * M + 1 ≤ n + 3 * k0 → Run M f true k0 (g.unary b)
 expr : ∀ b, 3 * M + 2 ≤ n + 3 * k0 → Run M f true k0 (g.expr b)
 stmt : 3 * M + 3 ≤ n + 3 * k0 → Run M f true k0 g.stmt
omit hf
theorem Run.bret {s1 : Bool} {k0 : Nat} {p : Pp α} (g : α → β) (hp : Run M f s1 k0 p) : Run M f s1 k0 (Ps.bind p fun a => Ps.ret (g a)) := by
 have := Run.bind (s2 := false) hp fun a => Run.ret (g a)
 rwa [Bool.or_false] at this
theorem Run.bind1 {k0 : Nat} {p : Pp α} {g : α → Pp β} (hp : Run M f true k0 p) (hg : ∀ a, Run M f false (k0 + 1) (g a)) : Run M f true k0 (Ps.bind p g) := Run.bind hp hg
include hf
theorem Run.tokIf {s1 st c : Bool} {k0 : Nat} {s : Str} {A B : Pp α} (hA : Run M f s1 (k0 + 1) A) (hB : Run M f st k0 B) : Run M f st k0 (tokIf c s A B) := by
 cases c with
 | true => exact Run.tok hf hA hB
 | false => exact hB
section
variable {N : Nat} (hN : M + 1 ≤ N)
include hN
theorem Run.typP {typ : Pp Tree} {k0 : Nat} (h : Run M f true (k0 + 1) typ) : Run M f true k0 (typP N typ) :=
 Run.tok hf (Run.bret _ h) (Run.tok hf (s1 := true) (Run.need hf (Run.bret _ (h.up (by omega)))) (Run.tok hf (Run.sigLike hf hN (h.up (by omega)) (h.up (by omega))) (Run.name hf fun s => Run.ret _)))
omit hN in
theorem Run.fieldP {mb : Pp Tree} {k0 : Nat} (h : Run M f true (k0 + 1) mb) : Run M f true k0 (fieldP mb) :=
 Run.name hf (s1 := true) fun s => Run.bind1 h fun t => Run.need hf (s1 := false) (Run.ret _)
theorem Run.bodyP {kind : Int} {nm : Str} {mb : Pp Tree} {k0 : Nat} (h : Run M f true (k0 + 1) mb) : Run M f true k0 (bodyP N kind nm mb) :=
 Run.need hf (s1 := true) (Run.bret _ (Run.upto hf N _ (by omega) (Run.fieldP hf (h.up (by omega)))))
theorem Run.typeDeclP {typ : Pp Tree} {k0 : Nat} (h : Run M f true (k0 + 1) typ) : Run M f true k0 (typeDeclP N typ) :=
 Run.name hf (s1 := true) fun nm => Run.tok hf (Run.bodyP hf hN (Run.sig hf hN (h.up (by omega)))) (Run.need hf (Run.bodyP hf hN (h.up (by omega))))
theorem Run.declP {typ block : Pp Tree} {k0 : Nat} (h : Run M f true (k0 + 1) typ) (hb : Run M f true (k0 + 1) block) : Run M f true k0 (declP N typ block) := by
 refine Run.tok hf (Run.typeDeclP hf hN (h.up (by omega))) (Run.need hf (s1 := true) (Run.tok hf (s1 := true) ?_ ?_))
 ·refine Run.name hf (s1 := true) fun recv => Run.need hf (s1 := true) (Run.name hf (s1 := true) fun of => Run.need hf (s1 := true) (Run.name hf (s1 := true) fun nm => ?_))
  exact Run.bind1 (Run.sig hf hN (h.up (by omega))) fun s => (Run.bret _ (hb.up (by omega))).lax
 ·refine Run.name hf (s1 := true) fun nm => ?_
  exact Run.bind1 (Run.sig hf hN (h.up (by omega))) fun s => (Run.bret _ (hb.up (by omega))).lax
theorem Run.blockP {stmt : Pp Tree} {k0 : Nat} (h : Run M f true (k0 + 1) stmt) : Run M f true k0 (blockP N stmt) :=
 Run.need hf (s1 := true) (Run.bret _ (Run.upto hf N _ (by omega) h))
omit hN in
theorem Run.branchP {expr block branch : Pp Tree} {k0 : Nat} (he : Run M f true (k0 + 1) expr) (hb : Run M f true (k0 + 1) block) (hr : Run M f true (k0 + 1) branch) : Run M f true k0 (branchP expr block branch) := by
 refine Run.need hf (s1 := true) (Run.bind1 he fun c => Run.lax (Run.bind1 (hb.up (by omega)) fun b => Run.tok hf (s1 := true) (Run.peek ?_ ?_) (Run.ret _)))
 ·exact Run.bret _ (hr.up (by omega))
 ·exact Run.bret _ (hb.up (by omega))
omit hf hN in
theorem Run.forP {expr block : Pp Tree} {k0 : Nat} (he : Run M f true k0 expr) (hb : Run M f true k0 block) : Run M f true k0 (forP expr block) :=
 Run.peek (Run.bret _ hb) (Run.bind1 he fun c => (Run.bret _ (hb.up (by omega))).lax)
theorem Run.assignP {expr : Pp Tree} {left : List Tree} {k0 : Nat} (he : Run M f true (k0 + 1) expr) : Run M f false k0 (assignP N expr left) := by
 refine Run.tokIf hf (Run.bret _ (Run.commas hf N _ (by omega) he)) (Run.tokIf hf (Run.bret _ (Run.commas hf N _ (by omega) he)) ?_)
 cases isC1 left with
 | true => exact Run.peek (Run.ret _) Run.fail
 | false => exact Run.fail
theorem Run.simpleP {typ expr : Pp Tree} {k0 : Nat} (h : Run M f true (k0 + 1) typ) (he : Run M f true k0 expr) : Run M f true k0 (simpleP N typ expr) := by
 refine Run.tok hf (s1 := true) (Run.name hf (s1 := true) fun s => Run.bind1 (h.up (by omega)) fun t => Run.tok hf (Run.bret _ (he.up (by omega))) (Run.ret _)) ?_
 refine Run.tok hf (s1 := false) (Run.peek (Run.ret _) (Run.bret _ (Run.commas hf N _ (by omega) (he.up (by omega)))).lax) ?_
 refine Run.tok hf (Run.ret _) (Run.tok hf (Run.ret _) ?_)
 exact Run.bind1 (Run.commas hf N _ (by omega) he) fun l => Run.assignP hf hN (he.up (by omega))
theorem Run.exprsP {s : Str} {expr : Pp Tree} {k0 : Nat} (he : Run M f true k0 expr) : Run M f true k0 (exprsP N s expr) := Run.inP hf hN he
omit hN
theorem Run.cutP {expr : Pp Tree} {num : Int} {ks : List Tree} {k0 : Nat} (he : Run M f true (k0 + 1) expr) : Run M f true k0 (cutP expr num ks) :=
 Run.need hf (s1 := true) (Run.tok hf (Run.ret _) (Run.bind1 he fun e => Run.need hf (Run.ret _)))
theorem Run.indexP {expr : Pp Tree} {n : Tree} {k0 : Nat} (he : Run M f true k0 expr) : Run M f true k0 (indexP expr n) :=
 Run.peek (Run.cutP hf (he.up (by omega))) (Run.bind1 he fun e => Run.tok hf (Run.ret _) (Run.cutP hf (he.up (by omega))).lax)
include hN
theorem Run.postP {expr : Pp Tree} : ∀ (j k0 : Nat) (n : Tree), M + 1 ≤ j + k0 → Run M f true (k0 + 1) expr → Run M f false k0 (postP N expr j n)
 | 0, k0, n, h, he => Run.vac (by omega)
 | j + 1, k0, n, h, he => by
  refine Run.tok hf (s1 := true) (Run.name hf fun s => Run.postP j _ _ (by omega) (he.up (by omega))) ?_
  refine Run.tok hf (s1 := true) (Run.bind1 (Run.indexP hf he) fun t => Run.postP j _ _ (by omega) (he.up (by omega))) ?_
  exact Run.tok hf (s1 := true) (Run.bind1 (Run.exprsP hf hN he) fun l => Run.postP j _ _ (by omega) (he.up (by omega))) (Run.ret _)
theorem Run.primP {typ block expr : Pp Tree} {h : Bool} {k0 : Nat} (ht : Run M f true (k0 + 1) typ) (hb : Run M f true (k0 + 1) block) (he : Run M f true (k0 + 1) expr) : Run M f true k0 (primP N typ block expr h) := by
 refine Run.tkn hf (fun t => Run.ret _) (Run.tkn hf (fun t => Run.ret _) (Run.tok hf (Run.ret _) (Run.tok hf (Run.ret _) (Run.tok hf (Run.ret _) ?_))))
 refine Run.tok hf (Run.bind1 he fun t => Run.need hf (Run.ret _)) ?_
 refine Run.tok hf (s1 := true) (Run.need hf (s1 := true) (Run.bind1 (ht.up (by omega)) fun t => Run.need hf (s1 := true) (Run.bret _ (Run.exprsP hf hN (he.up (by omega)))))) ?_
 refine Run.tok hf (s1 := true) (Run.bind1 (Run.sig hf hN (ht.up (by omega))) fun s => (Run.bret _ (hb.up (by omega))).lax) ?_
 refine Run.name hf (s1 := false) fun s => ?_
 cases h with
 | true => exact Run.ret _
 | false => exact Run.tok hf (Run.bret _ (Run.exprsP hf hN (he.up (by omega)))) (Run.ret _)
theorem GRun.all : ∀ (n k0 : Nat), GRun (M := M) (f := f) (gr N n) n k0
 | 0, k0 => ⟨fun h => Run.vac (by omega), fun h => Run.vac (by omega), fun h => Run.vac (by omega), fun b h => Run.vac (by omega), fun b h => Run.vac (by omega), fun h => Run.vac (by omega)⟩
 | n + 1, k0 => by
  have IH := GRun.all n
  refine ⟨fun h => ?_, fun h => ?_, fun h => ?_, fun b h => ?_, fun b h => ?_, fun h => ?_⟩
  ·exact Run.typP hf hN ((IH (k0 + 1)).typ (by omega))
  ·exact Run.blockP hf hN ((IH (k0 + 1)).stmt (by omega))
  ·exact Run.branchP hf ((IH (k0 + 1)).expr _ (by omega)) ((IH (k0 + 1)).block (by omega)) ((IH (k0 + 1)).branch (by omega))
  ·refine Run.oneOf hf (fun op => Run.bret _ ((IH (k0 + 1)).unary b (by omega))) ?_
   exact Run.bind1 (Run.primP hf hN ((IH (k0 + 1)).typ (by omega)) ((IH (k0 + 1)).block (by omega)) ((IH (k0 + 1)).expr _ (by omega))) fun t => Run.postP hf hN N _ _ (by omega) ((IH (k0 + 1 + 1)).expr _ (by omega))
  ·exact Run.binL hf hN ((IH k0).unary b (by omega)) _
  ·refine Run.peek ((IH k0).block (by omega)) (Run.peek ((IH k0).branch (by omega)) (Run.tok hf (Run.forP ((IH (k0 + 1)).expr _ (by omega)) ((IH (k0 + 1)).block (by omega))) ?_))
   exact Run.bind1 (Run.simpleP hf hN ((IH (k0 + 1)).typ (by omega)) ((IH k0).expr _ (by omega))) fun s => Run.need hf (Run.ret _)
theorem Run.declG {n k0 : Nat} (h : 3 * M + 1 ≤ n + 3 * (k0 + 1)) : Run M f true k0 (declG N n) :=
 Run.declP hf hN ((GRun.all hf hN n (k0 + 1)).typ h) ((GRun.all hf hN n (k0 + 1)).block h)
end
omit hf in
theorem Run.progL {decl : Pp Tree} : ∀ (j k0 : Nat), M + 1 ≤ j + k0 → Run M f true k0 decl → Run M f false k0 (progL decl j)
 | 0, k0, h, hd => Run.vac (by omega)
 | j + 1, k0, h, hd => by
  have hr : Run M f false k0 (Ps.bind decl fun a => Ps.bind (Ps.progL decl j) fun l => Ps.ret (a :: l)) := (Run.bind1 hd fun a => Run.bret _ (Run.progL j (k0 + 1) (by omega) (hd.up (by omega)))).lax
  refine ⟨fun k h1 h2 h => ?_, fun k h1 h2 a k' h => ?_⟩
  ·unfold Ps.progL at h
   cases hb : (f k).isNone with
   | true => simp only [hb, cond_true] at h; cases h
   | false => simp only [hb, cond_false] at h; exact hr.out k h1 h2 h
  ·unfold Ps.progL at h
   cases hb : (f k).isNone with
   | true => simp only [hb, cond_true] at h; injection h with _ h; subst h; exact ⟨Nat.le_refl _, h2, fun e => (by cases e)⟩
   | false => simp only [hb, cond_false] at h; exact hr.ok k h1 h2 a k' h
theorem Run.program : Run M f false 0 (program M) := Run.progL (M + 1) 0 (by omega) (Run.declG hf (Nat.le_refl _) (by omega))
end
end Go.Ps


/- PsFin -/
namespace Go.Sep
theorem tkF_none (l : List Tok) : ∀ i, l.length ≤ i → tkF l i = none := fun i h => by unfold tkF; rw [List.getElem?_eq_none h]
theorem program_ne (l : List Tok) : Ps.program l.length (tkF l) 0 ≠ .out := (Ps.Run.program (tkF_none l)).out 0 (Nat.le_refl _) (Nat.zero_le _)
end Go.Sep


/- PsAwake -/
set_option linter.unusedVariables false
set_option linter.unusedSimpArgs false
namespace Go.Sep
open Go.Proofs
attribute [local irreducible] TC TO OT TCallX TCall DO DOt thenQ blockQ retQ At
def awakeS : Str := [102, 117, 110, 99, 32, 109, 97, 105, 110, 40, 41, 123, 112, 114, 105, 110, 116, 40, 49, 41, 59, 125]
def awakeT : Tree := .mk 1 [] 0 [.mk 4 [109, 97, 105, 110] 0 [.mk 7 [] 0 [], .mk 20 [] 0 [.mk 24 [] 0 [.mk 51 [] 0 [.mk 44 [112, 114, 105, 110, 116] 0 [], .mk 40 [] 1 []]]]]]
theorem parse_a : parseD awakeS = ⟨awakeT, 0, 0⟩ := by kernel_rfl
theorem sound_a : soundB awakeT = true := by kernel_rfl
set_option maxHeartbeats 1000000 in
theorem awake_law (m : Mem) (L : List Item) (hE : Errs m) : TCall Tryz.prog 10 ⟨[]⟩ m L (Made m L fun r _ => r = .bool true) := by
 unfold TCall
 refine TCallX.enter Tryz.func10 rfl 38 rfl ?_
 repeat (first|refine q1 ?_|refine q3 ?_|refine q4 tab rfl rfl ?_|refine q5 ?_|refine q6 ?_)
 refine TO.step rfl (OT.call rfl rfl rfl rfl rfl rfl goes8 ((parse_law program_ne _ _ awakeS hE).x ?_));
 rw [parse_a]
 rintro _ m1 _ ⟨hm1, rfl, x, rfl, hx⟩
 have hx' := hx
 obtain ⟨h1, h2, h3, h4⟩ := hx
 obtain ⟨k, n, u, ⟨sa, sn, sc⟩⟩ := x
 obtain rfl : k = 1 := h1
 obtain rfl : sn = 1 := h4.len
 repeat (refine q4 tab rfl rfl ?_)
 refine TO.step rfl (OT.alloc tab rfl rfl rfl rfl (fun b => ?_))
 skip
 (refine TO.step rfl (OT.storeL0 tab 0 rfl rfl rfl rfl rfl rfl rfl rfl ?_))
 repeat (first|(first|refine q1 ?_|refine q3 ?_|refine q4 tab rfl rfl ?_|refine q5 ?_|refine q6 ?_)|(refine qs rfl (ql tab 0 rfl rfl rfl rfl rfl rfl ?_)))
 have hxk : awakeT.kids[0]? = some (.mk 4 [109, 97, 105, 110] 0 [.mk 7 [] 0 [], .mk 20 [] 0 [.mk 24 [] 0 [.mk 51 [] 0 [.mk 44 [112, 114, 105, 110, 116] 0 [], .mk 40 [] 1 []]]]]) := rfl
 refine TO.step rfl (OT.index tab rTree 0 h4 rfl rfl rfl rfl rfl (by first | rfl | omega | (simp only; omega)) rfl hxk ?_)
 rintro b' i hd hrd hA
 obtain ⟨g1, g2, g3, g4⟩ := rTree_iff.1 hrd
 repeat ((refine q4 tab rfl rfl ?_))
 (refine TO.step rfl (OT.loadA tab hA rfl rfl rfl rfl rfl ?_))
 obtain ⟨k', n', u', s'⟩ := hd
 obtain rfl : n' = [109, 97, 105, 110] := g2
 repeat (first|(refine q4 tab rfl rfl ?_)|(refine qs rfl (qz tab 0 rfl rfl rfl rfl rfl rfl ?_)))
 refine TO.step rfl (OT.call rfl rfl rfl rfl rfl rfl goes12 ((sound_law awakeT _ _ ⟨1, n, u, ⟨sa, 1, sc⟩⟩ hx' (by decide)).x ?_));
 rw [sound_a]
 rintro _ _ _ ⟨rfl, rfl, rfl⟩
 repeat (first|refine q4 tab rfl rfl ?_|refine q5 ?_|refine q6 ?_|refine q15 ?_)
 refine retQ_ret rfl (by repeat (first|exact List.Sublist.refl _|refine List.Sublist.cons _ ?_)) ⟨hm1, rfl, rfl⟩
end Go.Sep


/- PrSize -/
set_option linter.unusedVariables false
set_option linter.unusedSimpArgs false
namespace Go.Sep
open Go.Proofs
attribute [local irreducible] TC TO OT TCallX TCall DO DOt thenQ blockQ retQ At
theorem sizeL_mem : ∀ {l : List Tree} {t : Tree}, t ∈ l → t.size ≤ sizeL l
 | x :: xs, t, h => by
  rcases List.mem_cons.1 h with rfl | h
  ·simp only [sizeL]; omega
  ·have := sizeL_mem h; simp only [sizeL]; omega
theorem size_kid {a t : Tree} (h : t ∈ a.kids) : t.size ≤ a.size := by
 obtain ⟨k, n, u, ks⟩ := a
 have := sizeL_mem h
 simp only [Tree.kids, Tree.size] at *
 omega
set_option maxHeartbeats 800000 in
theorem size_ref (a : Tree) : ∀ (m : Mem) (L : List Item) (h : HTree) (hr : TreeRep m h a) (hB : a.size ≤ 1048576), TCall Tryz.prog 24 ⟨[treeV h]⟩ m L (Ret (.tuple ⟨[.int .i64 (a.size : Int), .int .i64 (a.deep : Int)]⟩) m L) := by
 induction a using Tree.ind with
 | h a ih =>
 intro m L h hr hB
 obtain ⟨h1, h2, h3, h4⟩ := hr
 have hl := h4.len
 have hsm := h4.small rfl
 have hbl := len_sizeL a.kids
 have hbk := size_kids a
 unfold TCall
 refine TCallX.enter Tryz.func24 rfl 35 rfl ?_
 repeat (first|refine q1 ?_|refine q3 ?_)
 refine TO.step rfl (OT.box rfl rfl rfl rfl rfl (fun b => ?_))
 repeat (first|refine q1 ?_|refine q2 ?_|refine q3 ?_|refine q4 tab rfl rfl ?_|refine q5 ?_|refine q6 ?_)
 refine TC.loopK (ι := Nat) [1] rfl (fun k => [(6, .int .i64 (k : Int)), (4, .int .i64 ((1 + sizeL (a.kids.take k) : Nat) : Int)), (5, .int .i64 ((deepL (a.kids.take k) : Nat) : Int))]) (fun _ => m) (fun _ => .cells b 0 (treeC h) :: L) (fun k => k ≤ a.kids.length) (fun k => a.kids.length - k) 0 (by repeat (first|exact trivial|refine And.intro rfl ?_)) rfl (by repeat (exact List.Sublist.refl _)) (Nat.zero_le _) ?_
 rintro k hk
 repeat (first|(first|refine q1 ?_|refine q3 ?_|refine q4 tab rfl rfl ?_|refine q5 ?_|refine q6 ?_)|(refine qs rfl (ql tab 0 rfl rfl rfl rfl rfl rfl ?_)))
 refine TC.condP rfl (fun h => ?_) (fun h => ?_)
 ·have hlt : k < a.kids.length := by omega
  have hx : a.kids[k]? = some a.kids[k] := by simp [hlt]
  have hmem := List.getElem_mem hlt
  repeat (first|(first|refine q1 ?_|refine q2 ?_|refine q3 ?_|refine q4 tab rfl rfl ?_|refine q6 ?_|refine q13 ?_)|(refine qs rfl (ql tab 0 rfl rfl rfl rfl rfl rfl ?_)))
  refine TO.step rfl (OT.index tab rTree k h4 rfl rfl rfl rfl rfl (by first | rfl | omega | (simp only; omega)) rfl hx ?_)
  rintro b' i hd hrd hA
  (refine TO.step rfl (OT.loadA0 tab hA rfl rfl rfl rfl rfl ?_))
  skip
  refine TO.step rfl (OT.call rfl rfl rfl rfl rfl rfl goes24 ((ih _ hmem _ _ hd (rTree_iff.1 hrd) (Nat.le_trans (size_kid hmem) hB)).x ?_));
  rintro _ _ _ ⟨rfl, rfl, rfl⟩
  have e1 := sizeL_next a.kids k hlt
  have e2 := deepL_next a.kids k hlt
  have e3 : sizeL (a.kids.take (k + 1)) ≤ 1048576 := by
   have := size_kids a
   have := sizeL_take a.kids (k + 1)
   omega
  repeat (first|refine q1 ?_|refine q3 ?_|refine q4 tab rfl rfl ?_|refine q5 ?_|refine q6 ?_)
  refine TO.step rfl (OT.arith (r' := ((1 + sizeL (a.kids.take (k + 1)) : Nat) : Int)) rfl rfl rfl rfl rfl rfl (by rw [e1]; omega) (by omega) ?_)
  repeat (first|refine q1 ?_|refine q3 ?_|refine q4 tab rfl rfl ?_|refine q5 ?_|refine q6 ?_)
  refine TC.condP rfl (fun h6 => ?_) (fun h6 => ?_)
  ·repeat (first|refine q3 ?_|refine q4 tab rfl rfl ?_|refine q5 ?_|refine q6 ?_|refine q7 ?_)
   refine TO.step rfl (OT.arith (r' := ((k + 1 : Nat) : Int)) rfl rfl rfl rfl rfl rfl rfl (by omega) ?_)
   repeat (first|refine q4 tab rfl rfl ?_|refine q5 ?_|refine q6 ?_)
   have e4 : deepL (a.kids.take (k + 1)) = a.kids[k].deep := by omega
   exact ⟨k + 1, by simp only [e4]; exact (by repeat (first|exact trivial|refine And.intro rfl ?_)), (by repeat (first|exact trivial|refine And.intro rfl ?_)), rfl, rfl, (by repeat (exact List.Sublist.refl _)), by omega, by omega⟩
  ·repeat (first|refine q3 ?_|refine q4 tab rfl rfl ?_|refine q6 ?_|refine q7 ?_|refine q13 ?_)
   refine TO.step rfl (OT.arith (r' := ((k + 1 : Nat) : Int)) rfl rfl rfl rfl rfl rfl rfl (by omega) ?_)
   repeat (first|refine q4 tab rfl rfl ?_|refine q5 ?_|refine q6 ?_)
   have e4 : deepL (a.kids.take (k + 1)) = deepL (a.kids.take k) := by omega
   exact ⟨k + 1, by simp only [e4]; exact (by repeat (first|exact trivial|refine And.intro rfl ?_)), (by repeat (first|exact trivial|refine And.intro rfl ?_)), rfl, rfl, (by repeat (exact List.Sublist.refl _)), by omega, by omega⟩
 ·have hd : deepL a.kids ≤ 1048576 := by
   have := deep_size a
   obtain ⟨_, _, _, ks⟩ := a
   simp only [Tree.deep, Tree.kids] at *
   omega
  repeat (first|refine q1 ?_|refine q3 ?_|refine q4 tab rfl rfl ?_|refine q6 ?_|refine q10 ?_|refine q11 ?_|refine q14 ?_)
  rw [List.take_of_length_le (by omega)]
  refine TO.step rfl (OT.arith (r' := ((deepL a.kids + 1 : Nat) : Int)) rfl rfl rfl rfl rfl rfl (by omega) (by omega) ?_)
  repeat (first|refine q4 tab rfl rfl ?_|refine q5 ?_|refine q6 ?_|refine q15 ?_)
  refine retQ_ret rfl (by repeat (first|exact List.Sublist.refl _|refine List.Sublist.cons _ ?_)) ⟨rfl, rfl, ?_⟩
  obtain ⟨_, _, _, ks⟩ := a
  rfl
end Go.Sep

