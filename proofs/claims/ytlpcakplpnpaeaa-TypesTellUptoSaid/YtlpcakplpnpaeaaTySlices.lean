/-
  The walks of slices.Index, Contains, IndexFunc, ContainsFunc at the types' kinds. Written by program (gen2.py).
-/
import Derived.Test.YtlpcakplpnpaeaaTyTab
import Derived.Test.YtlpcakplpnpaeaaSepR
import Derived.Test.YtlpcakplpnpaeaaTyTree
set_option linter.unusedVariables false
set_option linter.unusedSimpArgs false
namespace Go.Sep
open Go.Proofs
attribute [local irreducible] TC TO OT TCallX TCall DO DOt thenQ blockQ retQ At

def idx {α : Type} [DecidableEq α] : List α → α → Nat → Int
  | [], _, _ => -1
  | x :: xs, v, k => if v = x then (k : Int) else idx xs v (k + 1)

theorem idx_not {α : Type} [DecidableEq α] : ∀ (l : List α) (v : α) (k : Nat), v ∉ l → idx l v k = -1
  | [], _, _, _ => rfl
  | x :: xs, v, k, h => by
    rw [idx, if_neg (fun e => h (by simp [e])), idx_not xs v (k + 1) (fun e => h (by simp [e]))]

theorem idx_mem {α : Type} [DecidableEq α] : ∀ (l : List α) (v : α) (k : Nat), v ∈ l → ∃ j, l[j]? = some v ∧ idx l v k = ((k + j : Nat) : Int)
  | [], _, _, h => by cases h
  | x :: xs, v, k, h => by
    by_cases e : v = x
    · exact ⟨0, by simp [e], by rw [idx, if_pos e]; rfl⟩
    · have h' : v ∈ xs := by
        rcases List.mem_cons.1 h with h | h
        · exact absurd h e
        · exact h
      obtain ⟨j, h1, h2⟩ := idx_mem xs v (k + 1) h'
      exact ⟨j + 1, by simpa using h1, by rw [idx, if_neg e, h2]; congr 1; omega⟩

theorem idx_ge {α : Type} [DecidableEq α] (l : List α) (v : α) : decide (0 ≤ idx l v 0) = decide (v ∈ l) := by
  by_cases h : v ∈ l
  · obtain ⟨j, _, h2⟩ := idx_mem l v 0 h
    simp [h, h2]
  · simp [h, idx_not l v 0 h]

def idxP {α : Type} : List α → (α → Bool) → Nat → Int
  | [], _, _ => -1
  | x :: xs, p, k => if p x = true then (k : Int) else idxP xs p (k + 1)

theorem idxP_ge0 {α : Type} : ∀ (l : List α) (p : α → Bool) (k : Nat), decide (0 ≤ idxP l p k) = l.any p
  | [], p, k => by simp [idxP]
  | x :: xs, p, k => by
    simp only [idxP, List.any_cons]
    split
    · rename_i h; simp [h]
    · rename_i h; rw [idxP_ge0 xs p (k + 1)]; simp [h]
theorem idxP_ge {α : Type} (l : List α) (p : α → Bool) : decide (0 ≤ idxP l p 0) = l.any p := idxP_ge0 l p 0




set_option maxHeartbeats 400000 in
theorem index_str (m : Mem) (L : List Item) (s : Sl) (l : List Str) (v : Str) (hs : SlRep rStr m s l) :
    TCall Try.prog 113 ⟨[s.v, strV v]⟩ m L (Ret (.int .i64 (idx l v 0)) m L) := by
  unfold TCall
  refine TCallX.enter Try.func113 rfl 19 rfl ?_
  repeat (first|refine q1 ?_|refine q2 ?_|refine q3 ?_|refine q4 tab rfl rfl ?_|refine q5 ?_|refine q6 ?_|refine q7 ?_|refine q8 ?_|refine q9 ?_|refine q10 ?_|refine q11 ?_|refine q12 rfl ?_|refine q13 ?_|refine q14 ?_|refine q15 ?_|refine q16 rfl ?_|refine q17 rfl ?_)
  refine TC.loopK (ι := Nat) [0, 1, 7] rfl (fun k => [(8, .int .i64 (k : Int))]) (fun _ => m) (fun _ => L) (fun k => k ≤ l.length ∧ idx l v 0 = idx (l.drop k) v k) (fun k => l.length - k) 0 (by repeat (first | exact trivial | refine And.intro rfl ?_)) rfl (by repeat (first | exact List.Sublist.refl _ | exact List.sublist_append_left _ _ | refine List.Sublist.cons_cons _ ?_ | refine List.Sublist.cons _ ?_)) ⟨Nat.zero_le _, rfl⟩ ?_
  rintro k ⟨hk, hI⟩
  have hl := hs.len
  have hsm := hs.small rfl
  repeat (first|refine q1 ?_|refine q2 ?_|refine q3 ?_|refine q4 tab rfl rfl ?_|refine q5 ?_|refine q6 ?_|refine q7 ?_|refine q8 ?_|refine q9 ?_|refine q10 ?_|refine q11 ?_|refine q12 rfl ?_|refine q13 ?_|refine q14 ?_|refine q15 ?_|refine q16 rfl ?_|refine q17 rfl ?_)
  refine TC.condP rfl (fun h => ?_) (fun h => ?_)
  · have hlt : k < l.length := by omega
    have hx : l[k]? = some l[k] := by simp [hlt]
    repeat (first|refine q1 ?_|refine q2 ?_|refine q3 ?_|refine q4 tab rfl rfl ?_|refine q5 ?_|refine q6 ?_|refine q7 ?_|refine q8 ?_|refine q9 ?_|refine q10 ?_|refine q11 ?_|refine q12 rfl ?_|refine q13 ?_|refine q14 ?_|refine q15 ?_|refine q16 rfl ?_|refine q17 rfl ?_)
    refine TO.step rfl (OT.index tab rStr k hs rfl rfl rfl rfl rfl (by first | rfl | omega) rfl hx ?_)
    rintro b i hd rfl hA
    (first | refine TO.step rfl (OT.loadA tab hA rfl rfl rfl rfl rfl ?_) | refine TO.step rfl (OT.loadA0 tab hA rfl rfl rfl rfl rfl ?_))
    repeat (first|refine q1 ?_|refine q2 ?_|refine q3 ?_|refine q4 tab rfl rfl ?_|refine q5 ?_|refine q6 ?_|refine q7 ?_|refine q8 ?_|refine q9 ?_|refine q10 ?_|refine q11 ?_|refine q12 rfl ?_|refine q13 ?_|refine q14 ?_|refine q15 ?_|refine q16 rfl ?_|refine q17 rfl ?_)
    refine TC.condP rfl (fun h => ?_) (fun h => ?_)
    · repeat (first|refine q1 ?_|refine q2 ?_|refine q3 ?_|refine q4 tab rfl rfl ?_|refine q5 ?_|refine q6 ?_|refine q7 ?_|refine q8 ?_|refine q9 ?_|refine q10 ?_|refine q11 ?_|refine q12 rfl ?_|refine q13 ?_|refine q14 ?_|refine q15 ?_|refine q16 rfl ?_|refine q17 rfl ?_)
      refine retQ_ret rfl (by repeat (first | exact List.Sublist.refl _ | exact List.sublist_append_left _ _ | refine List.Sublist.cons_cons _ ?_ | refine List.Sublist.cons _ ?_)) ⟨rfl, rfl, ?_⟩
      rw [hI, List.drop_eq_getElem_cons hlt, idx, if_pos h]
    · repeat (first|refine q1 ?_|refine q2 ?_|refine q3 ?_|refine q4 tab rfl rfl ?_|refine q5 ?_|refine q6 ?_|refine q7 ?_|refine q8 ?_|refine q9 ?_|refine q10 ?_|refine q11 ?_|refine q12 rfl ?_|refine q13 ?_|refine q14 ?_|refine q15 ?_|refine q16 rfl ?_|refine q17 rfl ?_)
      refine TO.step rfl (OT.arith (r' := ((k + 1 : Nat) : Int)) rfl rfl rfl rfl rfl rfl rfl (by omega) ?_)
      repeat (first|refine q1 ?_|refine q2 ?_|refine q3 ?_|refine q4 tab rfl rfl ?_|refine q5 ?_|refine q6 ?_|refine q7 ?_|refine q8 ?_|refine q9 ?_|refine q10 ?_|refine q11 ?_|refine q12 rfl ?_|refine q13 ?_|refine q14 ?_|refine q15 ?_|refine q16 rfl ?_|refine q17 rfl ?_)
      exact ⟨k + 1, (by repeat (first | exact trivial | refine And.intro rfl ?_)), (by repeat (first | exact trivial | refine And.intro rfl ?_)), rfl, rfl, (by repeat (first | exact List.Sublist.refl _ | exact List.sublist_append_left _ _ | refine List.Sublist.cons_cons _ ?_ | refine List.Sublist.cons _ ?_)), ⟨by omega, by rw [hI, List.drop_eq_getElem_cons hlt, idx, if_neg h]⟩, by omega⟩
  · repeat (first|refine q1 ?_|refine q2 ?_|refine q3 ?_|refine q4 tab rfl rfl ?_|refine q5 ?_|refine q6 ?_|refine q7 ?_|refine q8 ?_|refine q9 ?_|refine q10 ?_|refine q11 ?_|refine q12 rfl ?_|refine q13 ?_|refine q14 ?_|refine q15 ?_|refine q16 rfl ?_|refine q17 rfl ?_)
    refine retQ_ret rfl (by repeat (first | exact List.Sublist.refl _ | exact List.sublist_append_left _ _ | refine List.Sublist.cons_cons _ ?_ | refine List.Sublist.cons _ ?_)) ⟨rfl, rfl, ?_⟩
    rw [hI, List.drop_eq_nil_of_le (by omega)]
    rfl


set_option maxHeartbeats 400000 in
theorem contains_str (m : Mem) (L : List Item) (s : Sl) (l : List Str) (v : Str) (hs : SlRep rStr m s l) :
    TCall Try.prog 86 ⟨[s.v, strV v]⟩ m L (Ret (.bool (decide (v ∈ l))) m L) := by
  unfold TCall
  refine TCallX.enter Try.func86 rfl 9 rfl ?_
  repeat (first|refine q1 ?_|refine q2 ?_|refine q3 ?_|refine q4 tab rfl rfl ?_|refine q5 ?_|refine q6 ?_|refine q7 ?_|refine q8 ?_|refine q9 ?_|refine q10 ?_|refine q11 ?_|refine q12 rfl ?_|refine q13 ?_|refine q14 ?_|refine q15 ?_|refine q16 rfl ?_|refine q17 rfl ?_)
  refine TO.step rfl (OT.call rfl rfl rfl rfl rfl rfl goes113 ((index_str m L s l v hs).x ?_));
  rintro _ _ _ ⟨rfl, rfl, rfl⟩
  repeat (first|refine q1 ?_|refine q2 ?_|refine q3 ?_|refine q4 tab rfl rfl ?_|refine q5 ?_|refine q6 ?_|refine q7 ?_|refine q8 ?_|refine q9 ?_|refine q10 ?_|refine q11 ?_|refine q12 rfl ?_|refine q13 ?_|refine q14 ?_|refine q15 ?_|refine q16 rfl ?_|refine q17 rfl ?_)
  refine retQ_ret rfl (by repeat (first | exact List.Sublist.refl _ | exact List.sublist_append_left _ _ | refine List.Sublist.cons_cons _ ?_ | refine List.Sublist.cons _ ?_)) ⟨rfl, rfl, ?_⟩
  exact congrArg Value.bool (by rw [idx_ge]; try congr)


set_option maxHeartbeats 400000 in
theorem indexFunc_node (m : Mem) (L : List Item) (s : Sl) (l : List Tree) (p : Tree → Bool) (fn : FuncId) (cap : List Value) (hg : Goes Try.prog fn) (hs : SlRep rTree m s l)
    (hp : ∀ (h : HTree) (a : Tree), a ∈ l → rTree.rep m h a → TCall Try.prog fn ⟨treeV h :: cap⟩ m L (Ret (.bool (p a)) m L)) :
    TCall Try.prog 117 ⟨[s.v, .func (.func fn) ⟨[]⟩ ⟨cap⟩]⟩ m L (Ret (.int .i64 (idxP l p 0)) m L) := by
  unfold TCall
  refine TCallX.enter Try.func117 rfl 19 rfl ?_
  repeat (first|refine q1 ?_|refine q2 ?_|refine q3 ?_|refine q4 tab rfl rfl ?_|refine q5 ?_|refine q6 ?_|refine q7 ?_|refine q8 ?_|refine q9 ?_|refine q10 ?_|refine q11 ?_|refine q12 rfl ?_|refine q13 ?_|refine q14 ?_|refine q15 ?_|refine q16 rfl ?_|refine q17 rfl ?_)
  refine TC.loopK (ι := Nat) [0, 1, 7] rfl (fun k => [(8, .int .i64 (k : Int))]) (fun _ => m) (fun _ => L) (fun k => k ≤ l.length ∧ idxP l p 0 = idxP (l.drop k) p k) (fun k => l.length - k) 0 (by repeat (first | exact trivial | refine And.intro rfl ?_)) rfl (by repeat (first | exact List.Sublist.refl _ | exact List.sublist_append_left _ _ | refine List.Sublist.cons_cons _ ?_ | refine List.Sublist.cons _ ?_)) ⟨Nat.zero_le _, rfl⟩ ?_
  rintro k ⟨hk, hI⟩
  have hl := hs.len
  have hsm := hs.small rfl
  repeat (first|refine q1 ?_|refine q2 ?_|refine q3 ?_|refine q4 tab rfl rfl ?_|refine q5 ?_|refine q6 ?_|refine q7 ?_|refine q8 ?_|refine q9 ?_|refine q10 ?_|refine q11 ?_|refine q12 rfl ?_|refine q13 ?_|refine q14 ?_|refine q15 ?_|refine q16 rfl ?_|refine q17 rfl ?_)
  refine TC.condP rfl (fun h => ?_) (fun h => ?_)
  · have hlt : k < l.length := by omega
    have hx : l[k]? = some l[k] := by simp [hlt]
    repeat (first|refine q1 ?_|refine q2 ?_|refine q3 ?_|refine q4 tab rfl rfl ?_|refine q5 ?_|refine q6 ?_|refine q7 ?_|refine q8 ?_|refine q9 ?_|refine q10 ?_|refine q11 ?_|refine q12 rfl ?_|refine q13 ?_|refine q14 ?_|refine q15 ?_|refine q16 rfl ?_|refine q17 rfl ?_)
    refine TO.step rfl (OT.index tab rTree k hs rfl rfl rfl rfl rfl (by first | rfl | omega) rfl hx ?_)
    rintro b i hd hr hA
    (first | refine TO.step rfl (OT.loadA tab hA rfl rfl rfl rfl rfl ?_) | refine TO.step rfl (OT.loadA0 tab hA rfl rfl rfl rfl rfl ?_))
    repeat (first|refine q1 ?_|refine q2 ?_|refine q3 ?_|refine q4 tab rfl rfl ?_|refine q5 ?_|refine q6 ?_|refine q7 ?_|refine q8 ?_|refine q9 ?_|refine q10 ?_|refine q11 ?_|refine q12 rfl ?_|refine q13 ?_|refine q14 ?_|refine q15 ?_|refine q16 rfl ?_|refine q17 rfl ?_)
    refine TO.step rfl (OT.call (all := treeV hd :: cap) rfl rfl rfl rfl rfl (by rw [fl_eq]; rfl) hg ((hp hd l[k] (List.getElem_mem hlt) hr).x ?_))
    rintro _ _ _ ⟨rfl, rfl, rfl⟩
    repeat (first|refine q1 ?_|refine q2 ?_|refine q3 ?_|refine q4 tab rfl rfl ?_|refine q5 ?_|refine q6 ?_|refine q7 ?_|refine q8 ?_|refine q9 ?_|refine q10 ?_|refine q11 ?_|refine q12 rfl ?_|refine q13 ?_|refine q14 ?_|refine q15 ?_|refine q16 rfl ?_|refine q17 rfl ?_)
    refine TC.cond rfl (fun h => ?_) (fun h => ?_)
    · repeat (first|refine q1 ?_|refine q2 ?_|refine q3 ?_|refine q4 tab rfl rfl ?_|refine q5 ?_|refine q6 ?_|refine q7 ?_|refine q8 ?_|refine q9 ?_|refine q10 ?_|refine q11 ?_|refine q12 rfl ?_|refine q13 ?_|refine q14 ?_|refine q15 ?_|refine q16 rfl ?_|refine q17 rfl ?_)
      refine retQ_ret rfl (by repeat (first | exact List.Sublist.refl _ | exact List.sublist_append_left _ _ | refine List.Sublist.cons_cons _ ?_ | refine List.Sublist.cons _ ?_)) ⟨rfl, rfl, ?_⟩
      rw [hI, List.drop_eq_getElem_cons hlt, idxP, if_pos h]
    · repeat (first|refine q1 ?_|refine q2 ?_|refine q3 ?_|refine q4 tab rfl rfl ?_|refine q5 ?_|refine q6 ?_|refine q7 ?_|refine q8 ?_|refine q9 ?_|refine q10 ?_|refine q11 ?_|refine q12 rfl ?_|refine q13 ?_|refine q14 ?_|refine q15 ?_|refine q16 rfl ?_|refine q17 rfl ?_)
      refine TO.step rfl (OT.arith (r' := ((k + 1 : Nat) : Int)) rfl rfl rfl rfl rfl rfl rfl (by omega) ?_)
      repeat (first|refine q1 ?_|refine q2 ?_|refine q3 ?_|refine q4 tab rfl rfl ?_|refine q5 ?_|refine q6 ?_|refine q7 ?_|refine q8 ?_|refine q9 ?_|refine q10 ?_|refine q11 ?_|refine q12 rfl ?_|refine q13 ?_|refine q14 ?_|refine q15 ?_|refine q16 rfl ?_|refine q17 rfl ?_)
      exact ⟨k + 1, (by repeat (first | exact trivial | refine And.intro rfl ?_)), (by repeat (first | exact trivial | refine And.intro rfl ?_)), rfl, rfl, (by repeat (first | exact List.Sublist.refl _ | exact List.sublist_append_left _ _ | refine List.Sublist.cons_cons _ ?_ | refine List.Sublist.cons _ ?_)), ⟨by omega, by rw [hI, List.drop_eq_getElem_cons hlt, idxP, if_neg (by simp [h])]⟩, by omega⟩
  · repeat (first|refine q1 ?_|refine q2 ?_|refine q3 ?_|refine q4 tab rfl rfl ?_|refine q5 ?_|refine q6 ?_|refine q7 ?_|refine q8 ?_|refine q9 ?_|refine q10 ?_|refine q11 ?_|refine q12 rfl ?_|refine q13 ?_|refine q14 ?_|refine q15 ?_|refine q16 rfl ?_|refine q17 rfl ?_)
    refine retQ_ret rfl (by repeat (first | exact List.Sublist.refl _ | exact List.sublist_append_left _ _ | refine List.Sublist.cons_cons _ ?_ | refine List.Sublist.cons _ ?_)) ⟨rfl, rfl, ?_⟩
    rw [hI, List.drop_eq_nil_of_le (by omega)]
    rfl


set_option maxHeartbeats 400000 in
theorem containsFunc_node (m : Mem) (L : List Item) (s : Sl) (l : List Tree) (p : Tree → Bool) (fn : FuncId) (cap : List Value) (hg : Goes Try.prog fn) (hs : SlRep rTree m s l)
    (hp : ∀ (h : HTree) (a : Tree), a ∈ l → rTree.rep m h a → TCall Try.prog fn ⟨treeV h :: cap⟩ m L (Ret (.bool (p a)) m L)) :
    TCall Try.prog 104 ⟨[s.v, .func (.func fn) ⟨[]⟩ ⟨cap⟩]⟩ m L (Ret (.bool (l.any p)) m L) := by
  unfold TCall
  refine TCallX.enter Try.func104 rfl 9 rfl ?_
  repeat (first|refine q1 ?_|refine q2 ?_|refine q3 ?_|refine q4 tab rfl rfl ?_|refine q5 ?_|refine q6 ?_|refine q7 ?_|refine q8 ?_|refine q9 ?_|refine q10 ?_|refine q11 ?_|refine q12 rfl ?_|refine q13 ?_|refine q14 ?_|refine q15 ?_|refine q16 rfl ?_|refine q17 rfl ?_)
  refine TO.step rfl (OT.call rfl rfl rfl rfl rfl rfl goes117 ((indexFunc_node m L s l p fn cap hg hs hp).x ?_));
  rintro _ _ _ ⟨rfl, rfl, rfl⟩
  repeat (first|refine q1 ?_|refine q2 ?_|refine q3 ?_|refine q4 tab rfl rfl ?_|refine q5 ?_|refine q6 ?_|refine q7 ?_|refine q8 ?_|refine q9 ?_|refine q10 ?_|refine q11 ?_|refine q12 rfl ?_|refine q13 ?_|refine q14 ?_|refine q15 ?_|refine q16 rfl ?_|refine q17 rfl ?_)
  refine retQ_ret rfl (by repeat (first | exact List.Sublist.refl _ | exact List.sublist_append_left _ _ | refine List.Sublist.cons_cons _ ?_ | refine List.Sublist.cons _ ?_)) ⟨rfl, rfl, ?_⟩
  rw [idxP_ge]


set_option maxHeartbeats 400000 in
theorem indexFunc_type (m : Mem) (L : List Item) (s : Sl) (l : List Tree) (p : Tree → Bool) (fn : FuncId) (cap : List Value) (hg : Goes Try.prog fn) (hs : SlRep rTree m s l)
    (hp : ∀ (h : HTree) (a : Tree), a ∈ l → rTree.rep m h a → TCall Try.prog fn ⟨treeV h :: cap⟩ m L (Ret (.bool (p a)) m L)) :
    TCall Try.prog 114 ⟨[s.v, .func (.func fn) ⟨[]⟩ ⟨cap⟩]⟩ m L (Ret (.int .i64 (idxP l p 0)) m L) := by
  unfold TCall
  refine TCallX.enter Try.func114 rfl 19 rfl ?_
  repeat (first|refine q1 ?_|refine q2 ?_|refine q3 ?_|refine q4 tab rfl rfl ?_|refine q5 ?_|refine q6 ?_|refine q7 ?_|refine q8 ?_|refine q9 ?_|refine q10 ?_|refine q11 ?_|refine q12 rfl ?_|refine q13 ?_|refine q14 ?_|refine q15 ?_|refine q16 rfl ?_|refine q17 rfl ?_)
  refine TC.loopK (ι := Nat) [0, 1, 7] rfl (fun k => [(8, .int .i64 (k : Int))]) (fun _ => m) (fun _ => L) (fun k => k ≤ l.length ∧ idxP l p 0 = idxP (l.drop k) p k) (fun k => l.length - k) 0 (by repeat (first | exact trivial | refine And.intro rfl ?_)) rfl (by repeat (first | exact List.Sublist.refl _ | exact List.sublist_append_left _ _ | refine List.Sublist.cons_cons _ ?_ | refine List.Sublist.cons _ ?_)) ⟨Nat.zero_le _, rfl⟩ ?_
  rintro k ⟨hk, hI⟩
  have hl := hs.len
  have hsm := hs.small rfl
  repeat (first|refine q1 ?_|refine q2 ?_|refine q3 ?_|refine q4 tab rfl rfl ?_|refine q5 ?_|refine q6 ?_|refine q7 ?_|refine q8 ?_|refine q9 ?_|refine q10 ?_|refine q11 ?_|refine q12 rfl ?_|refine q13 ?_|refine q14 ?_|refine q15 ?_|refine q16 rfl ?_|refine q17 rfl ?_)
  refine TC.condP rfl (fun h => ?_) (fun h => ?_)
  · have hlt : k < l.length := by omega
    have hx : l[k]? = some l[k] := by simp [hlt]
    repeat (first|refine q1 ?_|refine q2 ?_|refine q3 ?_|refine q4 tab rfl rfl ?_|refine q5 ?_|refine q6 ?_|refine q7 ?_|refine q8 ?_|refine q9 ?_|refine q10 ?_|refine q11 ?_|refine q12 rfl ?_|refine q13 ?_|refine q14 ?_|refine q15 ?_|refine q16 rfl ?_|refine q17 rfl ?_)
    refine TO.step rfl (OT.index tab rTree k hs rfl rfl rfl rfl rfl (by first | rfl | omega) rfl hx ?_)
    rintro b i hd hr hA
    (first | refine TO.step rfl (OT.loadA tab hA rfl rfl rfl rfl rfl ?_) | refine TO.step rfl (OT.loadA0 tab hA rfl rfl rfl rfl rfl ?_))
    repeat (first|refine q1 ?_|refine q2 ?_|refine q3 ?_|refine q4 tab rfl rfl ?_|refine q5 ?_|refine q6 ?_|refine q7 ?_|refine q8 ?_|refine q9 ?_|refine q10 ?_|refine q11 ?_|refine q12 rfl ?_|refine q13 ?_|refine q14 ?_|refine q15 ?_|refine q16 rfl ?_|refine q17 rfl ?_)
    refine TO.step rfl (OT.call (all := treeV hd :: cap) rfl rfl rfl rfl rfl (by rw [fl_eq]; rfl) hg ((hp hd l[k] (List.getElem_mem hlt) hr).x ?_))
    rintro _ _ _ ⟨rfl, rfl, rfl⟩
    repeat (first|refine q1 ?_|refine q2 ?_|refine q3 ?_|refine q4 tab rfl rfl ?_|refine q5 ?_|refine q6 ?_|refine q7 ?_|refine q8 ?_|refine q9 ?_|refine q10 ?_|refine q11 ?_|refine q12 rfl ?_|refine q13 ?_|refine q14 ?_|refine q15 ?_|refine q16 rfl ?_|refine q17 rfl ?_)
    refine TC.cond rfl (fun h => ?_) (fun h => ?_)
    · repeat (first|refine q1 ?_|refine q2 ?_|refine q3 ?_|refine q4 tab rfl rfl ?_|refine q5 ?_|refine q6 ?_|refine q7 ?_|refine q8 ?_|refine q9 ?_|refine q10 ?_|refine q11 ?_|refine q12 rfl ?_|refine q13 ?_|refine q14 ?_|refine q15 ?_|refine q16 rfl ?_|refine q17 rfl ?_)
      refine retQ_ret rfl (by repeat (first | exact List.Sublist.refl _ | exact List.sublist_append_left _ _ | refine List.Sublist.cons_cons _ ?_ | refine List.Sublist.cons _ ?_)) ⟨rfl, rfl, ?_⟩
      rw [hI, List.drop_eq_getElem_cons hlt, idxP, if_pos h]
    · repeat (first|refine q1 ?_|refine q2 ?_|refine q3 ?_|refine q4 tab rfl rfl ?_|refine q5 ?_|refine q6 ?_|refine q7 ?_|refine q8 ?_|refine q9 ?_|refine q10 ?_|refine q11 ?_|refine q12 rfl ?_|refine q13 ?_|refine q14 ?_|refine q15 ?_|refine q16 rfl ?_|refine q17 rfl ?_)
      refine TO.step rfl (OT.arith (r' := ((k + 1 : Nat) : Int)) rfl rfl rfl rfl rfl rfl rfl (by omega) ?_)
      repeat (first|refine q1 ?_|refine q2 ?_|refine q3 ?_|refine q4 tab rfl rfl ?_|refine q5 ?_|refine q6 ?_|refine q7 ?_|refine q8 ?_|refine q9 ?_|refine q10 ?_|refine q11 ?_|refine q12 rfl ?_|refine q13 ?_|refine q14 ?_|refine q15 ?_|refine q16 rfl ?_|refine q17 rfl ?_)
      exact ⟨k + 1, (by repeat (first | exact trivial | refine And.intro rfl ?_)), (by repeat (first | exact trivial | refine And.intro rfl ?_)), rfl, rfl, (by repeat (first | exact List.Sublist.refl _ | exact List.sublist_append_left _ _ | refine List.Sublist.cons_cons _ ?_ | refine List.Sublist.cons _ ?_)), ⟨by omega, by rw [hI, List.drop_eq_getElem_cons hlt, idxP, if_neg (by simp [h])]⟩, by omega⟩
  · repeat (first|refine q1 ?_|refine q2 ?_|refine q3 ?_|refine q4 tab rfl rfl ?_|refine q5 ?_|refine q6 ?_|refine q7 ?_|refine q8 ?_|refine q9 ?_|refine q10 ?_|refine q11 ?_|refine q12 rfl ?_|refine q13 ?_|refine q14 ?_|refine q15 ?_|refine q16 rfl ?_|refine q17 rfl ?_)
    refine retQ_ret rfl (by repeat (first | exact List.Sublist.refl _ | exact List.sublist_append_left _ _ | refine List.Sublist.cons_cons _ ?_ | refine List.Sublist.cons _ ?_)) ⟨rfl, rfl, ?_⟩
    rw [hI, List.drop_eq_nil_of_le (by omega)]
    rfl


set_option maxHeartbeats 400000 in
theorem containsFunc_type (m : Mem) (L : List Item) (s : Sl) (l : List Tree) (p : Tree → Bool) (fn : FuncId) (cap : List Value) (hg : Goes Try.prog fn) (hs : SlRep rTree m s l)
    (hp : ∀ (h : HTree) (a : Tree), a ∈ l → rTree.rep m h a → TCall Try.prog fn ⟨treeV h :: cap⟩ m L (Ret (.bool (p a)) m L)) :
    TCall Try.prog 92 ⟨[s.v, .func (.func fn) ⟨[]⟩ ⟨cap⟩]⟩ m L (Ret (.bool (l.any p)) m L) := by
  unfold TCall
  refine TCallX.enter Try.func92 rfl 9 rfl ?_
  repeat (first|refine q1 ?_|refine q2 ?_|refine q3 ?_|refine q4 tab rfl rfl ?_|refine q5 ?_|refine q6 ?_|refine q7 ?_|refine q8 ?_|refine q9 ?_|refine q10 ?_|refine q11 ?_|refine q12 rfl ?_|refine q13 ?_|refine q14 ?_|refine q15 ?_|refine q16 rfl ?_|refine q17 rfl ?_)
  refine TO.step rfl (OT.call rfl rfl rfl rfl rfl rfl goes114 ((indexFunc_type m L s l p fn cap hg hs hp).x ?_));
  rintro _ _ _ ⟨rfl, rfl, rfl⟩
  repeat (first|refine q1 ?_|refine q2 ?_|refine q3 ?_|refine q4 tab rfl rfl ?_|refine q5 ?_|refine q6 ?_|refine q7 ?_|refine q8 ?_|refine q9 ?_|refine q10 ?_|refine q11 ?_|refine q12 rfl ?_|refine q13 ?_|refine q14 ?_|refine q15 ?_|refine q16 rfl ?_|refine q17 rfl ?_)
  refine retQ_ret rfl (by repeat (first | exact List.Sublist.refl _ | exact List.sublist_append_left _ _ | refine List.Sublist.cons_cons _ ?_ | refine List.Sublist.cons _ ?_)) ⟨rfl, rfl, ?_⟩
  rw [idxP_ge]

end Go.Sep
