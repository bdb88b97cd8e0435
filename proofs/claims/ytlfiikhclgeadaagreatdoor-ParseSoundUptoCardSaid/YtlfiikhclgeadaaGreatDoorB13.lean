/- PrShQ -/
import Derived.Test.YtlfiikhclgeadaaGreatDoorB12
set_option linter.unusedVariables false
set_option linter.unusedSimpArgs false
namespace Go.Sep
theorem level_iff (s : Str) : decide (0 < (levelD s : Int)) = decide (s ∈ Ps.levels.flatten) := by
 refine decide_eq_decide.2 ⟨fun h => ?_, fun h => ?_⟩
 ·obtain ⟨l, h1, h2, h3⟩ := levelD_pos (s := s) (by omega)
  exact List.mem_flatten.2 ⟨Ps.opsAt l, by
   have : ∀ l : Fin 5, Ps.opsAt l.val ∈ Ps.levels := by decide
   exact this ⟨l, h1⟩, h3⟩
 ·have : ∀ s ∈ Ps.levels.flatten, 0 < levelD s := by decide
  have := this s h
  omega
def isK (g : Sg) (k : Int) : Tree → Bool :=
 if k = 7 then g.expr else if k = 6 then g.stmt else if k = 5 then g.block else if k = 2 then Tree.isType else if k = 3 then Tree.isSig else if k = 4 then Tree.isParam
 else if k = 8 then fieldS Tree.isType else if k = 9 then fieldS Tree.isSig else if k = 10 then plS g else if k = 11 then nmS g else if k = 12 then callS g else if k = 13 then otherS g
 else if k = 14 then recvS else if k = 1 then declS g else fun _ => false
@[reducible] def Srt (k : Int) : Prop := 1 ≤ k ∧ k ≤ 14
structure SortsOk (x : Shape) : Prop where
 ks : ∀ k ∈ x.ks, Srt k
 rest : x.rest = 0 ∨ Srt x.rest
theorem want_ok {x : Shape} {a : Tree} (h : SortsOk x) (hf : fitB x a = true) {i : Nat} (hi : i < a.kids.length) : Srt (want x i) := by
 unfold want
 by_cases h1 : i < x.ks.length
 ·rw [List.getElem?_eq_getElem h1]
  exact h.ks _ (List.getElem_mem h1)
 ·rw [List.getElem?_eq_none (by omega)]
  rcases h.rest with h2 | h2
  ·unfold fitB at hf
   rw [h2] at hf
   simp only [Bool.and_eq_true, decide_eq_true_eq, Bool.or_eq_true, Bool.not_eq_true', decide_eq_false_iff_not, not_true_eq_false, false_or] at hf
   omega
  ·exact h2
theorem rep_ok {c : Int} {a : Tree} (h : Srt c) : ∀ k ∈ rep c a, Srt k := fun k hk => by rw [List.eq_of_mem_replicate hk]; exact h
theorem ok_lit {ks : List Int} {r t : Int} {o : Bool} (h : ks.all (fun k => decide (1 ≤ k ∧ k ≤ 14)) = true) (hr : r = 0 ∨ Srt r) : SortsOk ⟨ks, r, t, o⟩ :=
 ⟨fun k hk => by have := List.all_eq_true.1 h k hk; exact of_decide_eq_true this, hr⟩
theorem rest_ok {r : Int} (h : decide (r = 0 ∨ 1 ≤ r ∧ r ≤ 14) = true) : r = 0 ∨ Srt r := of_decide_eq_true h
theorem ok_rep {c r t : Int} {o : Bool} {a : Tree} (h : Srt c) (hr : r = 0 ∨ Srt r) : SortsOk ⟨rep c a, r, t, o⟩ := ⟨rep_ok h, hr⟩
theorem ok_if {c : Prop} [Decidable c] {x y : Shape} (hx : SortsOk x) (hy : SortsOk y) : SortsOk (if c then x else y) := by
 by_cases h : c
 ·rw [if_pos h]; exact hx
 ·rw [if_neg h]; exact hy
theorem SortsOk.but {x : Shape} (h : SortsOk x) (c : Bool) : SortsOk (x.but c) := ⟨h.ks, h.rest⟩
theorem shStmt_ok (lv : Str → Nat) (a : Tree) : SortsOk (shStmt lv a) := by
 unfold shStmt
 repeat' first
  | refine ok_if ?_ ?_
  | exact ok_lit rfl (rest_ok (by decide))
  | exact ok_rep (c := 11) ⟨by decide, by decide⟩ (rest_ok (by decide))
  | exact ok_rep (c := 10) ⟨by decide, by decide⟩ (rest_ok (by decide))
theorem shExpr_ok (lv : Str → Nat) (a : Tree) : SortsOk (shExpr lv a) := by
 unfold shExpr
 repeat' first
  | refine ok_if ?_ ?_
  | exact ok_lit rfl (rest_ok (by decide))
theorem shDecl_ok (a : Tree) : SortsOk (shDecl a) := by
 unfold shDecl
 repeat' first
  | refine ok_if ?_ ?_
  | exact ok_lit rfl (rest_ok (by decide))
theorem shTyp_ok (a : Tree) : SortsOk (shTyp a) := by
 unfold shTyp
 repeat' first
  | refine ok_if ?_ ?_
  | exact ok_lit rfl (rest_ok (by decide))
theorem shSig_ok (a : Tree) : SortsOk (shSig a) := ok_rep (c := 4) ⟨by decide, by decide⟩ (rest_ok (by decide))
theorem shapeR_ok (lv : Str → Nat) (k : Int) (a : Tree) : SortsOk (shapeR lv k a) := by
 unfold shapeR
 repeat' first
  | exact (shExpr_ok lv a).but _
  | exact shExpr_ok lv a
  | exact shStmt_ok lv a
  | exact shDecl_ok a
  | exact shTyp_ok a
  | exact shSig_ok a
  | refine ok_if ?_ ?_
  | exact ok_lit rfl (rest_ok (by decide))
theorem size_of_kid {a t : Tree} (h : t ∈ a.kids) : t.size < a.size := by
 obtain ⟨i, hi, rfl⟩ := List.getElem_of_mem h
 have h1 := sizeL_next a.kids i hi
 have h2 := sizeL_drop a.kids (i + 1)
 have h3 := size_kids a
 omega
theorem all_get {p q : Int → Tree → Bool} : ∀ (ks : List Int) (r : Int) (l : List Tree), (∀ (i : Nat) (hi : i < l.length), p (ks[i]?.getD r) l[i] = q (ks[i]?.getD r) l[i]) → allS p ks r l = allS q ks r l
 | [], r, [], _ => rfl
 | _ :: _, r, [], _ => rfl
 | [], r, t :: ts, h => by
  rw [allS, allS, all_get [] r ts fun i hi => h (i + 1) (by simpa using hi)]
  have := h 0 (by simp)
  simp only [List.getElem?_nil, Option.getD_none, List.getElem_cons_zero] at this
  rw [this]
 | k :: ks, r, t :: ts, h => by
  rw [allS, allS, all_get ks r ts fun i hi => by have := h (i + 1) (by simpa using hi); simpa using this]
  have := h 0 (by simp)
  simp only [List.getElem?_cons_zero, Option.getD_some, List.getElem_cons_zero] at this
  rw [this]
def restO (p : Int → Tree → Bool) (r : Int) : Option (Tree → Bool) := if r = 0 then none else some (p r)
theorem allS_kids (p : Int → Tree → Bool) : ∀ (ks : List Int) (r : Int) (l : List Tree), (decide (ks.length ≤ l.length) && ((!decide (r = 0) || decide (l.length ≤ ks.length)) && allS p ks r l)) = kidsR (ks.map p) (restO p r) l
 | [], r, [] => by unfold restO; split <;> simp [kidsR, allS, *]
 | k :: ks, r, [] => by simp [kidsR]
 | [], r, t :: ts => by
  unfold restO
  split
  ·next h => simp [kidsR, h]
  ·next h =>
   have := allS_kids p [] r ts
   unfold restO at this
   rw [if_neg h] at this
   simp only [List.map_nil, kidsR] at this
   simp only [List.map_nil, kidsR, List.all_cons, ← this, allS]
   simp [h]
 | k :: ks, r, t :: ts => by
  have := allS_kids p ks r ts
  simp only [List.map_cons, kidsR, ← this, allS, List.length_cons, Nat.add_le_add_iff_right]
  cases p k t <;> simp
theorem allS_take (p : Int → Tree → Bool) (c r : Int) (n : Nat) : ∀ l : List Tree, n ≤ l.length → allS p (List.replicate n c) r l = ((l.take n).all (p c) && (l.drop n).all (p r)) := by
 induction n with
 | zero => intro l _; induction l with
  | nil => rfl
  | cons t ts ih => simp only [List.replicate_zero] at *; rw [allS, ih (Nat.zero_le _)]; simp
 | succ n ih =>
  intro l hl
  cases l with
  | nil => simp at hl
  | cons t ts =>
   rw [List.replicate_succ, allS, ih ts (by simpa using hl), List.take_succ_cons, List.all_cons, List.drop_succ_cons, Bool.and_assoc]
theorem is_eq (x : Shape) (a : Tree) (p : Int → Tree → Bool) : (fitB x a && (textB x a && allS p x.ks x.rest a.kids)) =
  ((x.ok && (decide (a.num = 0) || numB a.kind)) && (textB x a && kidsR (x.ks.map p) (restO p x.rest) a.kids)) := by
 rw [← allS_kids]
 unfold fitB
 cases x.ok <;> cases textB x a <;> cases decide (x.ks.length ≤ a.kids.length) <;> cases decide (a.num = 0) <;> cases numB a.kind <;> cases decide (x.rest = 0) <;> cases decide (a.kids.length ≤ x.ks.length) <;> cases allS p x.ks x.rest a.kids <;> rfl
theorem kidsR2 (p q : Tree → Bool) (l : List Tree) : kidsR [p, q] none l = true → l.length = 2 := by
 match l with
 | [] => simp [kidsR]
 | [_] => simp [kidsR]
 | [_, _] => simp
 | _ :: _ :: _ :: _ => simp [kidsR]
theorem kidsR3 (p q r : Tree → Bool) (l : List Tree) : kidsR [p, q, r] none l = true → l.length = 3 := by
 match l with
 | [] => simp [kidsR]
 | [_] => simp [kidsR]
 | [_, _] => simp [kidsR]
 | [_, _, _] => simp
 | _ :: _ :: _ :: _ :: _ => simp [kidsR]
theorem kidsR_same : ∀ (n : Nat) (p : Tree → Bool) (l : List Tree), kidsR (List.replicate n p) none l = (decide (l.length = n) && l.all p)
 | 0, p, [] => by simp [kidsR]
 | 0, p, _ :: _ => by simp [kidsR]
 | n + 1, p, [] => by simp [kidsR, List.replicate_succ]
 | n + 1, p, x :: l => by
  rw [List.replicate_succ, kidsR, kidsR_same n p l]
  simp only [List.length_cons, Nat.add_right_cancel_iff, List.all_cons]
  cases p x <;> simp
theorem asg_eq (g : Sg) (c : Int) (a : Tree) (hs : a.kids.length ≤ 20000) : 
  ((decide (1 ≤ a.num) && decide (a.num < (a.kids.length : Int))) && kidsR ((rep c a).map (isK g)) (restO (isK g) 7) a.kids) = asgS g (isK g c) a := by
 unfold asgS
 by_cases h1 : 1 ≤ a.num
 ·by_cases h2 : a.num < (a.kids.length : Int)
  ·rw [decide_eq_true h1, decide_eq_true h2, ← allS_kids]
   have h3 : rep c a = List.replicate a.num.toNat c := by unfold rep; rw [show min a.num.toNat 20001 = a.num.toNat by omega]
   rw [h3, allS_take (isK g) c 7 a.num.toNat a.kids (by omega), List.length_replicate, decide_eq_true (show a.num.toNat ≤ a.kids.length by omega)]
   rfl
  ·rw [decide_eq_false h2, decide_eq_true h1]; rfl
 ·rw [decide_eq_false h1]; rfl
def shB (p : Int → Tree → Bool) (x : Shape) (a : Tree) : Bool := (x.ok && (decide (a.num = 0) || numB a.kind)) && (textB x a && kidsR (x.ks.map p) (restO p x.rest) a.kids)
theorem text0 {ks : List Int} {r : Int} {o : Bool} (a : Tree) : textB ⟨ks, r, 0, o⟩ a = decide (a.name = []) := by unfold textB; cases decide (a.name = []) <;> rfl
theorem text1 {ks : List Int} {r : Int} {o : Bool} (a : Tree) : textB ⟨ks, r, 1, o⟩ a = isName a.name := by unfold textB; cases isName a.name <;> rfl
theorem text2 {ks : List Int} {r : Int} {o : Bool} (a : Tree) : textB ⟨ks, r, 2, o⟩ a = true := rfl
theorem num_y {k : Int} (a : Tree) (h : a.kind = k) (hk : numB k = true) : (decide (a.num = 0) || numB a.kind) = true := by rw [h, hk, Bool.or_true]
theorem num_n {k : Int} (a : Tree) (h : a.kind = k) (hk : numB k = false) : (decide (a.num = 0) || numB a.kind) = decide (a.num = 0) := by rw [h, hk, Bool.or_false]
theorem bareB_eq (a : Tree) (k t u : Bool) : bareB a k t u = (k && ((t || decide (a.name = [])) && (u || decide (a.num = 0)))) := rfl
section
variable (g : Sg) (a : Tree)
theorem shY {x : Shape} {k : Int} {o : Bool} {ps : List (Tree → Bool)} {r : Option (Tree → Bool)} (hk : a.kind = k) (hn : numB k = true) (ho : x.ok = o) (hp : x.ks.map (isK g) = ps) (hr : restO (isK g) x.rest = r) : shB (isK g) x a = (o && (textB x a && kidsR ps r a.kids)) := by
 unfold shB; rw [num_y a hk hn, hp, hr, ho, Bool.and_true]
theorem shN {x : Shape} {k : Int} {o : Bool} {ps : List (Tree → Bool)} {r : Option (Tree → Bool)} (hk : a.kind = k) (hn : numB k = false) (ho : x.ok = o) (hp : x.ks.map (isK g) = ps) (hr : restO (isK g) x.rest = r) : shB (isK g) x a = ((o && decide (a.num = 0)) && (textB x a && kidsR ps r a.kids)) := by
 unfold shB; rw [num_n a hk hn, hp, hr, ho]
theorem ofB_eq {k : Int} (h : a.kind = k) : ofB a k = (decide (a.num = 0) && isName a.name) := by unfold ofB; rw [decide_eq_true h, Bool.true_and]
theorem kidsR_nil (p : Tree → Bool) (l : List Tree) : kidsR [] (some p) l = l.all p := rfl
theorem kidsR_two (p : Tree → Bool) (l : List Tree) : kidsR [p, p] none l = (decide (l.length = 2) && l.all p) := kidsR_same 2 p l
theorem kidsR_three (p : Tree → Bool) (l : List Tree) : kidsR [p, p, p] none l = (decide (l.length = 3) && l.all p) := kidsR_same 3 p l
theorem sh_expr : shB (isK g) (shExpr levelD a) a = exprS g a := by
 unfold shExpr exprS
 by_cases h : a.kind = 40
 ·rw [if_pos h, if_pos h, shY g a h rfl rfl (ps := []) (r := none) rfl rfl]
  simp only [text0, text1, text2, bareB_eq, kidsR_nil, ofB_eq a h]
  simp only [Bool.true_and, Bool.and_true, Bool.false_or, Bool.true_or, Bool.or_false, decide_true, bareB_eq, Bool.and_assoc]; try ac_rfl
 rw [if_neg h, if_neg h]; clear h
 by_cases h : a.kind = 41
 ·rw [if_pos h, if_pos h, shN g a h rfl rfl (ps := []) (r := none) rfl rfl]
  simp only [text0, text1, text2, bareB_eq, kidsR_nil, ofB_eq a h]
  simp only [Bool.true_and, Bool.and_true, Bool.false_or, Bool.true_or, Bool.or_false, decide_true, bareB_eq, Bool.and_assoc]; try ac_rfl
 rw [if_neg h, if_neg h]; clear h
 by_cases h : a.kind = 42
 ·rw [if_pos h, if_pos h, shY g a h rfl rfl (ps := []) (r := none) rfl rfl, text0, bareB_eq]
  rw [show (decide (a.num = 0) || decide (a.num = 1)) = decide (a.num / 2 = 0) by rw [← Bool.decide_or]; exact decide_eq_decide.2 (by omega)]
  simp only [Bool.true_and, Bool.and_true, Bool.false_or, Bool.true_or, Bool.or_false, decide_true, bareB_eq, Bool.and_assoc]; try ac_rfl
 rw [if_neg h, if_neg h]; clear h
 by_cases h : a.kind = 43
 ·rw [if_pos h, if_pos h, shN g a h rfl rfl (ps := []) (r := none) rfl rfl]
  simp only [text0, text1, text2, bareB_eq, kidsR_nil, ofB_eq a h]
  simp only [Bool.true_and, Bool.and_true, Bool.false_or, Bool.true_or, Bool.or_false, decide_true, bareB_eq, Bool.and_assoc]; try ac_rfl
 rw [if_neg h, if_neg h]; clear h
 by_cases h : a.kind = 44
 ·rw [if_pos h, if_pos h, shN g a h rfl rfl (ps := []) (r := none) rfl rfl]
  simp only [text0, text1, text2, bareB_eq, kidsR_nil, ofB_eq a h]
  simp only [Bool.true_and, Bool.and_true, Bool.false_or, Bool.true_or, Bool.or_false, decide_true, bareB_eq, Bool.and_assoc]; try ac_rfl
 rw [if_neg h, if_neg h]; clear h
 by_cases h : a.kind = 45
 ·rw [if_pos h, if_pos h, shN g a h rfl rfl (ps := []) (r := (some g.expr)) rfl rfl]
  simp only [text0, text1, text2, bareB_eq, kidsR_nil, ofB_eq a h]
  simp only [Bool.true_and, Bool.and_true, Bool.false_or, Bool.true_or, Bool.or_false, decide_true, bareB_eq, Bool.and_assoc]; try ac_rfl
 rw [if_neg h, if_neg h]; clear h
 by_cases h : a.kind = 46
 ·rw [if_pos h, if_pos h, shN g a h rfl rfl (ps := [Tree.isType]) (r := (some g.expr)) rfl rfl]
  simp only [text0, text1, text2, bareB_eq, kidsR_nil, ofB_eq a h]
  simp only [Bool.true_and, Bool.and_true, Bool.false_or, Bool.true_or, Bool.or_false, decide_true, bareB_eq, Bool.and_assoc]; try ac_rfl
 rw [if_neg h, if_neg h]; clear h
 by_cases h : a.kind = 47
 ·rw [if_pos h, if_pos h, shN g a h rfl rfl (ps := [Tree.isSig, g.block]) (r := none) rfl rfl]
  simp only [text0, text1, text2, bareB_eq, kidsR_nil, ofB_eq a h]
  simp only [Bool.true_and, Bool.and_true, Bool.false_or, Bool.true_or, Bool.or_false, decide_true, bareB_eq, Bool.and_assoc]; try ac_rfl
 rw [if_neg h, if_neg h]; clear h
 by_cases h : a.kind = 48
 ·rw [if_pos h, if_pos h, shN g a h rfl rfl (ps := [g.expr]) (r := none) rfl rfl]
  simp only [text0, text1, text2, bareB_eq, kidsR_nil, ofB_eq a h]
  simp only [Bool.true_and, Bool.and_true, Bool.false_or, Bool.true_or, Bool.or_false, decide_true, bareB_eq, Bool.and_assoc]; try ac_rfl
 rw [if_neg h, if_neg h]; clear h
 by_cases h : a.kind = 49
 ·rw [if_pos h, if_pos h, shN g a h rfl rfl (ps := [g.expr, g.expr]) (r := none) rfl rfl]
  simp only [text0, text1, text2, bareB_eq, kidsR_nil, ofB_eq a h]
  simp only [Bool.true_and, Bool.and_true, Bool.false_or, Bool.true_or, Bool.or_false, decide_true, bareB_eq, Bool.and_assoc]; try ac_rfl
 rw [if_neg h, if_neg h]; clear h
 by_cases h : a.kind = 50
 ·rw [if_pos h, if_pos h]
  unfold lvl
  by_cases n0 : a.num = 0
  ·rw [if_pos n0, shY g a h rfl rfl (ps := [g.expr]) (r := none) rfl rfl, text0, bareB_eq, kidsR1, n0]
   rw [show decide ((a.kids.length : Int) = 1 + 0 % 2 + 0 / 2) = decide (a.kids.length = 1) from decide_eq_decide.2 (by omega)]
   simp only [Bool.true_and, Bool.and_true, Bool.false_or, Bool.true_or, Bool.or_false, decide_true, bareB_eq, Bool.and_assoc]; try ac_rfl
  rw [if_neg n0]
  by_cases n1 : a.num = 1 ∨ a.num = 2
  ·rw [if_pos n1, shY g a h rfl rfl (ps := [g.expr, g.expr]) (r := none) rfl rfl, text0, bareB_eq, kidsR_two]
   rcases n1 with n1 | n1
   ·rw [n1, show decide ((a.kids.length : Int) = 1 + 1 % 2 + 1 / 2) = decide (a.kids.length = 2) from decide_eq_decide.2 (by omega)]
    simp only [Bool.true_and, Bool.and_true, Bool.false_or, Bool.true_or, Bool.or_false, decide_true, bareB_eq, Bool.and_assoc]; try ac_rfl
   ·rw [n1, show decide ((a.kids.length : Int) = 1 + 2 % 2 + 2 / 2) = decide (a.kids.length = 2) from decide_eq_decide.2 (by omega)]
    simp only [Bool.true_and, Bool.and_true, Bool.false_or, Bool.true_or, Bool.or_false, decide_true, bareB_eq, Bool.and_assoc]; try ac_rfl
  rw [if_neg n1]
  by_cases n3 : a.num = 3
  ·rw [if_pos n3, shY g a h rfl rfl (ps := [g.expr, g.expr, g.expr]) (r := none) rfl rfl, text0, bareB_eq, kidsR_three, n3]
   rw [show decide ((a.kids.length : Int) = 1 + 3 % 2 + 3 / 2) = decide (a.kids.length = 3) from decide_eq_decide.2 (by omega)]
   simp only [Bool.true_and, Bool.and_true, Bool.false_or, Bool.true_or, Bool.or_false, decide_true, bareB_eq, Bool.and_assoc]; try ac_rfl
  rw [if_neg n3, shY g a h rfl rfl (ps := []) (r := none) rfl rfl, bareB_eq, Bool.false_and]
  by_cases n4 : 0 ≤ a.num
  ·rw [decide_eq_false (show ¬ a.num ≤ 3 by omega), Bool.false_and, Bool.and_false, Bool.false_and, Bool.false_and]
  ·rw [decide_eq_false n4, Bool.false_and, Bool.false_and, Bool.false_and]
 rw [if_neg h, if_neg h]; clear h
 by_cases h : a.kind = 51
 ·rw [if_pos h, if_pos h, shN g a h rfl rfl (ps := [g.expr]) (r := (some g.expr)) rfl rfl]
  simp only [text0, text1, text2, bareB_eq, kidsR_nil, ofB_eq a h]
  simp only [Bool.true_and, Bool.and_true, Bool.false_or, Bool.true_or, Bool.or_false, decide_true, bareB_eq, Bool.and_assoc]; try ac_rfl
 rw [if_neg h, if_neg h]; clear h
 by_cases h : a.kind = 52
 ·rw [if_pos h, if_pos h, shN g a h rfl rfl (ps := [g.expr]) (r := none) rfl rfl, text2, bareB_eq]
  rw [show (decide (a.name = [45]) || (decide (a.name = [33]) || (decide (a.name = [38]) || decide (a.name = [42])))) = decide (a.name ∈ ops4) by rw [← Bool.decide_or, ← Bool.decide_or, ← Bool.decide_or]; exact decide_eq_decide.2 (by simp [ops4])]
  simp only [Bool.true_and, Bool.and_true, Bool.false_or, Bool.true_or, Bool.or_false, decide_true, bareB_eq, Bool.and_assoc]; try ac_rfl
 rw [if_neg h, if_neg h]; clear h
 by_cases h : a.kind = 53
 ·rw [if_pos h, if_pos h, shN g a h rfl rfl (ps := [g.expr, g.expr]) (r := none) rfl rfl, text2, bareB_eq, level_iff]
  simp only [Bool.true_and, Bool.and_true, Bool.false_or, Bool.true_or, Bool.or_false, decide_true, bareB_eq, Bool.and_assoc]; try ac_rfl
 rw [if_neg h, if_neg h]; clear h
 unfold shB
 simp
theorem headS_y {a : Tree} {k : Int} (h : a.kind = k) (h1 : k = 21) : headS a = decide (a.num = 0) := by
 unfold headS; rw [h, h1]; rfl
theorem headS_a {a : Tree} {k : Int} (h : a.kind = k) (h1 : k = 22 ∨ k = 23) : headS a = decide (a.name = []) := by
 unfold headS; rw [h]; rcases h1 with rfl | rfl <;> simp
theorem headS_n {a : Tree} {k : Int} (h : a.kind = k) (h1 : k ≠ 21 ∧ k ≠ 22 ∧ k ≠ 23) : headS a = (decide (a.name = []) && decide (a.num = 0)) := by
 unfold headS; rw [h, decide_eq_false h1.1, decide_eq_false h1.2.1, decide_eq_false h1.2.2]; rfl
theorem stmtS_head : stmtS g a = (headS a && (if a.kind = 20 then blockS g a
 else if a.kind = 21 then isName a.name && (kidsR [Tree.isType] none a.kids || kidsR [Tree.isType, g.expr] none a.kids)
 else if a.kind = 22 then asgS g (nmS g) a
 else if a.kind = 23 then asgS g (plS g) a
 else if a.kind = 24 then kidsR [callS g] none a.kids
 else if a.kind = 25 then kidsR [g.expr, g.block] none a.kids || kidsR [g.expr, g.block, otherS g] none a.kids
 else if a.kind = 26 then kidsR [g.block] none a.kids || kidsR [g.expr, g.block] none a.kids
 else if a.kind = 27 then a.kids.all g.expr
 else if a.kind = 28 ∨ a.kind = 29 then kidsR [] none a.kids
 else false)) := by
 unfold stmtS
 cases headS a <;> simp
theorem or_len {A B : Bool} {l : List Tree} {n : Nat} (hA : A = true → l.length = n) (hB : B = true → l.length ≠ n) : (A || B) = if l.length = n then A else B := by
 cases A with
 | true => rw [if_pos (hA rfl)]; rfl
 | false =>
  cases B with
  | true => rw [if_neg (hB rfl)]; rfl
  | false => split <;> rfl
theorem kidsR1_len (p : Tree → Bool) (l : List Tree) (h : kidsR [p] none l = true) : l.length = 1 := by
 rw [kidsR1, Bool.and_eq_true] at h; exact of_decide_eq_true h.1
theorem sh_stmt (hs : a.kids.length ≤ 20000) : shB (isK g) (shStmt levelD a) a = stmtS g a := by
 rw [stmtS_head]
 unfold shStmt
 by_cases h : a.kind = 20
 ·rw [if_pos h, if_pos h, shN g a h rfl rfl (ps := []) (r := some g.stmt) rfl rfl, text0, headS_n h (by decide), kidsR_nil, blockS, bareB_eq, decide_eq_true h]
  simp only [Bool.true_and, Bool.and_true, Bool.false_or, Bool.true_or, Bool.or_false, decide_true, bareB_eq, Bool.and_assoc]
  cases decide (a.name = []) <;> cases decide (a.num = 0) <;> rfl
 rw [if_neg h, if_neg h]; clear h
 by_cases h : a.kind = 21
 ·rw [if_pos h, if_pos h, headS_y h rfl, or_len (kidsR1_len _ _) (fun h => by have := kidsR2 _ _ _ h; omega)]
  by_cases h2 : a.kids.length = 1
  ·rw [if_pos h2, if_pos h2, shN g a h rfl rfl (ps := [Tree.isType]) (r := none) rfl rfl, text1]
   simp only [Bool.true_and, Bool.and_true, Bool.false_or, Bool.true_or, Bool.or_false, decide_true, bareB_eq, Bool.and_assoc]; try ac_rfl
  ·rw [if_neg h2, if_neg h2, shN g a h rfl rfl (ps := [Tree.isType, g.expr]) (r := none) rfl rfl, text1]
   simp only [Bool.true_and, Bool.and_true, Bool.false_or, Bool.true_or, Bool.or_false, decide_true, bareB_eq, Bool.and_assoc]; try ac_rfl
 rw [if_neg h, if_neg h]; clear h
 by_cases h : a.kind = 22
 ·rw [if_pos h, if_pos h, headS_a h (.inl rfl), shY g a h rfl rfl rfl rfl, text0, ← show isK g 11 = nmS g from rfl, ← asg_eq g 11 a hs]
  simp only [Bool.true_and, Bool.and_true, Bool.false_or, Bool.true_or, Bool.or_false, decide_true, bareB_eq, Bool.and_assoc]; try ac_rfl
 rw [if_neg h, if_neg h]; clear h
 by_cases h : a.kind = 23
 ·rw [if_pos h, if_pos h, headS_a h (.inr rfl), shY g a h rfl rfl rfl rfl, text0, ← show isK g 10 = plS g from rfl, ← asg_eq g 10 a hs]
  simp only [Bool.true_and, Bool.and_true, Bool.false_or, Bool.true_or, Bool.or_false, decide_true, bareB_eq, Bool.and_assoc]; try ac_rfl
 rw [if_neg h, if_neg h]; clear h
 by_cases h : a.kind = 24
 ·rw [if_pos h, if_pos h, headS_n h (by decide), shN g a h rfl rfl (ps := [callS g]) (r := none) rfl rfl, text0]
  simp only [Bool.true_and, Bool.and_true, Bool.false_or, Bool.true_or, Bool.or_false, decide_true, bareB_eq, Bool.and_assoc]; try ac_rfl
 rw [if_neg h, if_neg h]; clear h
 by_cases h : a.kind = 25
 ·rw [if_pos h, if_pos h, headS_n h (by decide), or_len (kidsR2 _ _ _) (fun h => by have := kidsR3 _ _ _ _ h; omega)]
  by_cases h2 : a.kids.length = 2
  ·rw [if_pos h2, if_pos h2, shN g a h rfl rfl (ps := [g.expr, g.block]) (r := none) rfl rfl, text0]
   simp only [Bool.true_and, Bool.and_true, Bool.false_or, Bool.true_or, Bool.or_false, decide_true, bareB_eq, Bool.and_assoc]; try ac_rfl
  ·rw [if_neg h2, if_neg h2, shN g a h rfl rfl (ps := [g.expr, g.block, otherS g]) (r := none) rfl rfl, text0]
   simp only [Bool.true_and, Bool.and_true, Bool.false_or, Bool.true_or, Bool.or_false, decide_true, bareB_eq, Bool.and_assoc]; try ac_rfl
 rw [if_neg h, if_neg h]; clear h
 by_cases h : a.kind = 26
 ·rw [if_pos h, if_pos h, headS_n h (by decide), or_len (kidsR1_len _ _) (fun h => by have := kidsR2 _ _ _ h; omega)]
  by_cases h2 : a.kids.length = 1
  ·rw [if_pos h2, if_pos h2, shN g a h rfl rfl (ps := [g.block]) (r := none) rfl rfl, text0]
   simp only [Bool.true_and, Bool.and_true, Bool.false_or, Bool.true_or, Bool.or_false, decide_true, bareB_eq, Bool.and_assoc]; try ac_rfl
  ·rw [if_neg h2, if_neg h2, shN g a h rfl rfl (ps := [g.expr, g.block]) (r := none) rfl rfl, text0]
   simp only [Bool.true_and, Bool.and_true, Bool.false_or, Bool.true_or, Bool.or_false, decide_true, bareB_eq, Bool.and_assoc]; try ac_rfl
 rw [if_neg h, if_neg h]; clear h
 by_cases h : a.kind = 27
 ·rw [if_pos h, if_pos h, headS_n h (by decide), shN g a h rfl rfl (ps := []) (r := some g.expr) rfl rfl, text0, kidsR_nil]
  simp only [Bool.true_and, Bool.and_true, Bool.false_or, Bool.true_or, Bool.or_false, decide_true, bareB_eq, Bool.and_assoc]; try ac_rfl
 rw [if_neg h, if_neg h]; clear h
 by_cases h : a.kind = 28 ∨ a.kind = 29
 ·rw [if_pos h, if_pos h]
  rcases h with h | h
  ·rw [headS_n h (by decide), shN g a h rfl rfl (ps := []) (r := none) rfl rfl, text0]
   simp only [Bool.true_and, Bool.and_true, Bool.false_or, Bool.true_or, Bool.or_false, decide_true, bareB_eq, Bool.and_assoc]; try ac_rfl
  ·rw [headS_n h (by decide), shN g a h rfl rfl (ps := []) (r := none) rfl rfl, text0]
   simp only [Bool.true_and, Bool.and_true, Bool.false_or, Bool.true_or, Bool.or_false, decide_true, bareB_eq, Bool.and_assoc]; try ac_rfl
 rw [if_neg h, if_neg h]; clear h
 unfold shB
 simp
theorem sh_but (p : Int → Tree → Bool) (x : Shape) (c : Bool) : shB p (x.but c) a = (c && shB p x a) := by
 unfold shB Shape.but
 cases c <;> rfl
theorem sh_block (g : Sg) : shB (isK g) ⟨[], 6, 0, decide (a.kind = 20)⟩ a = blockS g a := by
 by_cases h : a.kind = 20
 ·rw [shN g a h rfl rfl (ps := []) (r := some g.stmt) rfl rfl, text0, kidsR_nil, blockS]
  simp only [Bool.true_and, Bool.and_true, Bool.false_or, Bool.true_or, Bool.or_false, decide_true, bareB_eq, Bool.and_assoc]; try ac_rfl
 ·unfold shB blockS
  simp only [bareB_eq, decide_eq_false h, Bool.false_and]
theorem sh_typ : shB (isK g) (shTyp a) a = a.isType := by
 rw [isType_eq]
 unfold shTyp
 by_cases h : a.kind = 10
 ·rw [if_pos h, if_pos h, shN g a h rfl rfl (ps := []) (r := none) rfl rfl, text1, kidsR0]
  simp only [Bool.true_and, Bool.and_true, Bool.false_or, Bool.true_or, Bool.or_false, decide_true, bareB_eq, Bool.and_assoc]; try ac_rfl
 rw [if_neg h, if_neg h]; clear h
 by_cases h : a.kind = 11 ∨ a.kind = 12
 ·rw [if_pos h, if_pos h]
  rcases h with h | h
  ·rw [shN g a h rfl rfl (ps := [Tree.isType]) (r := none) rfl rfl, text0, kidsR1]
   simp only [Bool.true_and, Bool.and_true, Bool.false_or, Bool.true_or, Bool.or_false, decide_true, bareB_eq, Bool.and_assoc]; try ac_rfl
  ·rw [shN g a h rfl rfl (ps := [Tree.isType]) (r := none) rfl rfl, text0, kidsR1]
   simp only [Bool.true_and, Bool.and_true, Bool.false_or, Bool.true_or, Bool.or_false, decide_true, bareB_eq, Bool.and_assoc]; try ac_rfl
 rw [if_neg h, if_neg h]; clear h
 by_cases h : a.kind = 13
 ·rw [if_pos h, if_pos h, shY g a h rfl rfl (ps := []) (r := some Tree.isType) rfl rfl, text0, kidsR_nil]
  simp only [Bool.true_and, Bool.and_true, Bool.false_or, Bool.true_or, Bool.or_false, decide_true, bareB_eq, Bool.and_assoc]; try ac_rfl
 rw [if_neg h, if_neg h]; clear h
 unfold shB
 simp
theorem sh_param : shB (isK g) ⟨[2], 0, 1, decide (a.kind = 8)⟩ a = a.isParam := by
 unfold Tree.isParam
 by_cases h : a.kind = 8
 ·rw [shN g a h rfl rfl (ps := [Tree.isType]) (r := none) rfl rfl, text1, kidsR1]
  simp only [Bool.true_and, Bool.and_true, Bool.false_or, Bool.true_or, Bool.or_false, decide_true, bareB_eq, Bool.and_assoc]; try ac_rfl
 ·unfold shB; simp only [decide_eq_false h, Bool.false_and]
theorem sh_field (p : Tree → Bool) (k : Int) (hp : [k].map (isK g) = [p]) : shB (isK g) ⟨[k], 0, 1, decide (a.kind = 6)⟩ a = fieldS p a := by
 unfold fieldS
 by_cases h : a.kind = 6
 ·rw [shN g a h rfl rfl (ps := [p]) (r := none) hp rfl, text1, ofB_eq a h, decide_eq_true h]
  simp only [Bool.true_and, Bool.and_true, Bool.false_or, Bool.true_or, Bool.or_false, decide_true, bareB_eq, Bool.and_assoc]; try ac_rfl
 ·unfold shB ofB; simp only [decide_eq_false h, Bool.false_and]
theorem sh_sig (hs : a.kids.length ≤ 20000) : shB (isK g) (shSig a) a = a.isSig := by
 unfold shSig Tree.isSig
 by_cases h : a.kind = 7
 ·rw [shY g a h rfl rfl rfl rfl, text0, decide_eq_true h]
  by_cases h1 : 0 ≤ a.num
  ·by_cases h2 : a.num ≤ (a.kids.length : Int)
   ·rw [← allS_kids]
    have h3 : rep 4 a = List.replicate a.num.toNat 4 := by unfold rep; rw [show min a.num.toNat 20001 = a.num.toNat by omega]
    rw [h3, allS_take (isK g) 4 2 a.num.toNat a.kids (by omega), List.length_replicate, decide_eq_true (show a.num.toNat ≤ a.kids.length by omega), decide_eq_true h1, decide_eq_true h2, ← show isK g 4 = Tree.isParam from rfl, ← show isK g 2 = Tree.isType from rfl]
    simp only [show decide ((2 : Int) = 0) = false from rfl, Bool.not_false, Bool.true_or, Bool.true_and]
   ·simp only [decide_eq_false h2, Bool.and_false, Bool.false_and]
  ·simp only [decide_eq_false h1, Bool.and_false, Bool.false_and]
 ·unfold shB; simp only [decide_eq_false h, Bool.false_and]
theorem sh_decl : shB (isK g) (shDecl a) a = declS g a := by
 unfold shDecl declS
 by_cases h : a.kind = 2
 ·rw [if_pos h, if_pos h, shN g a h rfl rfl (ps := []) (r := (some (fieldS Tree.isType))) rfl rfl]
  simp only [text0, text1, text2, bareB_eq, kidsR_nil, ofB_eq a h]
  simp only [Bool.true_and, Bool.and_true, Bool.false_or, Bool.true_or, Bool.or_false, decide_true, bareB_eq, Bool.and_assoc]; try ac_rfl
 rw [if_neg h, if_neg h]; clear h
 by_cases h : a.kind = 3
 ·rw [if_pos h, if_pos h, shN g a h rfl rfl (ps := []) (r := (some (fieldS Tree.isSig))) rfl rfl]
  simp only [text0, text1, text2, bareB_eq, kidsR_nil, ofB_eq a h]
  simp only [Bool.true_and, Bool.and_true, Bool.false_or, Bool.true_or, Bool.or_false, decide_true, bareB_eq, Bool.and_assoc]; try ac_rfl
 rw [if_neg h, if_neg h]; clear h
 by_cases h : a.kind = 4
 ·rw [if_pos h, if_pos h, shN g a h rfl rfl (ps := [Tree.isSig, g.block]) (r := none) rfl rfl]
  simp only [text0, text1, text2, bareB_eq, kidsR_nil, ofB_eq a h]
  simp only [Bool.true_and, Bool.and_true, Bool.false_or, Bool.true_or, Bool.or_false, decide_true, bareB_eq, Bool.and_assoc]; try ac_rfl
 rw [if_neg h, if_neg h]; clear h
 by_cases h : a.kind = 5
 ·rw [if_pos h, if_pos h, shN g a h rfl rfl (ps := [recvS, Tree.isSig, g.block]) (r := none) rfl rfl]
  simp only [text0, text1, text2, bareB_eq, kidsR_nil, ofB_eq a h]
  simp only [Bool.true_and, Bool.and_true, Bool.false_or, Bool.true_or, Bool.or_false, decide_true, bareB_eq, Bool.and_assoc]; try ac_rfl
 rw [if_neg h, if_neg h]; clear h
 unfold shB
 simp
end
theorem kid0_eq (a : Tree) : kd0 a = kid0 a := rfl
theorem sh_recv (g : Sg) (a : Tree) : shB (isK g) ⟨[2], 0, 1, ((decide (a.kids.length = 1) && decide ((kd0 a).kind = 11)) && (decide ((kd0 a).kids.length = 1) && decide ((kd0 (kd0 a)).kind = 10))) && decide (a.kind = 8)⟩ a = recvS a := by
 unfold recvS
 rw [← sh_param g a, kid0_eq, kid0_eq]
 by_cases h : a.kind = 8
 ·rw [shN g a h rfl rfl (ps := [Tree.isType]) (r := none) rfl rfl, shN g a h rfl rfl (ps := [Tree.isType]) (r := none) rfl rfl, text1, text1, kidsR1, decide_eq_true h]
  cases hx : decide (a.kids.length = 1) with
  | false => simp only [Bool.false_and, Bool.and_false]
  | true =>
   have h1 : a.kids.length = 1 := of_decide_eq_true hx
   cases hk : decide ((kid0 a).kind = 11) with
   | false => simp only [Bool.false_and, Bool.and_false]
   | true =>
    have h2 : (kid0 a).kind = 11 := of_decide_eq_true hk
    have h3 : a.kids.all Tree.isType = (kid0 a).isType := by
     obtain ⟨x, hx⟩ := List.length_eq_one_iff.1 h1
     unfold kid0
     rw [hx]
     simp
    rw [h3, isType_eq (kid0 a), if_neg (by omega), if_pos (.inl h2)]
    simp only [Bool.true_and, Bool.and_true, Bool.false_or, Bool.true_or, Bool.or_false, decide_true, bareB_eq, Bool.and_assoc]; try ac_rfl
 ·unfold shB; simp only [decide_eq_false h, Bool.false_and, Bool.and_false]
theorem sh_all (k : Int) (hk : Srt k) (a : Tree) (hs : a.kids.length ≤ 20000) : shB (isK lim) (shapeR levelD k a) a = isK lim k a := by
 obtain ⟨l1, l2, l3⟩ := lim_fix a
 have hk : k = 1 ∨ k = 2 ∨ k = 3 ∨ k = 4 ∨ k = 5 ∨ k = 6 ∨ k = 7 ∨ k = 8 ∨ k = 9 ∨ k = 10 ∨ k = 11 ∨ k = 12 ∨ k = 13 ∨ k = 14 := by
  obtain ⟨h1, h2⟩ := hk; omega
 rcases hk with rfl | rfl | rfl | rfl | rfl | rfl | rfl | rfl | rfl | rfl | rfl | rfl | rfl | rfl
 ·exact sh_decl lim a
 ·exact sh_typ lim a
 ·exact sh_sig lim a hs
 ·exact sh_param lim a
 ·exact (sh_block a lim).trans l3.symm
 ·exact (sh_stmt lim a hs).trans l2.symm
 ·exact (sh_expr lim a).trans l1.symm
 ·exact sh_field lim a Tree.isType 2 rfl
 ·exact sh_field lim a Tree.isSig 3 rfl
 ·show shB (isK lim) ((shExpr levelD a).but (Ps.isPl a)) a = (Ps.isPl a && lim.expr a)
  rw [sh_but, sh_expr, l1]
 ·show shB (isK lim) ⟨[], 0, 1, decide (a.kind = 44)⟩ a = (decide (a.kind = 44) && lim.expr a)
  rw [l1]
  by_cases h : a.kind = 44
  ·rw [← sh_expr lim a, decide_eq_true h]
   unfold shExpr
   simp only [h]
   rfl
  ·unfold shB; simp only [decide_eq_false h, Bool.false_and]
 ·show shB (isK lim) ((shExpr levelD a).but (decide (a.kind = 51))) a = (decide (a.kind = 51) && lim.expr a)
  rw [sh_but, sh_expr, l1]
 ·show shB (isK lim) (if a.kind = 25 then shStmt levelD a else ⟨[], 6, 0, decide (a.kind = 20)⟩) a = (lim.block a || (decide (a.kind = 25) && lim.stmt a))
  by_cases h : a.kind = 25
  ·rw [if_pos h, sh_stmt lim a hs, ← l2, decide_eq_true h, l3]
   unfold blockS
   simp only [bareB_eq, decide_eq_false (show ¬ a.kind = 20 by omega), Bool.false_and, Bool.false_or, Bool.true_and]
  ·rw [if_neg h, sh_block, decide_eq_false h, Bool.false_and, Bool.or_false, l3]
 ·exact sh_recv lim a
theorem isD_eq : ∀ (n : Nat) (k : Int) (a : Tree), Srt k → a.deep ≤ n → a.size ≤ 20000 → isD levelD n k a = isK lim k a
 | 0, k, a, _, hd, _ => by have := deep_pos a; omega
 | n + 1, k, a, hk, hd, hs => by
  have hl : a.kids.length ≤ 20000 := by have := len_sizeL a.kids; have := size_kids a; omega
  rw [← sh_all k hk a hl, isD]
  unfold shB
  rw [← is_eq]
  cases hf : fitB (shapeR levelD k a) a with
  | false => rfl
  | true =>
   rw [all_get (q := isK lim) _ _ _ fun i hi => isD_eq n _ a.kids[i] (want_ok (shapeR_ok levelD k a) hf hi) (by have := deep_of_kid (List.getElem_mem hi); omega) (by have := size_of_kid (List.getElem_mem hi); omega)]
def rsoundB (a : Tree) : Bool := decide (a.kind = 1) && (decide (a.name = []) && (decide (a.num = 0) && (withinB a 0 0 && a.kids.all (isD levelD 100 1))))
theorem rsound_eq (a : Tree) : rsoundB a = soundB a := by
 unfold rsoundB soundB
 rw [withinB_eq, bareB_eq]
 by_cases h1 : a.size ≤ 20000
 ·by_cases h2 : a.deep ≤ 100
  ·have h3 : a.kids.all (isD levelD 100 1) = a.kids.all (declS (sg 100)) := all_congr fun x hx => by
    have := deep_of_kid hx
    rw [isD_eq 100 1 x ⟨by decide, by decide⟩ (by omega) (by have := size_of_kid hx; omega), declS_lim (by omega)]
    rfl
   rw [h3, decide_eq_true h1, decide_eq_true h2, decide_eq_true (show (a.size : Int) + 0 ≤ 20000 by omega), decide_eq_true (show (a.deep : Int) + 0 ≤ 100 by omega)]
   simp only [Bool.true_and, Bool.and_true, Bool.false_or, Bool.true_or, Bool.or_false, decide_true, bareB_eq, Bool.and_assoc]; try ac_rfl
  ·rw [decide_eq_false h2, decide_eq_false (show ¬ (a.deep : Int) + 0 ≤ 100 by omega)]
   simp only [Bool.false_and, Bool.and_false]
 ·rw [decide_eq_false h1, decide_eq_false (show ¬ (a.size : Int) + 0 ≤ 20000 by omega)]
  simp only [Bool.false_and, Bool.and_false]
end Go.Sep


/- PrShB -/
set_option linter.unusedVariables false
set_option linter.unusedSimpArgs false
namespace Go.Sep
open Go.Proofs
attribute [local irreducible] TC TO OT TCallX TCall DO DOt thenQ blockQ retQ At
section
variable (lv : Str → Nat) (hlv : ∀ (m : Mem) (L : List Item) (s : Str), TCall Tryz.prog 16 ⟨[strV s]⟩ m L (Ret (.int .i64 (lv s : Int)) m L))
include hlv in
set_option maxHeartbeats 1600000 in
theorem shape_k10 (a : Tree) (m : Mem) (L : List Item) (h : HTree) (hr : TreeRep m h a) : TCall Tryz.prog 51 ⟨[treeV h, .int .i64 10]⟩ m L (ShapeIs m L ((shExpr lv a).but (Ps.isPl a))) := by
 have hr' := hr
 obtain ⟨h1, h2, h3, h4⟩ := hr
 unfold TCall
 refine TCallX.enter Tryz.func51 rfl 236 rfl ?_
 have hpl : Ps.isPl a = (decide (a.kind = 44) || (decide (a.kind = 48) || (decide (a.kind = 49) || (decide (a.kind = 52) && decide (a.name = [42]))))) := rfl
 have hk : a.kind = 44 ∨ a.kind = 48 ∨ a.kind = 49 ∨ a.kind = 52 ∨ (a.kind ≠ 44 ∧ a.kind ≠ 48 ∧ a.kind ≠ 49 ∧ a.kind ≠ 52) := by omega
 obtain ⟨k, n, u, s⟩ := h
 rcases hk with hk | hk | hk | hk | hk
 ·obtain rfl : k = 44 := h1.trans hk
  have hp : Ps.isPl a = true := by rw [hpl, hk]; rfl
  repeat (first|refine q1 ?_|refine q3 ?_)
  refine TO.step rfl (OT.box rfl rfl rfl rfl rfl (fun b => ?_))
  repeat (first|(first|refine q1 ?_|refine q2 ?_|refine q3 ?_|refine q4 tab rfl rfl ?_|refine q5 ?_|refine q6 ?_|refine q16 rfl ?_)|(first|refine qs rfl (ql tab 0 rfl rfl rfl rfl rfl rfl ?_)|refine qs rfl (qz tab 0 rfl rfl rfl rfl rfl rfl ?_)))
  refine TO.step rfl (OT.call rfl rfl rfl rfl rfl rfl goes51 ((shape_expr lv hlv a _ _ _ hr').x ?_));
  rintro _ m1 _ ⟨hm1, rfl, s, rfl, hs⟩
  repeat (first|refine q1 ?_|refine q3 ?_|refine q4 tab rfl rfl ?_|refine q5 ?_|refine q6 ?_|refine q8 ?_|refine q9 ?_|refine q15 ?_)
  refine retQ_ret rfl (by repeat (first|exact List.Sublist.refl _|refine List.Sublist.cons _ ?_)) ⟨hm1, rfl, s, ?_, hs⟩
  rw [hp]; rfl
 ·obtain rfl : k = 48 := h1.trans hk
  have hp : Ps.isPl a = true := by rw [hpl, hk]; rfl
  repeat (first|refine q1 ?_|refine q3 ?_)
  refine TO.step rfl (OT.box rfl rfl rfl rfl rfl (fun b => ?_))
  repeat (first|(first|refine q1 ?_|refine q2 ?_|refine q3 ?_|refine q4 tab rfl rfl ?_|refine q5 ?_|refine q6 ?_|refine q16 rfl ?_)|(first|refine qs rfl (ql tab 0 rfl rfl rfl rfl rfl rfl ?_)|refine qs rfl (qz tab 0 rfl rfl rfl rfl rfl rfl ?_)))
  refine TO.step rfl (OT.call rfl rfl rfl rfl rfl rfl goes51 ((shape_expr lv hlv a _ _ _ hr').x ?_));
  rintro _ m1 _ ⟨hm1, rfl, s, rfl, hs⟩
  repeat (first|refine q1 ?_|refine q3 ?_|refine q4 tab rfl rfl ?_|refine q5 ?_|refine q6 ?_|refine q8 ?_|refine q9 ?_|refine q15 ?_)
  refine retQ_ret rfl (by repeat (first|exact List.Sublist.refl _|refine List.Sublist.cons _ ?_)) ⟨hm1, rfl, s, ?_, hs⟩
  rw [hp]; rfl
 ·obtain rfl : k = 49 := h1.trans hk
  have hp : Ps.isPl a = true := by rw [hpl, hk]; rfl
  repeat (first|refine q1 ?_|refine q3 ?_)
  refine TO.step rfl (OT.box rfl rfl rfl rfl rfl (fun b => ?_))
  repeat (first|(first|refine q1 ?_|refine q2 ?_|refine q3 ?_|refine q4 tab rfl rfl ?_|refine q5 ?_|refine q6 ?_|refine q16 rfl ?_)|(first|refine qs rfl (ql tab 0 rfl rfl rfl rfl rfl rfl ?_)|refine qs rfl (qz tab 0 rfl rfl rfl rfl rfl rfl ?_)))
  refine TO.step rfl (OT.call rfl rfl rfl rfl rfl rfl goes51 ((shape_expr lv hlv a _ _ _ hr').x ?_));
  rintro _ m1 _ ⟨hm1, rfl, s, rfl, hs⟩
  repeat (first|refine q1 ?_|refine q3 ?_|refine q4 tab rfl rfl ?_|refine q5 ?_|refine q6 ?_|refine q8 ?_|refine q9 ?_|refine q15 ?_)
  refine retQ_ret rfl (by repeat (first|exact List.Sublist.refl _|refine List.Sublist.cons _ ?_)) ⟨hm1, rfl, s, ?_, hs⟩
  rw [hp]; rfl
 ·obtain rfl : k = 52 := h1.trans hk
  obtain rfl : n = a.name := h2
  have hp : Ps.isPl a = decide (a.name = [42]) := by rw [hpl, hk]; rfl
  repeat (first|refine q1 ?_|refine q3 ?_)
  refine TO.step rfl (OT.box rfl rfl rfl rfl rfl (fun b => ?_))
  repeat (first|(first|refine q1 ?_|refine q2 ?_|refine q3 ?_|refine q4 tab rfl rfl ?_|refine q5 ?_|refine q6 ?_|refine q16 rfl ?_)|(first|refine qs rfl (ql tab 0 rfl rfl rfl rfl rfl rfl ?_)|refine qs rfl (qz tab 0 rfl rfl rfl rfl rfl rfl ?_)))
  refine TO.step rfl (OT.call rfl rfl rfl rfl rfl rfl goes51 ((shape_expr lv hlv a _ _ _ hr').x ?_));
  rintro _ m1 _ ⟨hm1, rfl, s, rfl, hs⟩
  repeat (first|refine q1 ?_|refine q3 ?_|refine q4 tab rfl rfl ?_|refine q5 ?_|refine q6 ?_)
  (refine TO.splitP rfl rfl (fun c1 => ?_) (fun c1 => ?_))
  ·repeat (first|refine q4 tab rfl rfl ?_|refine q5 ?_|refine q6 ?_|refine q8 ?_|refine q9 ?_|refine q15 ?_)
   refine retQ_ret rfl (by repeat (first|exact List.Sublist.refl _|refine List.Sublist.cons _ ?_)) ⟨hm1, rfl, s, ?_, hs⟩
   rw [hp, decide_eq_true c1]; rfl
  ·repeat (first|refine q4 tab rfl rfl ?_|refine q5 ?_|refine q6 ?_|refine q8 ?_|refine q9 ?_|refine q15 ?_)
   refine retQ_ret rfl (by repeat (first|exact List.Sublist.refl _|refine List.Sublist.cons _ ?_)) ⟨hm1, rfl, s, ?_, hs⟩
   rw [hp, decide_eq_false c1]; rfl
 ·obtain ⟨k1, k2, k3, k4⟩ := hk
  have hp : Ps.isPl a = false := by rw [hpl, decide_eq_false k1, decide_eq_false k2, decide_eq_false k3, decide_eq_false k4]; rfl
  obtain rfl : k = a.kind := h1
  repeat (first|refine q1 ?_|refine q3 ?_)
  refine TO.step rfl (OT.box rfl rfl rfl rfl rfl (fun b => ?_))
  repeat (first|(first|refine q1 ?_|refine q2 ?_|refine q3 ?_|refine q4 tab rfl rfl ?_|refine q5 ?_|refine q6 ?_|refine q16 rfl ?_)|(refine qs rfl (ql tab 0 rfl rfl rfl rfl rfl rfl ?_)))
  (refine TO.splitP rfl rfl (fun c1 => ?_) (fun c1 => ?_))
  ·exact absurd c1 k1
  repeat (first|(refine q4 tab rfl rfl ?_)|(refine qs rfl (ql tab 0 rfl rfl rfl rfl rfl rfl ?_)))
  (refine TO.splitP rfl rfl (fun c2 => ?_) (fun c2 => ?_))
  ·exact absurd c2 k2
  repeat (first|(refine q4 tab rfl rfl ?_)|(refine qs rfl (ql tab 0 rfl rfl rfl rfl rfl rfl ?_)))
  (refine TO.splitP rfl rfl (fun c3 => ?_) (fun c3 => ?_))
  ·exact absurd c3 k3
  repeat (first|(refine q4 tab rfl rfl ?_)|(refine qs rfl (ql tab 0 rfl rfl rfl rfl rfl rfl ?_)))
  (refine TO.splitP rfl rfl (fun c4 => ?_) (fun c4 => ?_))
  ·exact absurd c4 k4
  repeat (first|(first|refine q1 ?_|refine q3 ?_|refine q4 tab rfl rfl ?_|refine q5 ?_|refine q6 ?_)|(refine qs rfl (qz tab 0 rfl rfl rfl rfl rfl rfl ?_)))
  refine TO.step rfl (OT.call rfl rfl rfl rfl rfl rfl goes51 ((shape_expr lv hlv a _ _ _ hr').x ?_));
  rintro _ m1 _ ⟨hm1, rfl, s, rfl, hs⟩
  repeat (first|refine q1 ?_|refine q3 ?_|refine q4 tab rfl rfl ?_|refine q5 ?_|refine q6 ?_|refine q8 ?_|refine q9 ?_|refine q15 ?_)
  refine retQ_ret rfl (by repeat (first|exact List.Sublist.refl _|refine List.Sublist.cons _ ?_)) ⟨hm1, rfl, s, ?_, hs⟩
  rw [hp]; rfl
include hlv in
set_option maxHeartbeats 1600000 in
theorem shape_k12 (a : Tree) (m : Mem) (L : List Item) (h : HTree) (hr : TreeRep m h a) : TCall Tryz.prog 51 ⟨[treeV h, .int .i64 12]⟩ m L (ShapeIs m L ((shExpr lv a).but (decide (a.kind = 51)))) := by
 have h1 := hr.1
 unfold TCall
 refine TCallX.enter Tryz.func51 rfl 236 rfl ?_
 repeat (first|refine q1 ?_|refine q3 ?_)
 refine TO.step rfl (OT.box rfl rfl rfl rfl rfl (fun b => ?_))
 repeat (first|(first|refine q1 ?_|refine q2 ?_|refine q3 ?_|refine q4 tab rfl rfl ?_|refine q5 ?_|refine q6 ?_|refine q16 rfl ?_|refine q17 rfl ?_)|(refine qs rfl (qz tab 0 rfl rfl rfl rfl rfl rfl ?_)))
 refine TO.step rfl (OT.call rfl rfl rfl rfl rfl rfl goes51 ((shape_expr lv hlv a _ _ h hr).x ?_));
 rintro _ m1 _ ⟨hm1, rfl, s, rfl, hs⟩
 repeat (first|refine q1 ?_|refine q4 tab rfl rfl ?_|refine q5 ?_|refine q6 ?_)
 refine TC.draw0 [] mixed 13 rfl ?_
 refine DO.pure tab (by repeat (first|exact Calm.ret|refine Calm.then ?_|refine Calm.block ?_)) (by kernel_rfl) [0, 1, 2, 3, 4] (by kernel_rfl) rfl ?_
 (refine DO.split (d := 76) rfl (fun hg4 => ?_) (fun hg4 => ?_))
 refine DO.pure tab (by repeat (first|exact Calm.ret|refine Calm.then ?_|refine Calm.block ?_)) (by kernel_rfl) [5] (by kernel_rfl) rfl ?_
 (refine DO.loadL tab 6 0 (by repeat (first|exact Calm.ret|refine Calm.then ?_|refine Calm.block ?_)) (by kernel_rfl) (by kernel_rfl) rfl rfl rfl rfl rfl rfl rfl rfl ?_)
 refine DO.pure tab (by repeat (first|exact Calm.ret|refine Calm.then ?_|refine Calm.block ?_)) (by kernel_rfl) [7, 8, 9, 10, 11, 12] (by kernel_rfl) rfl ?_
 (refine DO.nil0 (by kernel_rfl) ?_)
 rotate_left 1
 refine DO.pure tab (by repeat (first|exact Calm.ret|refine Calm.then ?_|refine Calm.block ?_)) (by kernel_rfl) [5, 6, 7, 8, 9, 10, 11, 12] (by kernel_rfl) rfl ?_
 (refine DO.nil0 (by kernel_rfl) ?_)
 rotate_left 1
 ·repeat (first|refine q6 ?_|refine q8 ?_|refine q9 ?_|refine q15 ?_)
  refine retQ_ret rfl (by repeat (first|exact List.Sublist.refl _|refine List.Sublist.cons _ ?_)) ⟨hm1, rfl, s, ?_, hs⟩
  rw [← h1, show ((shExpr lv a).but (decide (h.kind = 51))).ok = (decide (h.kind = 51) && (shExpr lv a).ok) from rfl, hg4, Bool.and_true]; rfl
 ·repeat (first|refine q6 ?_|refine q8 ?_|refine q9 ?_|refine q15 ?_)
  refine retQ_ret rfl (by repeat (first|exact List.Sublist.refl _|refine List.Sublist.cons _ ?_)) ⟨hm1, rfl, s, ?_, hs⟩
  rw [← h1, show ((shExpr lv a).but (decide (h.kind = 51))).ok = (decide (h.kind = 51) && (shExpr lv a).ok) from rfl, show (shExpr lv a).ok = false by simpa using hg4, Bool.and_false]; rfl
end
def recvB (a : Tree) : Bool := (decide (a.kids.length = 1) && decide ((kd0 a).kind = 11)) && (decide ((kd0 a).kids.length = 1) && decide ((kd0 (kd0 a)).kind = 10))
theorem recvB_eq (a : Tree) : recvB a = ((decide (a.kids.length = 1) && decide ((kd0 a).kind = 11)) && (decide ((kd0 a).kids.length = 1) && decide ((kd0 (kd0 a)).kind = 10))) := rfl
theorem kd0_get {a : Tree} (h : a.kids.length = 1) : a.kids[0]? = some (kd0 a) := by
 unfold kd0
 cases hk : a.kids with
 | nil => rw [hk] at h; simp at h
 | cons x xs => rfl
set_option maxHeartbeats 1600000 in
theorem shape_k14 (a : Tree) (m : Mem) (L : List Item) (h : HTree) (hr : TreeRep m h a) : TCall Tryz.prog 51 ⟨[treeV h, .int .i64 14]⟩ m L (ShapeIs m L ⟨[2], 0, 1, recvB a && decide (a.kind = 8)⟩) := by
 obtain ⟨h1, h2, h3, h4⟩ := hr
 have hl := h4.len
 rw [← h1]
 unfold TCall
 refine TCallX.enter Tryz.func51 rfl 236 rfl ?_
 repeat (first|refine q1 ?_|refine q3 ?_)
 refine TO.step rfl (OT.box rfl rfl rfl rfl rfl (fun b => ?_))
 repeat (first|(first|refine q1 ?_|refine q2 ?_|refine q3 ?_|refine q4 tab rfl rfl ?_|refine q5 ?_|refine q6 ?_|refine q16 rfl ?_|refine q17 rfl ?_)|(refine qs rfl (ql tab 0 rfl rfl rfl rfl rfl rfl ?_)))
 (refine TO.splitP rfl rfl (fun c1 => ?_) (fun c1 => ?_))
 ·have c1' : a.kids.length = 1 := by omega
  have hx := kd0_get c1'
  repeat (first|(refine q4 tab rfl rfl ?_)|(refine qs rfl (ql tab 0 rfl rfl rfl rfl rfl rfl ?_)))
  refine TO.step rfl (OT.index tab rTree 0 h4 rfl rfl rfl rfl rfl (by first | rfl | omega | (simp only; omega)) rfl hx ?_)
  rintro b4 i4 h' hr4 hA4
  have hr5 := rTree_iff.1 hr4
  obtain ⟨g1, g2, g3, g4⟩ := hr5
  have gl := g4.len
  repeat (refine q4 tab rfl rfl ?_)
  (refine TO.step rfl (OT.loadA tab hA4 rfl rfl rfl rfl rfl ?_))
  repeat (refine q4 tab rfl rfl ?_)
  (refine TO.splitP rfl rfl (fun c2 => ?_) (fun c2 => ?_))
  ·have c2' : (kd0 a).kind = 11 := by omega
   repeat (first|(refine q4 tab rfl rfl ?_)|(refine qs rfl (ql tab 0 rfl rfl rfl rfl rfl rfl ?_)))
   refine TO.step rfl (OT.index tab rTree 0 h4 rfl rfl rfl rfl rfl (by first | rfl | omega | (simp only; omega)) rfl hx ?_)
   rintro b5 i5 h5 hr5 hA5
   have hr6 := rTree_iff.1 hr5
   obtain ⟨e1, e2, e3, e4⟩ := hr6
   have el := e4.len
   repeat (refine q4 tab rfl rfl ?_)
   (refine TO.step rfl (OT.loadA tab hA5 rfl rfl rfl rfl rfl ?_))
   repeat (refine q4 tab rfl rfl ?_)
   (refine TO.splitP rfl rfl (fun c3 => ?_) (fun c3 => ?_))
   ·have c3' : (kd0 a).kids.length = 1 := by omega
    have hy := kd0_get c3'
    repeat (first|(refine q4 tab rfl rfl ?_)|(refine qs rfl (ql tab 0 rfl rfl rfl rfl rfl rfl ?_)))
    refine TO.step rfl (OT.index tab rTree 0 h4 rfl rfl rfl rfl rfl (by first | rfl | omega | (simp only; omega)) rfl hx ?_)
    rintro b6 i6 h6 hr6 hA6
    have hr7 := rTree_iff.1 hr6
    obtain ⟨d1, d2, d3, d4⟩ := hr7
    repeat (refine q4 tab rfl rfl ?_)
    (refine TO.step rfl (OT.loadA tab hA6 rfl rfl rfl rfl rfl ?_))
    skip
    refine TO.step rfl (OT.index tab rTree 0 d4 rfl rfl rfl rfl rfl (by first | rfl | omega | (simp only; omega)) rfl hy ?_)
    rintro b7 i7 h7 hr7 hA7
    have hr8 := rTree_iff.1 hr7
    obtain ⟨f1, f2, f3, f4⟩ := hr8
    repeat (refine q4 tab rfl rfl ?_)
    (refine TO.step rfl (OT.loadA tab hA7 rfl rfl rfl rfl rfl ?_))
    repeat (first|refine q1 ?_|refine q4 tab rfl rfl ?_|refine q5 ?_|refine q6 ?_)
    by_cases c4 : (kd0 (kd0 a)).kind = 10
    ·obtain ⟨k7, n7, u7, s7⟩ := h7
     obtain rfl : k7 = 10 := f1.trans c4
     skip
     refine TC.draw0 [] mixed 11 rfl ?_
     refine DO.pure tab (by repeat (first|exact Calm.ret|refine Calm.then ?_|refine Calm.block ?_)) (by kernel_rfl) [1, 2, 3] (by kernel_rfl) rfl ?_
     (refine DO.loadL tab 4 0 (by repeat (first|exact Calm.ret|refine Calm.then ?_|refine Calm.block ?_)) (by kernel_rfl) (by kernel_rfl) rfl rfl rfl rfl rfl rfl rfl rfl ?_)
     refine DO.pure tab (by repeat (first|exact Calm.ret|refine Calm.then ?_|refine Calm.block ?_)) (by kernel_rfl) [5, 6] (by kernel_rfl) rfl ?_
     refine DO.run 0 rfl rfl (by kernel_rfl) rfl ?_
     refine OT.litR tab rInt (hs := [2]) (l := [2]) ⟨rfl, trivial⟩ rfl rfl rfl rfl rfl (by decide) (fun s1 m1 hm1 hs1 _ _ => ?_); refine ⟨hm1, _, List.Perm.refl _, ?_⟩
     refine DO.pure tab (by repeat (first|exact Calm.ret|refine Calm.then ?_|refine Calm.block ?_)) (by kernel_rfl) [7, 8, 9, 10] (by kernel_rfl) rfl ?_
     (refine DO.nil0 (by kernel_rfl) ?_)
     rotate_left 1
     repeat (first|refine q6 ?_|refine q8 ?_|refine q9 ?_|refine q15 ?_)
     refine retQ_ret rfl (by repeat (first|exact List.Sublist.refl _|refine List.Sublist.cons _ ?_)) ⟨hm1, rfl, s1, ?_, hs1⟩
     rw [show recvB a = true by rw [recvB_eq]; simp [*]]; rfl
    ·rw [show decide (h7.kind = 10) = false from decide_eq_false (by omega)]
     skip
     refine TC.draw0 [] mixed 11 rfl ?_
     refine DO.pure tab (by repeat (first|exact Calm.ret|refine Calm.then ?_|refine Calm.block ?_)) (by kernel_rfl) [1, 2, 3, 4, 5, 6] (by kernel_rfl) rfl ?_
     refine DO.run 0 rfl rfl (by kernel_rfl) rfl ?_
     refine OT.litR tab rInt (hs := [2]) (l := [2]) ⟨rfl, trivial⟩ rfl rfl rfl rfl rfl (by decide) (fun s1 m1 hm1 hs1 _ _ => ?_); refine ⟨hm1, _, List.Perm.refl _, ?_⟩
     refine DO.pure tab (by repeat (first|exact Calm.ret|refine Calm.then ?_|refine Calm.block ?_)) (by kernel_rfl) [7, 8, 9, 10] (by kernel_rfl) rfl ?_
     (refine DO.nil0 (by kernel_rfl) ?_)
     rotate_left 1
     repeat (first|refine q6 ?_|refine q8 ?_|refine q9 ?_|refine q15 ?_)
     refine retQ_ret rfl (by repeat (first|exact List.Sublist.refl _|refine List.Sublist.cons _ ?_)) ⟨hm1, rfl, s1, ?_, hs1⟩
     rw [show recvB a = false by rw [recvB_eq]; simp [*]]; rfl
   ·have c3' : ¬ (kd0 a).kids.length = 1 := by omega
    repeat ((first|refine q1 ?_|refine q4 tab rfl rfl ?_|refine q5 ?_|refine q6 ?_))
    refine TC.draw0 [] mixed 11 rfl ?_
    refine DO.pure tab (by repeat (first|exact Calm.ret|refine Calm.then ?_|refine Calm.block ?_)) (by kernel_rfl) [1, 2, 3, 4, 5, 6] (by kernel_rfl) rfl ?_
    refine DO.run 0 rfl rfl (by kernel_rfl) rfl ?_
    refine OT.litR tab rInt (hs := [2]) (l := [2]) ⟨rfl, trivial⟩ rfl rfl rfl rfl rfl (by decide) (fun s1 m1 hm1 hs1 _ _ => ?_); refine ⟨hm1, _, List.Perm.refl _, ?_⟩
    refine DO.pure tab (by repeat (first|exact Calm.ret|refine Calm.then ?_|refine Calm.block ?_)) (by kernel_rfl) [7, 8, 9, 10] (by kernel_rfl) rfl ?_
    (refine DO.nil0 (by kernel_rfl) ?_)
    rotate_left 1
    repeat (first|refine q6 ?_|refine q8 ?_|refine q9 ?_|refine q15 ?_)
    refine retQ_ret rfl (by repeat (first|exact List.Sublist.refl _|refine List.Sublist.cons _ ?_)) ⟨hm1, rfl, s1, ?_, hs1⟩
    rw [show recvB a = false by rw [recvB_eq]; simp [*]]; rfl
  ·have c2' : ¬ (kd0 a).kind = 11 := by omega
   repeat ((first|refine q1 ?_|refine q4 tab rfl rfl ?_|refine q5 ?_|refine q6 ?_))
   refine TC.draw0 [] mixed 11 rfl ?_
   refine DO.pure tab (by repeat (first|exact Calm.ret|refine Calm.then ?_|refine Calm.block ?_)) (by kernel_rfl) [1, 2, 3, 4, 5, 6] (by kernel_rfl) rfl ?_
   refine DO.run 0 rfl rfl (by kernel_rfl) rfl ?_
   refine OT.litR tab rInt (hs := [2]) (l := [2]) ⟨rfl, trivial⟩ rfl rfl rfl rfl rfl (by decide) (fun s1 m1 hm1 hs1 _ _ => ?_); refine ⟨hm1, _, List.Perm.refl _, ?_⟩
   refine DO.pure tab (by repeat (first|exact Calm.ret|refine Calm.then ?_|refine Calm.block ?_)) (by kernel_rfl) [7, 8, 9, 10] (by kernel_rfl) rfl ?_
   (refine DO.nil0 (by kernel_rfl) ?_)
   rotate_left 1
   repeat (first|refine q6 ?_|refine q8 ?_|refine q9 ?_|refine q15 ?_)
   refine retQ_ret rfl (by repeat (first|exact List.Sublist.refl _|refine List.Sublist.cons _ ?_)) ⟨hm1, rfl, s1, ?_, hs1⟩
   rw [show recvB a = false by rw [recvB_eq]; simp [*]]; rfl
 ·have c1' : ¬ a.kids.length = 1 := by omega
  repeat ((first|refine q1 ?_|refine q4 tab rfl rfl ?_|refine q5 ?_|refine q6 ?_))
  refine TC.draw0 [] mixed 11 rfl ?_
  refine DO.pure tab (by repeat (first|exact Calm.ret|refine Calm.then ?_|refine Calm.block ?_)) (by kernel_rfl) [1, 2, 3, 4, 5, 6] (by kernel_rfl) rfl ?_
  refine DO.run 0 rfl rfl (by kernel_rfl) rfl ?_
  refine OT.litR tab rInt (hs := [2]) (l := [2]) ⟨rfl, trivial⟩ rfl rfl rfl rfl rfl (by decide) (fun s1 m1 hm1 hs1 _ _ => ?_); refine ⟨hm1, _, List.Perm.refl _, ?_⟩
  refine DO.pure tab (by repeat (first|exact Calm.ret|refine Calm.then ?_|refine Calm.block ?_)) (by kernel_rfl) [7, 8, 9, 10] (by kernel_rfl) rfl ?_
  (refine DO.nil0 (by kernel_rfl) ?_)
  rotate_left 1
  repeat (first|refine q6 ?_|refine q8 ?_|refine q9 ?_|refine q15 ?_)
  refine retQ_ret rfl (by repeat (first|exact List.Sublist.refl _|refine List.Sublist.cons _ ?_)) ⟨hm1, rfl, s1, ?_, hs1⟩
  rw [show recvB a = false by rw [recvB_eq]; simp [*]]; rfl
set_option maxHeartbeats 1600000 in
theorem shape_k3 (a : Tree) (m : Mem) (L : List Item) (h : HTree) (hr : TreeRep m h a) : TCall Tryz.prog 51 ⟨[treeV h, .int .i64 3]⟩ m L (ShapeIs m L (shSig a)) := by
 have hr' := hr
 obtain ⟨h1, h2, h3, h4⟩ := hr
 have hl := h4.len
 have hsm := h4.small rfl
 unfold TCall
 unfold shSig
 rw [← h1]
 refine TCallX.enter Tryz.func51 rfl 236 rfl ?_
 repeat (first|refine q1 ?_|refine q3 ?_)
 refine TO.step rfl (OT.box rfl rfl rfl rfl rfl (fun b => ?_))
 repeat (first|refine q1 ?_|refine q2 ?_|refine q3 ?_|refine q4 tab rfl rfl ?_|refine q5 ?_|refine q6 ?_|refine q16 rfl ?_|refine q17 rfl ?_)
 refine TC.draw0 [] mixed 23 rfl ?_
 refine DO.pure tab (by repeat (first|exact Calm.ret|refine Calm.then ?_|refine Calm.block ?_)) (by kernel_rfl) [0] (by kernel_rfl) rfl ?_
 (refine DO.loadL tab 1 0 (by repeat (first|exact Calm.ret|refine Calm.then ?_|refine Calm.block ?_)) (by kernel_rfl) (by kernel_rfl) rfl rfl rfl rfl rfl rfl rfl rfl ?_)
 refine DO.pure tab (by repeat (first|exact Calm.ret|refine Calm.then ?_|refine Calm.block ?_)) (by kernel_rfl) [3] (by kernel_rfl) rfl ?_
 (refine DO.loadL tab 4 0 (by repeat (first|exact Calm.ret|refine Calm.then ?_|refine Calm.block ?_)) (by kernel_rfl) (by kernel_rfl) rfl rfl rfl rfl rfl rfl rfl rfl ?_)
 refine DO.pure tab (by repeat (first|exact Calm.ret|refine Calm.then ?_|refine Calm.block ?_)) (by kernel_rfl) [5] (by kernel_rfl) rfl ?_
 refine DO.run 2 rfl rfl (by kernel_rfl) rfl (OT.call rfl rfl rfl rfl rfl rfl goes86 ((repeat_ref _ _ 4 h.num).x ?_))
 rintro _ m1 _ ⟨hm1, rfl, s1, rfl, hs1⟩; refine ⟨hm1, _, List.Perm.refl _, ?_⟩
 refine DO.pure tab (by repeat (first|exact Calm.ret|refine Calm.then ?_|refine Calm.block ?_)) (by kernel_rfl) [6] (by kernel_rfl) rfl ?_
 (refine DO.splitP (d := 170) rfl (fun hg6 => ?_) (fun hg6 => ?_))
 refine DO.pure tab (by repeat (first|exact Calm.ret|refine Calm.then ?_|refine Calm.block ?_)) (by kernel_rfl) [7] (by kernel_rfl) rfl ?_
 (refine DO.loadL tab 8 0 (by repeat (first|exact Calm.ret|refine Calm.then ?_|refine Calm.block ?_)) (by kernel_rfl) (by kernel_rfl) rfl rfl rfl rfl rfl rfl rfl rfl ?_)
 refine DO.pure tab (by repeat (first|exact Calm.ret|refine Calm.then ?_|refine Calm.block ?_)) (by kernel_rfl) [9, 10, 11] (by kernel_rfl) rfl ?_
 (refine DO.splitP (d := 175) rfl (fun hg11 => ?_) (fun hg11 => ?_))
 refine DO.pure tab (by repeat (first|exact Calm.ret|refine Calm.then ?_|refine Calm.block ?_)) (by kernel_rfl) [12] (by kernel_rfl) rfl ?_
 (refine DO.loadL tab 13 0 (by repeat (first|exact Calm.ret|refine Calm.then ?_|refine Calm.block ?_)) (by kernel_rfl) (by kernel_rfl) rfl rfl rfl rfl rfl rfl rfl rfl ?_)
 refine DO.pure tab (by repeat (first|exact Calm.ret|refine Calm.then ?_|refine Calm.block ?_)) (by kernel_rfl) [14] (by kernel_rfl) rfl ?_
 (refine DO.loadL tab 15 0 (by repeat (first|exact Calm.ret|refine Calm.then ?_|refine Calm.block ?_)) (by kernel_rfl) (by kernel_rfl) rfl rfl rfl rfl rfl rfl rfl rfl ?_)
 refine DO.pure tab (by repeat (first|exact Calm.ret|refine Calm.then ?_|refine Calm.block ?_)) (by kernel_rfl) [16, 17, 18, 19, 20, 21, 22] (by kernel_rfl) rfl ?_
 (refine DO.nil0 (by kernel_rfl) ?_)
 rotate_left 1
 refine DO.pure tab (by repeat (first|exact Calm.ret|refine Calm.then ?_|refine Calm.block ?_)) (by kernel_rfl) [12, 13, 14, 15, 16, 17, 18, 19, 20, 21, 22] (by kernel_rfl) rfl ?_
 (refine DO.nil0 (by kernel_rfl) ?_)
 rotate_left 1
 refine DO.pure tab (by repeat (first|exact Calm.ret|refine Calm.then ?_|refine Calm.block ?_)) (by kernel_rfl) [7, 8, 9, 10, 11, 12, 13, 14, 15, 16, 17, 18, 19, 20, 21, 22] (by kernel_rfl) rfl ?_
 (refine DO.nil0 (by kernel_rfl) ?_)
 rotate_left 1
 all_goals
  repeat (first|refine q6 ?_|refine q8 ?_|refine q9 ?_|refine q15 ?_)
  refine retQ_ret rfl (by repeat (first|exact List.Sublist.refl _|refine List.Sublist.cons _ ?_)) ⟨hm1, rfl, s1, ?_, by unfold rep; rw [← h3]; exact hs1⟩
  rw [← hl, ← h3]
  first | (simp_all; done) | (simp_all; omega)
set_option maxHeartbeats 1600000 in
theorem shape_k1 (a : Tree) (m : Mem) (L : List Item) (h : HTree) (hr : TreeRep m h a) : TCall Tryz.prog 51 ⟨[treeV h, .int .i64 1]⟩ m L (ShapeIs m L (shDecl a)) := by
 have hr' := hr
 obtain ⟨h1, h2, h3, h4⟩ := hr
 have hl := h4.len
 have hsm := h4.small rfl
 unfold TCall
 unfold shDecl
 refine TCallX.enter Tryz.func51 rfl 236 rfl ?_
 by_cases hk2 : a.kind = 2
 ·rw [if_pos hk2]
  obtain ⟨k, n, u, s⟩ := h
  obtain rfl : k = 2 := h1.trans hk2
  repeat (first|refine q1 ?_|refine q3 ?_)
  refine TO.step rfl (OT.box rfl rfl rfl rfl rfl (fun b => ?_))
  repeat (first|(first|refine q1 ?_|refine q2 ?_|refine q3 ?_|refine q4 tab rfl rfl ?_|refine q5 ?_|refine q6 ?_|refine q8 ?_|refine q9 ?_|refine q15 ?_|refine q16 rfl ?_|refine q17 rfl ?_)|(refine qs rfl (ql tab 0 rfl rfl rfl rfl rfl rfl ?_)))
  exact retQ_ret rfl (by repeat (first|exact List.Sublist.refl _|refine List.Sublist.cons _ ?_)) ⟨Mem.le_refl _, rfl, ⟨none, 0, 0⟩, rfl, SlRep.nil _ _⟩
 rw [if_neg hk2]
 by_cases hk3 : a.kind = 3
 ·rw [if_pos hk3]
  obtain ⟨k, n, u, s⟩ := h
  obtain rfl : k = 3 := h1.trans hk3
  repeat (first|refine q1 ?_|refine q3 ?_)
  refine TO.step rfl (OT.box rfl rfl rfl rfl rfl (fun b => ?_))
  repeat (first|(first|refine q1 ?_|refine q2 ?_|refine q3 ?_|refine q4 tab rfl rfl ?_|refine q5 ?_|refine q6 ?_|refine q8 ?_|refine q9 ?_|refine q15 ?_|refine q16 rfl ?_|refine q17 rfl ?_)|(refine qs rfl (ql tab 0 rfl rfl rfl rfl rfl rfl ?_)))
  exact retQ_ret rfl (by repeat (first|exact List.Sublist.refl _|refine List.Sublist.cons _ ?_)) ⟨Mem.le_refl _, rfl, ⟨none, 0, 0⟩, rfl, SlRep.nil _ _⟩
 rw [if_neg hk3]
 by_cases hk4 : a.kind = 4
 ·rw [if_pos hk4]
  obtain ⟨k, n, u, s⟩ := h
  obtain rfl : k = 4 := h1.trans hk4
  repeat (first|refine q1 ?_|refine q3 ?_)
  refine TO.step rfl (OT.box rfl rfl rfl rfl rfl (fun b => ?_))
  repeat (first|(first|refine q1 ?_|refine q2 ?_|refine q3 ?_|refine q4 tab rfl rfl ?_|refine q5 ?_|refine q6 ?_|refine q16 rfl ?_|refine q17 rfl ?_)|(refine qs rfl (ql tab 0 rfl rfl rfl rfl rfl rfl ?_)))
  refine TO.step rfl (OT.litR tab rInt (hs := [3, 5]) (l := [3, 5]) ⟨rfl, rfl, trivial⟩ rfl rfl rfl rfl rfl (by decide) (fun s1 m1 hm1 hs1 _ _ => ?_))
  repeat (first|refine q4 tab rfl rfl ?_|refine q5 ?_|refine q6 ?_|refine q8 ?_|refine q9 ?_|refine q15 ?_)
  exact retQ_ret rfl (by repeat (first|exact List.Sublist.refl _|refine List.Sublist.cons _ ?_)) ⟨hm1, rfl, s1, rfl, hs1⟩
 rw [if_neg hk4]
 by_cases hk5 : a.kind = 5
 ·rw [if_pos hk5]
  obtain ⟨k, n, u, s⟩ := h
  obtain rfl : k = 5 := h1.trans hk5
  repeat (first|refine q1 ?_|refine q3 ?_)
  refine TO.step rfl (OT.box rfl rfl rfl rfl rfl (fun b => ?_))
  repeat (first|(first|refine q1 ?_|refine q2 ?_|refine q3 ?_|refine q4 tab rfl rfl ?_|refine q5 ?_|refine q6 ?_|refine q16 rfl ?_|refine q17 rfl ?_)|(refine qs rfl (ql tab 0 rfl rfl rfl rfl rfl rfl ?_)))
  refine TO.step rfl (OT.litR tab rInt (hs := [14, 3, 5]) (l := [14, 3, 5]) ⟨rfl, rfl, rfl, trivial⟩ rfl rfl rfl rfl rfl (by decide) (fun s1 m1 hm1 hs1 _ _ => ?_))
  repeat (first|refine q4 tab rfl rfl ?_|refine q5 ?_|refine q6 ?_|refine q8 ?_|refine q9 ?_|refine q15 ?_)
  exact retQ_ret rfl (by repeat (first|exact List.Sublist.refl _|refine List.Sublist.cons _ ?_)) ⟨hm1, rfl, s1, rfl, hs1⟩
 rw [if_neg hk5]
 repeat (first|refine q1 ?_|refine q3 ?_)
 refine TO.step rfl (OT.box rfl rfl rfl rfl rfl (fun b => ?_))
 repeat (first|(first|refine q1 ?_|refine q2 ?_|refine q3 ?_|refine q4 tab rfl rfl ?_|refine q5 ?_|refine q6 ?_|refine q16 rfl ?_|refine q17 rfl ?_)|(refine qs rfl (ql tab 0 rfl rfl rfl rfl rfl rfl ?_)))
 refine TC.condP rfl (fun h5 => ?_) (fun h5 => ?_)
 ·omega
 repeat (first|refine q1 ?_|refine q3 ?_|refine q4 tab rfl rfl ?_|refine q5 ?_|refine q6 ?_)
 refine TC.condP rfl (fun h5 => ?_) (fun h5 => ?_)
 ·omega
 repeat (first|refine q1 ?_|refine q3 ?_|refine q4 tab rfl rfl ?_|refine q5 ?_|refine q6 ?_)
 refine TC.condP rfl (fun h5 => ?_) (fun h5 => ?_)
 ·omega
 repeat (first|refine q1 ?_|refine q3 ?_|refine q4 tab rfl rfl ?_|refine q5 ?_|refine q6 ?_)
 refine TC.condP rfl (fun h5 => ?_) (fun h5 => ?_)
 ·omega
 repeat (first|refine q1 ?_|refine q3 ?_|refine q4 tab rfl rfl ?_|refine q5 ?_|refine q6 ?_|refine q7 ?_|refine q13 ?_|refine q15 ?_)
 exact retQ_ret rfl (by repeat (first|exact List.Sublist.refl _|refine List.Sublist.cons _ ?_)) ⟨Mem.le_refl _, rfl, ⟨none, 0, 0⟩, rfl, SlRep.nil _ _⟩
set_option maxHeartbeats 1600000 in
theorem shape_k2 (a : Tree) (m : Mem) (L : List Item) (h : HTree) (hr : TreeRep m h a) : TCall Tryz.prog 51 ⟨[treeV h, .int .i64 2]⟩ m L (ShapeIs m L (shTyp a)) := by
 have hr' := hr
 obtain ⟨h1, h2, h3, h4⟩ := hr
 have hl := h4.len
 have hsm := h4.small rfl
 unfold TCall
 unfold shTyp
 refine TCallX.enter Tryz.func51 rfl 236 rfl ?_
 by_cases hk10 : a.kind = 10
 ·rw [if_pos hk10]
  obtain ⟨k, n, u, s⟩ := h
  obtain rfl : k = 10 := h1.trans hk10
  repeat (first|refine q1 ?_|refine q3 ?_)
  refine TO.step rfl (OT.box rfl rfl rfl rfl rfl (fun b => ?_))
  repeat (first|(first|refine q1 ?_|refine q2 ?_|refine q3 ?_|refine q4 tab rfl rfl ?_|refine q5 ?_|refine q6 ?_|refine q8 ?_|refine q9 ?_|refine q15 ?_|refine q16 rfl ?_|refine q17 rfl ?_)|(refine qs rfl (ql tab 0 rfl rfl rfl rfl rfl rfl ?_)))
  exact retQ_ret rfl (by repeat (first|exact List.Sublist.refl _|refine List.Sublist.cons _ ?_)) ⟨Mem.le_refl _, rfl, ⟨none, 0, 0⟩, rfl, SlRep.nil _ _⟩
 rw [if_neg hk10]
 by_cases hk : a.kind = 11 ∨ a.kind = 12
 ·rw [if_pos hk]
  obtain ⟨k, n, u, s⟩ := h
  rcases hk with hk | hk
  ·obtain rfl : k = 11 := h1.trans hk
   repeat (first|refine q1 ?_|refine q3 ?_)
   refine TO.step rfl (OT.box rfl rfl rfl rfl rfl (fun b => ?_))
   repeat (first|(first|refine q1 ?_|refine q2 ?_|refine q3 ?_|refine q4 tab rfl rfl ?_|refine q5 ?_|refine q6 ?_|refine q13 ?_|refine q16 rfl ?_|refine q17 rfl ?_)|(refine qs rfl (ql tab 0 rfl rfl rfl rfl rfl rfl ?_)))
   refine TO.step rfl (OT.litR tab rInt (hs := [2]) (l := [2]) ⟨rfl, trivial⟩ rfl rfl rfl rfl rfl (by decide) (fun s1 m1 hm1 hs1 _ _ => ?_))
   repeat (first|refine q4 tab rfl rfl ?_|refine q5 ?_|refine q6 ?_|refine q8 ?_|refine q9 ?_|refine q15 ?_)
   exact retQ_ret rfl (by repeat (first|exact List.Sublist.refl _|refine List.Sublist.cons _ ?_)) ⟨hm1, rfl, s1, rfl, hs1⟩
  ·obtain rfl : k = 12 := h1.trans hk
   repeat (first|refine q1 ?_|refine q3 ?_)
   refine TO.step rfl (OT.box rfl rfl rfl rfl rfl (fun b => ?_))
   repeat (first|(first|refine q1 ?_|refine q2 ?_|refine q3 ?_|refine q4 tab rfl rfl ?_|refine q5 ?_|refine q6 ?_|refine q16 rfl ?_|refine q17 rfl ?_)|(refine qs rfl (ql tab 0 rfl rfl rfl rfl rfl rfl ?_)))
   refine TO.step rfl (OT.litR tab rInt (hs := [2]) (l := [2]) ⟨rfl, trivial⟩ rfl rfl rfl rfl rfl (by decide) (fun s1 m1 hm1 hs1 _ _ => ?_))
   repeat (first|refine q4 tab rfl rfl ?_|refine q5 ?_|refine q6 ?_|refine q8 ?_|refine q9 ?_|refine q15 ?_)
   exact retQ_ret rfl (by repeat (first|exact List.Sublist.refl _|refine List.Sublist.cons _ ?_)) ⟨hm1, rfl, s1, rfl, hs1⟩
 rw [if_neg hk]
 by_cases hk13 : a.kind = 13
 ·rw [if_pos hk13]
  obtain ⟨k, n, u, s⟩ := h
  obtain rfl : k = 13 := h1.trans hk13
  simp only at h2 h3 h4 hl
  subst h3
  repeat (first|refine q1 ?_|refine q3 ?_)
  refine TO.step rfl (OT.box rfl rfl rfl rfl rfl (fun b => ?_))
  repeat (first|(first|refine q1 ?_|refine q2 ?_|refine q3 ?_|refine q4 tab rfl rfl ?_|refine q5 ?_|refine q6 ?_|refine q16 rfl ?_|refine q17 rfl ?_)|(refine qs rfl (ql tab 0 rfl rfl rfl rfl rfl rfl ?_)))
  refine TC.draw0 [] mixed 15 rfl ?_
  refine DO.pure tab (by repeat (first|exact Calm.ret|refine Calm.then ?_|refine Calm.block ?_)) (by kernel_rfl) [0] (by kernel_rfl) rfl ?_
  (refine DO.loadL tab 1 0 (by repeat (first|exact Calm.ret|refine Calm.then ?_|refine Calm.block ?_)) (by kernel_rfl) (by kernel_rfl) rfl rfl rfl rfl rfl rfl rfl rfl ?_)
  refine DO.pure tab (by repeat (first|exact Calm.ret|refine Calm.then ?_|refine Calm.block ?_)) (by kernel_rfl) [2, 3] (by kernel_rfl) rfl ?_
  (refine DO.splitP (d := 212) rfl (fun hg3 => ?_) (fun hg3 => ?_))
  refine DO.pure tab (by repeat (first|exact Calm.ret|refine Calm.then ?_|refine Calm.block ?_)) (by kernel_rfl) [4] (by kernel_rfl) rfl ?_
  (refine DO.loadL tab 5 0 (by repeat (first|exact Calm.ret|refine Calm.then ?_|refine Calm.block ?_)) (by kernel_rfl) (by kernel_rfl) rfl rfl rfl rfl rfl rfl rfl rfl ?_)
  refine DO.pure tab (by repeat (first|exact Calm.ret|refine Calm.then ?_|refine Calm.block ?_)) (by kernel_rfl) [6] (by kernel_rfl) rfl ?_
  (refine DO.loadL tab 7 0 (by repeat (first|exact Calm.ret|refine Calm.then ?_|refine Calm.block ?_)) (by kernel_rfl) (by kernel_rfl) rfl rfl rfl rfl rfl rfl rfl rfl ?_)
  refine DO.pure tab (by repeat (first|exact Calm.ret|refine Calm.then ?_|refine Calm.block ?_)) (by kernel_rfl) [8, 9, 10, 11, 12, 13, 14] (by kernel_rfl) rfl ?_
  (refine DO.nil0 (by kernel_rfl) ?_)
  rotate_left 1
  refine DO.pure tab (by repeat (first|exact Calm.ret|refine Calm.then ?_|refine Calm.block ?_)) (by kernel_rfl) [4, 5, 6, 7, 8, 9, 10, 11, 12, 13, 14] (by kernel_rfl) rfl ?_
  (refine DO.nil0 (by kernel_rfl) ?_)
  rotate_left 1
  ·repeat (first|refine q6 ?_|refine q8 ?_|refine q9 ?_|refine q15 ?_)
   refine retQ_ret rfl (by repeat (first|exact List.Sublist.refl _|refine List.Sublist.cons _ ?_)) ⟨Mem.le_refl _, rfl, ⟨none, 0, 0⟩, ?_, SlRep.nil _ _⟩
   rw [← hl, decide_eq_true hg3]; rfl
  ·repeat (first|refine q6 ?_|refine q8 ?_|refine q9 ?_|refine q15 ?_)
   refine retQ_ret rfl (by repeat (first|exact List.Sublist.refl _|refine List.Sublist.cons _ ?_)) ⟨Mem.le_refl _, rfl, ⟨none, 0, 0⟩, ?_, SlRep.nil _ _⟩
   rw [← hl, decide_eq_false hg3]; rfl
 rw [if_neg hk13]
 repeat (first|refine q1 ?_|refine q3 ?_)
 refine TO.step rfl (OT.box rfl rfl rfl rfl rfl (fun b => ?_))
 repeat (first|(first|refine q1 ?_|refine q2 ?_|refine q3 ?_|refine q4 tab rfl rfl ?_|refine q5 ?_|refine q6 ?_|refine q16 rfl ?_|refine q17 rfl ?_)|(refine qs rfl (ql tab 0 rfl rfl rfl rfl rfl rfl ?_)))
 refine TC.condP rfl (fun h5 => ?_) (fun h5 => ?_)
 ·omega
 repeat (first|refine q1 ?_|refine q3 ?_|refine q4 tab rfl rfl ?_|refine q5 ?_|refine q6 ?_)
 refine TC.condP rfl (fun h5 => ?_) (fun h5 => ?_)
 ·omega
 repeat (first|refine q3 ?_|refine q4 tab rfl rfl ?_|refine q5 ?_|refine q6 ?_)
 refine TC.condP rfl (fun h5 => ?_) (fun h5 => ?_)
 ·omega
 repeat (first|refine q1 ?_|refine q3 ?_|refine q4 tab rfl rfl ?_|refine q5 ?_|refine q6 ?_)
 refine TC.condP rfl (fun h5 => ?_) (fun h5 => ?_)
 ·omega
 repeat (first|refine q1 ?_|refine q3 ?_|refine q4 tab rfl rfl ?_|refine q5 ?_|refine q6 ?_|refine q7 ?_|refine q13 ?_|refine q15 ?_)
 exact retQ_ret rfl (by repeat (first|exact List.Sublist.refl _|refine List.Sublist.cons _ ?_)) ⟨Mem.le_refl _, rfl, ⟨none, 0, 0⟩, rfl, SlRep.nil _ _⟩
end Go.Sep


/- PrSnd -/
set_option linter.unusedVariables false
set_option linter.unusedSimpArgs false
namespace Go.Sep
open Go.Proofs
attribute [local irreducible] TC TO OT TCallX TCall DO DOt thenQ blockQ retQ At
theorem shape_law (k : Int) (hk : Srt k) (a : Tree) (m : Mem) (L : List Item) (h : HTree) (hr : TreeRep m h a) : TCall Tryz.prog 51 ⟨[treeV h, .int .i64 k]⟩ m L (ShapeIs m L (shapeR levelD k a)) := by
 have hk : k = 1 ∨ k = 2 ∨ k = 3 ∨ k = 4 ∨ k = 5 ∨ k = 6 ∨ k = 7 ∨ k = 8 ∨ k = 9 ∨ k = 10 ∨ k = 11 ∨ k = 12 ∨ k = 13 ∨ k = 14 := by
  obtain ⟨h1, h2⟩ := hk; omega
 rcases hk with rfl | rfl | rfl | rfl | rfl | rfl | rfl | rfl | rfl | rfl | rfl | rfl | rfl | rfl
 ·exact shape_k1 a m L h hr
 ·exact shape_k2 a m L h hr
 ·exact shape_k3 a m L h hr
 ·exact shape_k4 a m L h hr
 ·exact shape_k5 a m L h hr
 ·exact shape_stmt levelD a m L h hr
 ·exact shape_expr levelD level_law a m L h hr
 ·exact shape_k8 a m L h hr
 ·exact shape_k9 a m L h hr
 ·exact shape_k10 levelD level_law a m L h hr
 ·exact shape_k11 a m L h hr
 ·exact shape_k12 levelD level_law a m L h hr
 ·exact shape_k13 levelD a m L h hr
 ·exact shape_k14 a m L h hr
theorem text_ok (lv : Str → Nat) (k : Int) (a : Tree) : (shapeR lv k a).text = 0 ∨ (shapeR lv k a).text = 1 ∨ (shapeR lv k a).text = 2 := by
 have t_if : ∀ {c : Prop} [Decidable c] {x y : Shape}, (x.text = 0 ∨ x.text = 1 ∨ x.text = 2) → (y.text = 0 ∨ y.text = 1 ∨ y.text = 2) → ((if c then x else y).text = 0 ∨ (if c then x else y).text = 1 ∨ (if c then x else y).text = 2) := fun {c} _ {x y} h1 h2 => by
  by_cases h : c
  ·rw [if_pos h]; exact h1
  ·rw [if_neg h]; exact h2
 have he : (shExpr lv a).text = 0 ∨ (shExpr lv a).text = 1 ∨ (shExpr lv a).text = 2 := by
  unfold shExpr
  repeat' first | refine t_if ?_ ?_ | exact .inl rfl | exact .inr (.inl rfl) | exact .inr (.inr rfl)
 have hs : (shStmt lv a).text = 0 ∨ (shStmt lv a).text = 1 ∨ (shStmt lv a).text = 2 := by
  unfold shStmt
  repeat' first | refine t_if ?_ ?_ | exact .inl rfl | exact .inr (.inl rfl) | exact .inr (.inr rfl)
 have hd : (shDecl a).text = 0 ∨ (shDecl a).text = 1 ∨ (shDecl a).text = 2 := by
  unfold shDecl
  repeat' first | refine t_if ?_ ?_ | exact .inl rfl | exact .inr (.inl rfl) | exact .inr (.inr rfl)
 have ht : (shTyp a).text = 0 ∨ (shTyp a).text = 1 ∨ (shTyp a).text = 2 := by
  unfold shTyp
  repeat' first | refine t_if ?_ ?_ | exact .inl rfl | exact .inr (.inl rfl) | exact .inr (.inr rfl)
 unfold shapeR
 repeat' first | exact he | exact hs | exact hd | exact ht | refine t_if ?_ ?_ | exact .inl rfl | exact .inr (.inl rfl) | exact .inr (.inr rfl)
theorem isn_law : ∀ (n : Nat) (k : Int) (a : Tree), Srt k → a.deep ≤ n → a.bulk ≤ 1048576 → ∀ (m : Mem) (L : List Item) (h : HTree), TreeRep m h a → TCall Tryz.prog 29 ⟨[treeV h, .int .i64 k]⟩ m L (Ret (.bool (isD levelD n k a)) m L)
 | 0, k, a, _, hd, _, m, L, h, hr => by have := deep_pos a; omega
 | n + 1, k, a, hk, hd, hB, m, L, h, hr => is_walk k a m L h hr hB (shapeR levelD k a) (fun m L hr => shape_law k hk a m L h hr) (text_ok levelD k a) (isD levelD n) fun hf i hi m L h' hr' =>
   isn_law n _ a.kids[i] (want_ok (shapeR_ok levelD k a) hf hi) (by have := deep_of_kid (List.getElem_mem hi); omega) (Nat.le_trans (Nat.le_of_lt (bulk_kid (List.getElem_mem hi))) hB) m L h' hr'
set_option maxHeartbeats 1600000 in
theorem rsound_law (a : Tree) (m : Mem) (L : List Item) (h : HTree) (hr : TreeRep m h a) (hB : a.bulk ≤ 1048576) : TCall Tryz.prog 13 ⟨[treeV h]⟩ m L (Ret (.bool (soundB a)) m L) := by
 rw [← rsound_eq]
 have hr' := hr
 obtain ⟨h1, h2, h3, h4⟩ := hr
 have hl := h4.len
 have hsm := h4.small rfl
 refine TCall.forget ?_
 unfold TCall rsoundB
 rw [← h1, ← h2, ← h3]
 refine TCallX.enter Tryz.func13 rfl 36 rfl ?_
 repeat (first|refine q1 ?_|refine q3 ?_)
 refine TO.step rfl (OT.box rfl rfl rfl rfl rfl (fun b => ?_))
 repeat (first|(first|refine q1 ?_|refine q3 ?_|refine q4 tab rfl rfl ?_|refine q5 ?_|refine q6 ?_)|(refine qs rfl (ql tab 0 rfl rfl rfl rfl rfl rfl ?_)))
 (refine TO.splitN rfl rfl (fun c1 => ?_) (fun c1 => ?_))
 ·skip
  repeat (first|refine q1 ?_|refine q3 ?_|refine q4 tab rfl rfl ?_|refine q5 ?_|refine q6 ?_|refine q8 ?_|refine q15 ?_|refine q16 rfl ?_)
  refine retQ_ret rfl (by repeat (first|exact List.Sublist.refl _|refine List.Sublist.cons _ ?_)) ⟨Mem.le_refl _, rfl, ?_⟩
  simp_all
 repeat (first|(refine q4 tab rfl rfl ?_)|(refine qs rfl (ql tab 0 rfl rfl rfl rfl rfl rfl ?_)))
 (refine TO.splitN rfl rfl (fun c2 => ?_) (fun c2 => ?_))
 ·skip
  repeat (first|refine q1 ?_|refine q3 ?_|refine q4 tab rfl rfl ?_|refine q5 ?_|refine q6 ?_|refine q8 ?_|refine q15 ?_|refine q16 rfl ?_)
  refine retQ_ret rfl (by repeat (first|exact List.Sublist.refl _|refine List.Sublist.cons _ ?_)) ⟨Mem.le_refl _, rfl, ?_⟩
  simp_all
 repeat (first|(refine q4 tab rfl rfl ?_)|(refine qs rfl (ql tab 0 rfl rfl rfl rfl rfl rfl ?_)))
 (refine TO.splitN rfl rfl (fun c3 => ?_) (fun c3 => ?_))
 ·skip
  repeat (first|refine q1 ?_|refine q3 ?_|refine q4 tab rfl rfl ?_|refine q5 ?_|refine q6 ?_|refine q8 ?_|refine q15 ?_|refine q16 rfl ?_)
  refine retQ_ret rfl (by repeat (first|exact List.Sublist.refl _|refine List.Sublist.cons _ ?_)) ⟨Mem.le_refl _, rfl, ?_⟩
  simp_all
 repeat ((refine qs rfl (qz tab 0 rfl rfl rfl rfl rfl rfl ?_)))
 refine TO.step rfl (OT.call rfl rfl rfl rfl rfl rfl goes28 ((within_ref a _ _ h hr' hB 0 0 (by decide) (by decide)).x ?_));
 rintro _ _ _ ⟨rfl, rfl, rfl⟩
 repeat (first|refine q4 tab rfl rfl ?_|refine q5 ?_|refine q6 ?_)
 refine TC.cond (t := !withinB a 0 0) rfl (fun c4 => ?_) (fun c4 => ?_)
 ·skip
  repeat (first|refine q1 ?_|refine q3 ?_|refine q4 tab rfl rfl ?_|refine q5 ?_|refine q6 ?_|refine q8 ?_|refine q15 ?_)
  refine retQ_ret rfl (by repeat (first|exact List.Sublist.refl _|refine List.Sublist.cons _ ?_)) ⟨Mem.le_refl _, rfl, ?_⟩
  simp_all
 ·have c4' : withinB a 0 0 = true := by simpa using c4
  have hd : a.deep ≤ 100 := by rw [withinB_eq] at c4'; simp only [Bool.and_eq_true, decide_eq_true_eq] at c4'; omega
  rw [decide_eq_true c1, decide_eq_true c2, decide_eq_true c3, c4']
  repeat (first|refine q1 ?_|refine q2 ?_|refine q3 ?_|refine q4 tab rfl rfl ?_|refine q5 ?_|refine q6 ?_|refine q13 ?_)
  refine TC.loopK (ι := Nat) [1] rfl (fun i => [(3, .int .i64 (i : Int))]) (fun _ => m) (fun _ => .cells b 0 (treeC h) :: L) (fun i => i ≤ a.kids.length ∧ a.kids.all (isD levelD 100 1) = (a.kids.drop i).all (isD levelD 100 1)) (fun i => a.kids.length - i) 0 (by repeat (first|exact trivial|refine And.intro rfl ?_)) rfl (by repeat (exact List.Sublist.refl _)) ⟨Nat.zero_le _, rfl⟩ ?_
  rintro i ⟨hi, hI⟩
  repeat (first|(first|refine q1 ?_|refine q3 ?_|refine q4 tab rfl rfl ?_|refine q5 ?_|refine q6 ?_)|(refine qs rfl (ql tab 0 rfl rfl rfl rfl rfl rfl ?_)))
  refine TC.condP rfl (fun hik => ?_) (fun hik => ?_)
  ·have hilt : i < a.kids.length := by omega
   have hxi : a.kids[i]? = some a.kids[i] := by simp [hilt]
   rw [List.drop_eq_getElem_cons hilt, List.all_cons] at hI
   repeat (first|(first|refine q1 ?_|refine q2 ?_|refine q3 ?_|refine q4 tab rfl rfl ?_|refine q6 ?_|refine q13 ?_)|(refine qs rfl (ql tab 0 rfl rfl rfl rfl rfl rfl ?_)))
   refine TO.step rfl (OT.index tab rTree i h4 rfl rfl rfl rfl rfl (by first | rfl | omega | (simp only; omega)) rfl hxi ?_)
   rintro b4 i4 h' hr4 hA4
   (refine TO.step rfl (OT.loadA0 tab hA4 rfl rfl rfl rfl rfl ?_))
   skip
   refine TO.step rfl (OT.call rfl rfl rfl rfl rfl rfl goes29 ((isn_law 100 1 a.kids[i] ⟨by decide, by decide⟩ (by have := deep_of_kid (List.getElem_mem hilt); omega) (Nat.le_trans (Nat.le_of_lt (bulk_kid (List.getElem_mem hilt))) hB) _ _ h' (rTree_iff.1 hr4)).x ?_));
   rintro _ _ _ ⟨rfl, rfl, rfl⟩
   repeat (first|refine q4 tab rfl rfl ?_|refine q5 ?_|refine q6 ?_)
   refine TC.cond (t := !isD levelD 100 1 a.kids[i]) rfl (fun hpb => ?_) (fun hpb => ?_)
   ·repeat (first|refine q1 ?_|refine q3 ?_|refine q4 tab rfl rfl ?_|refine q5 ?_|refine q6 ?_|refine q8 ?_|refine q9 ?_|refine q15 ?_)
    refine retQ_ret rfl (by repeat (first|exact List.Sublist.refl _|refine List.Sublist.cons _ ?_)) ⟨Mem.le_refl _, rfl, ?_⟩
    rw [hI, show isD levelD 100 1 a.kids[i] = false by simpa using hpb]; rfl
   ·repeat (first|refine q3 ?_|refine q4 tab rfl rfl ?_|refine q6 ?_|refine q7 ?_|refine q13 ?_)
    refine TO.step rfl (OT.arith (r' := ((i + 1 : Nat) : Int)) rfl rfl rfl rfl rfl rfl rfl (by omega) ?_)
    repeat (first|refine q4 tab rfl rfl ?_|refine q5 ?_|refine q6 ?_)
    exact ⟨i + 1, (by repeat (first|exact trivial|refine And.intro rfl ?_)), (by repeat (first|exact trivial|refine And.intro rfl ?_)), rfl, rfl, (by repeat (exact List.Sublist.refl _)), ⟨by omega, by rw [hI, show isD levelD 100 1 a.kids[i] = true by simpa using hpb, Bool.true_and]⟩, by omega⟩
  ·repeat (first|refine q1 ?_|refine q3 ?_|refine q4 tab rfl rfl ?_|refine q5 ?_|refine q6 ?_|refine q10 ?_|refine q11 ?_|refine q14 ?_|refine q15 ?_)
   refine retQ_ret rfl (by repeat (first|exact List.Sublist.refl _|refine List.Sublist.cons _ ?_)) ⟨Mem.le_refl _, rfl, ?_⟩
   rw [hI, List.drop_eq_nil_of_le (by omega)]; rfl
end Go.Sep


/- PsSoundW -/
set_option linter.unusedVariables false
set_option linter.unusedSimpArgs false
namespace Go.Sep
open Go.Proofs
attribute [local irreducible] TC TO OT TCallX TCall DO DOt thenQ blockQ retQ At
set_option maxHeartbeats 1600000 in
theorem parseSound_walk (m : Mem) (L : List Item) (a : Tree) (h : HTree) (hr : TreeRep m h a) (hB : a.bulk ≤ 1048576) (hE : Errs m) : TCall Tryz.prog 4 ⟨[treeV h]⟩ m L (Made m L fun r _ => r = .bool true) := by
 unfold TCall
 refine TCallX.enter Tryz.func4 rfl 11 rfl ?_
 repeat (first|refine q1 ?_|refine q3 ?_)
 refine TO.step rfl (OT.box rfl rfl rfl rfl rfl (fun b => ?_))
 repeat (first|refine q1 ?_|refine q4 tab rfl rfl ?_|refine q5 ?_|refine q6 ?_)
 refine TC.draw0 [] mixed 9 rfl ?_
 refine DO.run 0 rfl rfl (by kernel_rfl) rfl (OT.call rfl rfl rfl rfl rfl rfl goes10 ((awake_law _ _ hE).x ?_))
 rintro _ m1 _ ⟨hm1, rfl, rfl⟩; refine ⟨hm1, _, List.Perm.refl _, ?_⟩
 refine DO.pure tab (by repeat (first|exact Calm.ret|refine Calm.then ?_)) (by kernel_rfl) [1] (by kernel_rfl) rfl ?_
 (refine DO.loadL (k := 0) tab 2 0 (by repeat (first|exact Calm.ret|refine Calm.then ?_)) (by kernel_rfl) (by kernel_rfl) rfl rfl rfl rfl rfl rfl rfl rfl ?_)
 (refine DO.loadL (k := 0) tab 4 0 (by repeat (first|exact Calm.ret|refine Calm.then ?_)) (by kernel_rfl) (by kernel_rfl) rfl rfl rfl rfl rfl rfl rfl rfl ?_)
 refine DO.run 3 rfl rfl (by kernel_rfl) rfl (OT.call rfl rfl rfl rfl rfl rfl goes12 ((sound_law a _ _ h (hr.mono hm1) (Nat.le_trans hB (by decide))).x ?_))
 rintro _ _ _ ⟨rfl, rfl, rfl⟩; refine ⟨Mem.le_refl _, _, List.Perm.refl _, ?_⟩
 refine DO.run 5 rfl rfl (by kernel_rfl) rfl (OT.call rfl rfl rfl rfl rfl rfl goes13 ((rsound_law a _ _ h (hr.mono hm1) hB).x ?_))
 rintro _ _ _ ⟨rfl, rfl, rfl⟩; refine ⟨Mem.le_refl _, _, List.Perm.refl _, ?_⟩
 refine DO.run 6 rfl rfl (by kernel_rfl) rfl ?_; refine OT.eqBool tab rfl rfl rfl rfl rfl rfl ?_; rw [beq_self_eq_true]; refine ⟨Mem.le_refl _, _, List.Perm.refl _, ?_⟩
 refine DO.pure tab (by repeat (first|exact Calm.ret|refine Calm.then ?_)) (by kernel_rfl) [7, 8] (by kernel_rfl) rfl ?_
 (refine DO.nil0 (by kernel_rfl) ?_)
 rotate_left 1
 repeat (first|refine q6 ?_|refine q15 ?_)
 exact retQ_ret rfl (by repeat (first|exact List.Sublist.refl _|refine List.Sublist.cons _ ?_)) ⟨hm1, rfl, rfl⟩
end Go.Sep

