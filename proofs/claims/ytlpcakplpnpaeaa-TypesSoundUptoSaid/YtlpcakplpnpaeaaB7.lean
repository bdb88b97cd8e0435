/-
  Plain laws of the texts of types.
-/
import Derived.Lib.Join
import Derived.Test.YtlpcakplpnpaeaaB6
set_option linter.unusedVariables false
set_option linter.unusedSimpArgs false
namespace Go.Sep
def joinS (xs : List Str) (sep : Str) : Str := Lib.join xs sep
def commaS : Str := [44, 32]
def restS (l : List Str) : Str := if l.length = 0 then [] else if l.length = 1 then [32] ++ l.headD [] else [32, 40] ++ joinS l commaS ++ [41]
mutual
def Tree.show : Tree → Str
  | .mk k n u ks => if k = 1 then [105, 110, 116] else if k = 2 then [98, 111, 111, 108] else if k = 3 then [115, 116, 114, 105, 110, 103] else if k = 8 then [110, 105, 108] else if k = 4 then n
    else if k = 5 then [42] ++ (showL ks).headD [] else if k = 6 then [91, 93] ++ (showL ks).headD []
    else [102, 117, 110, 99, 40] ++ joinS ((showL ks).take u.toNat) commaS ++ [41] ++ restS ((showL ks).drop u.toNat)
def showL : List Tree → List Str
  | [] => []
  | t :: ts => t.show :: showL ts
end
theorem showL_eq : ∀ l : List Tree, showL l = l.map Tree.show
  | [] => rfl
  | t :: ts => by rw [showL, showL_eq ts]; rfl
theorem show_eq (a : Tree) : a.show = if a.kind = 1 then [105, 110, 116] else if a.kind = 2 then [98, 111, 111, 108] else if a.kind = 3 then [115, 116, 114, 105, 110, 103] else if a.kind = 8 then [110, 105, 108] else if a.kind = 4 then a.name
    else if a.kind = 5 then [42] ++ (a.kids.map Tree.show).headD [] else if a.kind = 6 then [91, 93] ++ (a.kids.map Tree.show).headD []
    else [102, 117, 110, 99, 40] ++ joinS ((a.kids.map Tree.show).take a.num.toNat) commaS ++ [41] ++ restS ((a.kids.map Tree.show).drop a.num.toNat) := by
  obtain ⟨k, n, u, ks⟩ := a
  simp only [Tree.kind, Tree.name, Tree.num, Tree.kids]
  rw [Tree.show, showL_eq]
  rfl
theorem joinS_le (l : List Str) : (joinS l commaS).length ≤ Lib.lens l + 2 * l.length := by
  cases l with
  | nil => simp [joinS, Lib.join_nil, Lib.lens]
  | cons x r =>
    unfold joinS
    rw [Lib.join_cons, List.length_append, Lib.joinTail_length]
    simp only [Lib.lens, List.map_cons, List.sum_cons, List.length_cons, commaS, List.length_nil]
    omega
theorem lens_append (l r : List Str) : Lib.lens (l ++ r) = Lib.lens l + Lib.lens r := by simp [Lib.lens]
theorem restS_le (l : List Str) : (restS l).length ≤ Lib.lens l + 2 * l.length + 3 := by
  unfold restS
  split
  · simp
  split
  · rename_i h0 h1
    match l, h1 with
    | [x], _ => simp [Lib.lens]
  · have := joinS_le l
    simp only [List.length_append, List.length_cons, List.length_nil]
    omega
mutual
theorem show_len : ∀ a : Tree, a.show.length + 2 ≤ 16 * a.bulk
  | .mk k n u ks => by
    have ih := showL_len ks
    have hh : ((showL ks).headD []).length ≤ Lib.lens (showL ks) := by
      cases showL ks with
      | nil => simp
      | cons x r => simp [Lib.lens]
    have h1 := joinS_le ((showL ks).take u.toNat)
    have h2 := restS_le ((showL ks).drop u.toNat)
    have h3 := lens_append ((showL ks).take u.toNat) ((showL ks).drop u.toNat)
    have h4 := congrArg List.length (List.take_append_drop u.toNat (showL ks))
    rw [List.take_append_drop] at h3
    rw [List.length_append] at h4
    have h5 : (showL ks).length = ks.length := by rw [showL_eq, List.length_map]
    rw [Tree.show]
    simp only [Tree.bulk]
    repeat' split
    all_goals (try simp only [List.length_append, List.length_cons, List.length_nil]); omega
theorem showL_len : ∀ l : List Tree, Lib.lens (showL l) + 2 * l.length ≤ 16 * bulkL l
  | [] => by simp [showL, Lib.lens, bulkL]
  | t :: ts => by
    have h1 := show_len t
    have h2 := showL_len ts
    simp only [showL, Lib.lens, List.map_cons, List.sum_cons, bulkL, List.length_cons] at *
    omega
end
theorem formed_kinds {a : Tree} (h : a.formed = true) : (∀ k ∈ a.kids, k.formed = true) ∧ ((a.kind = 1 ∨ a.kind = 2 ∨ a.kind = 3 ∨ a.kind = 8 ∨ a.kind = 4) ∨ ((a.kind = 5 ∨ a.kind = 6) ∧ a.kids.length = 1) ∨ (a.kind = 7 ∧ 0 ≤ a.num ∧ a.num ≤ (a.kids.length : Int))) := by
  rw [formed_eq, Bool.and_eq_true, Bool.and_eq_true] at h
  obtain ⟨h1, h2, h3⟩ := h
  refine ⟨fun k hk => ?_, ?_⟩
  · rw [formedL_eq, List.all_eq_true] at h1
    have := h1 k hk
    rw [Bool.and_eq_true] at this
    exact this.2
  · unfold kindB at h3
    split at h3
    · left; omega
    split at h3
    · left; omega
    split at h3
    · exact .inr (.inl ⟨by assumption, of_decide_eq_true h3⟩)
    split at h3
    · simp only [Bool.and_eq_true, decide_eq_true_eq] at h3
      exact .inr (.inr ⟨by assumption, h3.1, h3.2⟩)
    · cases h3
end Go.Sep

/-
  The text of a type: the walks of Show and show.
-/
set_option linter.unusedVariables false
set_option linter.unusedSimpArgs false
namespace Go.Sep
open Go.Proofs Go.RowKit
attribute [local irreducible] TC TO OT TCallX TCall DO DOt thenQ blockQ retQ At

theorem St.below {m : Mem} {w w' : World} {L : List Item} (h : St m w L) (hb : Below w.heap.size w w') : St m w' L := by
  have hc : ∀ (b i : Nat) (v : Value), w.cell? ⟨b, i, none⟩ = some v → w'.cell? ⟨b, i, none⟩ = some v ∧ w'.frozen? ⟨b, i, none⟩ = w.frozen? ⟨b, i, none⟩ := fun b i v hv => by
    have hlt := World.block_lt_of_cell? _ _ hv
    have e := hb.block b hlt
    exact ⟨by rw [World.cell?_of_block e]; exact hv, World.frozen?_of_block e⟩
  refine ⟨hb.os.trans h.os, hb.tape.trans h.tape, hb.output.trans h.output, Nat.le_trans h.size hb.size, fun b hlt => (hb.block b (Nat.lt_of_lt_of_le hlt h.size)).trans (h.pin b hlt), fun b i v hv => (hc b i v (h.c b i v hv)).1, fun b x hx => ?_, fun x hx => ?_, h.free, h.disj⟩
  · obtain ⟨h1, h2⟩ := h.o b x hx
    have hlt : b < w.heap.size := (Array.getElem?_eq_some_iff.1 h1).1
    exact ⟨(hb.block b hlt).trans h1, h2⟩
  · have hi := h.items x hx
    cases x with
    | cells b off vs =>
      intro j v hj
      obtain ⟨h1, h2⟩ := hi j v hj
      obtain ⟨h3, h4⟩ := hc _ _ _ h1
      exact ⟨h3, h4.trans h2⟩
    | room b off n =>
      intro j hj
      obtain ⟨v, h1, h2⟩ := hi j hj
      obtain ⟨h3, h4⟩ := hc _ _ _ h1
      exact ⟨v, h3, h4.trans h2⟩
    | obj b o =>
      obtain ⟨h1, h2⟩ := hi
      have hlt : b < w.heap.size := (Array.getElem?_eq_some_iff.1 h1).1
      exact ⟨(hb.block b hlt).trans h1, h2⟩

theorem all2_eq {m : Mem} : ∀ {hs l : List Str}, All2 (rStr.rep m) hs l → hs = l
  | [], [], _ => rfl
  | h :: hs, a :: l, hh => by rw [show h = a from hh.1, all2_eq hh.2]
  | [], _ :: _, hh => hh.elim
  | _ :: _, [], hh => hh.elim
theorem encs_str : ∀ xs : List Str, encs rStr xs = xs.map strV
  | [] => rfl
  | x :: xs => by rw [List.map_cons, ← encs_str xs]; rfl

theorem join_law (m : Mem) (L : List Item) (s : Sl) (xs : List Str) (hs : SlRep rStr m s xs) (sep : Str) (hlen : (joinS xs sep).length ≤ 140737488355328) :
    TCall Try.prog 80 ⟨[s.v, strV sep]⟩ m L (Ret (strV (joinS xs sep)) m L) := by
  unfold TCall TCallX
  intro w hw
  obtain ⟨hs', h1, h2⟩ := hs.cells
  have hl := hs.len
  have hsm := hs.small rfl
  have hcap := hs.cap
  rcases h2 with ⟨h0, _⟩ | ⟨b, o, ha, hA⟩
  · obtain ⟨a, n, c⟩ := s
    subst h0
    obtain rfl : n = 0 := hl
    refine (Try.strings_Join_none a c ⟨⟨sep⟩⟩ w).mono fun e w' ⟨he, hww⟩ => ?_
    subst he; subst hww
    exact ⟨m, L, hw, rfl, rfl, rfl⟩
  · by_cases hx0 : xs = []
    · obtain ⟨a, n, c⟩ := s
      subst hx0
      obtain rfl : n = 0 := hl
      refine (Try.strings_Join_none a c ⟨⟨sep⟩⟩ w).mono fun e w' ⟨he, hww⟩ => ?_
      subst he; subst hww
      exact ⟨m, L, hw, rfl, rfl, rfl⟩
    have hxs : hs' = xs := all2_eq h1
    subst hxs
    obtain ⟨a, n, c⟩ := s
    simp only at ha hl hcap
    subst ha
    have hmm : (hs'.map fun s => (⟨⟨s⟩⟩ : ByteArray)).map (fun x => x.data.toList) = hs' := by rw [List.map_map]; exact List.map_id _
    have hcells : ∀ (j : Nat) (x : ByteArray), (hs'.map fun s => (⟨⟨s⟩⟩ : ByteArray))[j]? = some x → w.cell? ⟨b, o + j, none⟩ = some (.string x) := fun j x hj => by
      rw [List.getElem?_map] at hj
      cases hq : hs'[j]? with
      | none => rw [hq] at hj; cases hj
      | some y =>
        rw [hq] at hj
        simp only [Option.map_some, Option.some.injEq] at hj
        subst hj
        exact hw.at_cells hA j _ (by rw [encs_str, List.getElem?_map, hq]; rfl)
    have hlt : b < w.heap.size := by
      have hpos : 0 < hs'.length := List.length_pos_iff.2 hx0
      have h3 := hcells 0 ⟨⟨hs'[0]⟩⟩ (by rw [List.getElem?_map, List.getElem?_eq_getElem hpos]; rfl)
      exact World.block_lt_of_cell? _ _ h3
    have hJ := Try.strings_Join b o c (hs'.map fun s => (⟨⟨s⟩⟩ : ByteArray)) ⟨⟨sep⟩⟩ w hcells hlt (by rw [List.length_map]; omega) (by rw [List.length_map]; omega) (by rw [hmm]; exact hlen)
    rw [List.length_map, ← hl, hmm] at hJ
    refine hJ.mono fun e w' ⟨he, hww⟩ => ?_
    subst he
    exact ⟨m, L, hw.below hww, rfl, rfl, rfl⟩

theorem commaS_len : commaS.length = 2 := rfl
theorem row_step (l : List Str) (k : Nat) (h : k < l.length) : joinS (l.take (k + 1)) commaS = (if 0 < k then joinS (l.take k) commaS ++ commaS else joinS (l.take k) commaS) ++ l[k] := by
  cases l with
  | nil => cases h
  | cons x r =>
    cases k with
    | zero => simp [joinS, Lib.join_cons, Lib.joinTail, Lib.join_nil]
    | succ k =>
      rw [if_pos (by omega)]
      have hk : k < r.length := by simpa using h
      unfold joinS
      rw [List.take_succ_cons, List.take_succ_cons, Lib.join_cons, Lib.join_cons, Lib.joinTail_take_succ _ _ _ r[k] (by simp [hk])]
      simp [List.append_assoc]

theorem lens_take (l : List Str) (k : Nat) : Lib.lens (l.take k) ≤ Lib.lens l := Lib.lens_take_le l k
theorem joinS_take (l : List Str) (k : Nat) : (joinS (l.take k) commaS).length ≤ Lib.lens l + 2 * l.length := by
  have h1 := joinS_le (l.take k)
  have h2 := lens_take l k
  have h3 : (l.take k).length ≤ l.length := by rw [List.length_take]; omega
  omega

set_option maxHeartbeats 1600000 in
theorem row_ref (m : Mem) (L : List Item) (s : Sl) (l : List Tree) (hs : SlRep rTree m s l) (hB : Lib.lens (l.map Tree.show) + 2 * l.length ≤ 16777216)
    (hp : ∀ a ∈ l, ∀ (m : Mem) (L : List Item) (h : HTree), TreeRep m h a → TCall Try.prog 44 ⟨[treeV h]⟩ m L (Ret (strV a.show) m L)) :
    TCall Try.prog 81 ⟨[s.v]⟩ m L (Ret (strV (joinS (l.map Tree.show) commaS)) m L) := by
  have hl := hs.len
  have hsm := hs.small rfl
  unfold TCall
  refine TCallX.enter Try.func81 rfl 23 rfl ?_
  repeat (first|refine q1 ?_|refine q2 ?_|refine q3 ?_|refine q4 tab rfl rfl ?_|refine q5 ?_|refine q6 ?_|refine q7 ?_|refine q8 ?_|refine q9 ?_|refine q10 ?_|refine q11 ?_|refine q12 rfl ?_|refine q13 ?_|refine q14 ?_|refine q15 ?_|refine q16 rfl ?_|refine q17 rfl ?_)
  refine TC.loopK (ι := Nat) [0] rfl (fun k => [(4, .int .i64 (k : Int)), (3, strV (joinS ((l.map Tree.show).take k) commaS))]) (fun _ => m) (fun _ => L) (fun k => k ≤ l.length) (fun k => l.length - k) 0 (by repeat (first | exact trivial | refine And.intro rfl ?_)) rfl (by repeat (first | exact List.Sublist.refl _ | exact List.sublist_append_left _ _ | refine List.Sublist.cons_cons _ ?_ | refine List.Sublist.cons _ ?_)) (Nat.zero_le _) ?_
  rintro k hk
  repeat (first|refine q1 ?_|refine q2 ?_|refine q3 ?_|refine q4 tab rfl rfl ?_|refine q5 ?_|refine q6 ?_|refine q7 ?_|refine q8 ?_|refine q9 ?_|refine q10 ?_|refine q11 ?_|refine q12 rfl ?_|refine q13 ?_|refine q14 ?_|refine q15 ?_|refine q16 rfl ?_|refine q17 rfl ?_)
  refine TC.condP rfl (fun hlt' => ?_) (fun hlt' => ?_)
  · have hlt : k < l.length := by omega
    have hx : l[k]? = some l[k] := by simp [hlt]
    have hmem := List.getElem_mem hlt
    have hst := row_step (l.map Tree.show) k (by rw [List.length_map]; exact hlt)
    have hj := joinS_take (l.map Tree.show) k
    have hj2 := joinS_take (l.map Tree.show) (k + 1)
    rw [List.length_map] at hj hj2
    rw [List.getElem_map] at hst
    repeat (first|refine q1 ?_|refine q2 ?_|refine q3 ?_|refine q4 tab rfl rfl ?_|refine q5 ?_|refine q6 ?_|refine q7 ?_|refine q8 ?_|refine q9 ?_|refine q10 ?_|refine q11 ?_|refine q12 rfl ?_|refine q13 ?_|refine q14 ?_|refine q15 ?_|refine q16 rfl ?_|refine q17 rfl ?_)
    refine TC.condP rfl (fun h0 => ?_) (fun h0 => ?_)
    · have h0' : 0 < k := by omega
      rw [if_pos h0'] at hst
      repeat (first|refine q1 ?_|refine q2 ?_|refine q3 ?_|refine q4 tab rfl rfl ?_|refine q5 ?_|refine q6 ?_|refine q7 ?_|refine q8 ?_|refine q9 ?_|refine q10 ?_|refine q11 ?_|refine q12 rfl ?_|refine q13 ?_|refine q14 ?_|refine q15 ?_|refine q16 rfl ?_|refine q17 rfl ?_)
      refine TO.step rfl (OT.concat rfl rfl rfl rfl rfl (by (try simp only [List.length_append, List.length_cons, List.length_nil]); omega) ?_)
      repeat (first|refine q1 ?_|refine q2 ?_|refine q3 ?_|refine q4 tab rfl rfl ?_|refine q5 ?_|refine q6 ?_|refine q7 ?_|refine q8 ?_|refine q9 ?_|refine q10 ?_|refine q11 ?_|refine q12 rfl ?_|refine q13 ?_|refine q14 ?_|refine q15 ?_|refine q16 rfl ?_|refine q17 rfl ?_)
      refine TO.step rfl (OT.index tab rTree k hs rfl rfl rfl rfl rfl (by first | rfl | omega) rfl hx ?_)
      rintro b' i' h' hrd hA
      (first | refine TO.step rfl (OT.loadA tab hA rfl rfl rfl rfl rfl ?_) | refine TO.step rfl (OT.loadA0 tab hA rfl rfl rfl rfl rfl ?_))
      repeat (first|refine q1 ?_|refine q2 ?_|refine q3 ?_|refine q4 tab rfl rfl ?_|refine q5 ?_|refine q6 ?_|refine q7 ?_|refine q8 ?_|refine q9 ?_|refine q10 ?_|refine q11 ?_|refine q12 rfl ?_|refine q13 ?_|refine q14 ?_|refine q15 ?_|refine q16 rfl ?_|refine q17 rfl ?_)
      refine TO.step rfl (OT.call rfl rfl rfl rfl rfl rfl goes44 ((hp _ hmem _ _ h' (rTree_iff.1 hrd)).x ?_));
      rintro _ _ _ ⟨rfl, rfl, rfl⟩
      have hcl := congrArg List.length hst
      simp only [List.length_append, commaS_len] at hcl
      refine TO.step rfl (OT.concat rfl rfl rfl rfl rfl (by (try simp only [List.length_append, List.length_cons, List.length_nil]); omega) ?_)
      repeat (first|refine q1 ?_|refine q2 ?_|refine q3 ?_|refine q4 tab rfl rfl ?_|refine q5 ?_|refine q6 ?_|refine q7 ?_|refine q8 ?_|refine q9 ?_|refine q10 ?_|refine q11 ?_|refine q12 rfl ?_|refine q13 ?_|refine q14 ?_|refine q15 ?_|refine q16 rfl ?_|refine q17 rfl ?_)
      refine TO.step rfl (OT.arith (r' := ((k + 1 : Nat) : Int)) rfl rfl rfl rfl rfl rfl rfl (by omega) ?_)
      repeat (first|refine q1 ?_|refine q2 ?_|refine q3 ?_|refine q4 tab rfl rfl ?_|refine q5 ?_|refine q6 ?_|refine q7 ?_|refine q8 ?_|refine q9 ?_|refine q10 ?_|refine q11 ?_|refine q12 rfl ?_|refine q13 ?_|refine q14 ?_|refine q15 ?_|refine q16 rfl ?_|refine q17 rfl ?_)
      exact ⟨k + 1, by simp only [hst]; exact (by repeat (first | exact trivial | refine And.intro rfl ?_)), (by repeat (first | exact trivial | refine And.intro rfl ?_)), rfl, rfl, (by repeat (first | exact List.Sublist.refl _ | exact List.sublist_append_left _ _ | refine List.Sublist.cons_cons _ ?_ | refine List.Sublist.cons _ ?_)), by omega, by omega⟩
    · have h0' : ¬ 0 < k := by omega
      rw [if_neg h0'] at hst
      repeat (first|refine q1 ?_|refine q2 ?_|refine q3 ?_|refine q4 tab rfl rfl ?_|refine q5 ?_|refine q6 ?_|refine q7 ?_|refine q8 ?_|refine q9 ?_|refine q10 ?_|refine q11 ?_|refine q12 rfl ?_|refine q13 ?_|refine q14 ?_|refine q15 ?_|refine q16 rfl ?_|refine q17 rfl ?_)
      refine TO.step rfl (OT.index tab rTree k hs rfl rfl rfl rfl rfl (by first | rfl | omega) rfl hx ?_)
      rintro b' i' h' hrd hA
      (first | refine TO.step rfl (OT.loadA tab hA rfl rfl rfl rfl rfl ?_) | refine TO.step rfl (OT.loadA0 tab hA rfl rfl rfl rfl rfl ?_))
      repeat (first|refine q1 ?_|refine q2 ?_|refine q3 ?_|refine q4 tab rfl rfl ?_|refine q5 ?_|refine q6 ?_|refine q7 ?_|refine q8 ?_|refine q9 ?_|refine q10 ?_|refine q11 ?_|refine q12 rfl ?_|refine q13 ?_|refine q14 ?_|refine q15 ?_|refine q16 rfl ?_|refine q17 rfl ?_)
      refine TO.step rfl (OT.call rfl rfl rfl rfl rfl rfl goes44 ((hp _ hmem _ _ h' (rTree_iff.1 hrd)).x ?_));
      rintro _ _ _ ⟨rfl, rfl, rfl⟩
      have hcl := congrArg List.length hst
      simp only [List.length_append, commaS_len] at hcl
      refine TO.step rfl (OT.concat rfl rfl rfl rfl rfl (by (try simp only [List.length_append, List.length_cons, List.length_nil]); omega) ?_)
      repeat (first|refine q1 ?_|refine q2 ?_|refine q3 ?_|refine q4 tab rfl rfl ?_|refine q5 ?_|refine q6 ?_|refine q7 ?_|refine q8 ?_|refine q9 ?_|refine q10 ?_|refine q11 ?_|refine q12 rfl ?_|refine q13 ?_|refine q14 ?_|refine q15 ?_|refine q16 rfl ?_|refine q17 rfl ?_)
      refine TO.step rfl (OT.arith (r' := ((k + 1 : Nat) : Int)) rfl rfl rfl rfl rfl rfl rfl (by omega) ?_)
      repeat (first|refine q1 ?_|refine q2 ?_|refine q3 ?_|refine q4 tab rfl rfl ?_|refine q5 ?_|refine q6 ?_|refine q7 ?_|refine q8 ?_|refine q9 ?_|refine q10 ?_|refine q11 ?_|refine q12 rfl ?_|refine q13 ?_|refine q14 ?_|refine q15 ?_|refine q16 rfl ?_|refine q17 rfl ?_)
      exact ⟨k + 1, by simp only [hst]; exact (by repeat (first | exact trivial | refine And.intro rfl ?_)), (by repeat (first | exact trivial | refine And.intro rfl ?_)), rfl, rfl, (by repeat (first | exact List.Sublist.refl _ | exact List.sublist_append_left _ _ | refine List.Sublist.cons_cons _ ?_ | refine List.Sublist.cons _ ?_)), by omega, by omega⟩
  · repeat (first|refine q1 ?_|refine q2 ?_|refine q3 ?_|refine q4 tab rfl rfl ?_|refine q5 ?_|refine q6 ?_|refine q7 ?_|refine q8 ?_|refine q9 ?_|refine q10 ?_|refine q11 ?_|refine q12 rfl ?_|refine q13 ?_|refine q14 ?_|refine q15 ?_|refine q16 rfl ?_|refine q17 rfl ?_)
    refine retQ_ret rfl (by repeat (first | exact List.Sublist.refl _ | exact List.sublist_append_left _ _ | refine List.Sublist.cons_cons _ ?_ | refine List.Sublist.cons _ ?_)) ⟨rfl, rfl, ?_⟩
    rw [List.take_of_length_le (by rw [List.length_map]; omega)]
end Go.Sep

/-
  The text of a type: the walks of the reference's show, of Show, and of both Texts.
-/
set_option linter.unusedVariables false
set_option linter.unusedSimpArgs false
namespace Go.Sep
open Go.Proofs Go.RowKit
attribute [local irreducible] TC TO OT TCallX TCall DO DOt thenQ blockQ retQ At

theorem headD_show {l : List Tree} (h : 0 < l.length) : (l.map Tree.show).headD [] = l[0].show := by
  cases l with
  | nil => cases h
  | cons x r => rfl
theorem map_take_drop (l : List Tree) (k : Nat) : (l.take k).map Tree.show = (l.map Tree.show).take k ∧ (l.drop k).map Tree.show = (l.map Tree.show).drop k := by
  exact ⟨List.map_take .., List.map_drop ..⟩

set_option maxHeartbeats 6400000 in
theorem show_ref (a : Tree) : ∀ (hf : a.formed = true) (m : Mem) (L : List Item) (h : HTree) (hr : TreeRep m h a) (hB : a.bulk ≤ 1048576), TCall Try.prog 44 ⟨[treeV h]⟩ m L (Ret (strV a.show) m L) := by
  induction a using Tree.ind with
  | h a ih =>
  intro hf m L h hr hB
  obtain ⟨h1, h2, h3, h4⟩ := hr
  have hl := h4.len
  have hsm := h4.small rfl
  obtain ⟨hkf, hkinds⟩ := formed_kinds hf
  have hsl := showL_len a.kids
  have hkb : bulkL a.kids < a.bulk := by obtain ⟨_, _, _, ks⟩ := a; simp only [Tree.bulk, Tree.kids]; omega
  rw [showL_eq] at hsl
  obtain ⟨q, n, u, s⟩ := h
  simp only at h1 h2 h3 h4 hl
  rw [show_eq]
  unfold TCall
  refine TCallX.enter Try.func44 rfl 73 rfl ?_
  rcases hkinds with hA | ⟨hC, hlen⟩ | ⟨hD, hn0, hn1⟩
  · rcases hA with hA | hA | hA | hA | hA
    · obtain rfl : q = 1 := h1.trans hA
      rw [if_pos hA]
      repeat (first|refine q1 ?_|refine q2 ?_|refine q3 ?_|refine q4 tab rfl rfl ?_|refine q5 ?_|refine q6 ?_|refine q7 ?_|refine q8 ?_|refine q9 ?_|refine q10 ?_|refine q11 ?_|refine q12 rfl ?_|refine q13 ?_|refine q14 ?_|refine q15 ?_|refine q16 rfl ?_|refine q17 rfl ?_)
      refine TO.step rfl (OT.box rfl rfl rfl rfl rfl (fun b => ?_))
      repeat (first | (first|refine q1 ?_|refine q2 ?_|refine q3 ?_|refine q4 tab rfl rfl ?_|refine q5 ?_|refine q6 ?_|refine q7 ?_|refine q8 ?_|refine q9 ?_|refine q10 ?_|refine q11 ?_|refine q12 rfl ?_|refine q13 ?_|refine q14 ?_|refine q15 ?_|refine q16 rfl ?_|refine q17 rfl ?_) | (first | refine qs rfl (ql tab 0 rfl rfl rfl rfl rfl rfl ?_) | refine qs rfl (qz tab 0 rfl rfl rfl rfl rfl rfl ?_) | refine qs rfl (ql tab 1 rfl rfl rfl rfl rfl rfl ?_) | refine qs rfl (qz tab 1 rfl rfl rfl rfl rfl rfl ?_) | refine qs rfl (ql tab 2 rfl rfl rfl rfl rfl rfl ?_) | refine qs rfl (qz tab 2 rfl rfl rfl rfl rfl rfl ?_) | refine qs rfl (ql tab 3 rfl rfl rfl rfl rfl rfl ?_) | refine qs rfl (qz tab 3 rfl rfl rfl rfl rfl rfl ?_) | refine qs rfl (ql tab 4 rfl rfl rfl rfl rfl rfl ?_) | refine qs rfl (qz tab 4 rfl rfl rfl rfl rfl rfl ?_) | refine qs rfl (ql tab 5 rfl rfl rfl rfl rfl rfl ?_) | refine qs rfl (qz tab 5 rfl rfl rfl rfl rfl rfl ?_)))
      refine retQ_ret rfl (by repeat (first | exact List.Sublist.refl _ | exact List.sublist_append_left _ _ | refine List.Sublist.cons_cons _ ?_ | refine List.Sublist.cons _ ?_)) ⟨rfl, rfl, ?_⟩
      rfl
    · obtain rfl : q = 2 := h1.trans hA
      rw [if_neg (by omega), if_pos hA]
      repeat (first|refine q1 ?_|refine q2 ?_|refine q3 ?_|refine q4 tab rfl rfl ?_|refine q5 ?_|refine q6 ?_|refine q7 ?_|refine q8 ?_|refine q9 ?_|refine q10 ?_|refine q11 ?_|refine q12 rfl ?_|refine q13 ?_|refine q14 ?_|refine q15 ?_|refine q16 rfl ?_|refine q17 rfl ?_)
      refine TO.step rfl (OT.box rfl rfl rfl rfl rfl (fun b => ?_))
      repeat (first | (first|refine q1 ?_|refine q2 ?_|refine q3 ?_|refine q4 tab rfl rfl ?_|refine q5 ?_|refine q6 ?_|refine q7 ?_|refine q8 ?_|refine q9 ?_|refine q10 ?_|refine q11 ?_|refine q12 rfl ?_|refine q13 ?_|refine q14 ?_|refine q15 ?_|refine q16 rfl ?_|refine q17 rfl ?_) | (first | refine qs rfl (ql tab 0 rfl rfl rfl rfl rfl rfl ?_) | refine qs rfl (qz tab 0 rfl rfl rfl rfl rfl rfl ?_) | refine qs rfl (ql tab 1 rfl rfl rfl rfl rfl rfl ?_) | refine qs rfl (qz tab 1 rfl rfl rfl rfl rfl rfl ?_) | refine qs rfl (ql tab 2 rfl rfl rfl rfl rfl rfl ?_) | refine qs rfl (qz tab 2 rfl rfl rfl rfl rfl rfl ?_) | refine qs rfl (ql tab 3 rfl rfl rfl rfl rfl rfl ?_) | refine qs rfl (qz tab 3 rfl rfl rfl rfl rfl rfl ?_) | refine qs rfl (ql tab 4 rfl rfl rfl rfl rfl rfl ?_) | refine qs rfl (qz tab 4 rfl rfl rfl rfl rfl rfl ?_) | refine qs rfl (ql tab 5 rfl rfl rfl rfl rfl rfl ?_) | refine qs rfl (qz tab 5 rfl rfl rfl rfl rfl rfl ?_)))
      refine retQ_ret rfl (by repeat (first | exact List.Sublist.refl _ | exact List.sublist_append_left _ _ | refine List.Sublist.cons_cons _ ?_ | refine List.Sublist.cons _ ?_)) ⟨rfl, rfl, ?_⟩
      rfl
    · obtain rfl : q = 3 := h1.trans hA
      rw [if_neg (by omega), if_neg (by omega), if_pos hA]
      repeat (first|refine q1 ?_|refine q2 ?_|refine q3 ?_|refine q4 tab rfl rfl ?_|refine q5 ?_|refine q6 ?_|refine q7 ?_|refine q8 ?_|refine q9 ?_|refine q10 ?_|refine q11 ?_|refine q12 rfl ?_|refine q13 ?_|refine q14 ?_|refine q15 ?_|refine q16 rfl ?_|refine q17 rfl ?_)
      refine TO.step rfl (OT.box rfl rfl rfl rfl rfl (fun b => ?_))
      repeat (first | (first|refine q1 ?_|refine q2 ?_|refine q3 ?_|refine q4 tab rfl rfl ?_|refine q5 ?_|refine q6 ?_|refine q7 ?_|refine q8 ?_|refine q9 ?_|refine q10 ?_|refine q11 ?_|refine q12 rfl ?_|refine q13 ?_|refine q14 ?_|refine q15 ?_|refine q16 rfl ?_|refine q17 rfl ?_) | (first | refine qs rfl (ql tab 0 rfl rfl rfl rfl rfl rfl ?_) | refine qs rfl (qz tab 0 rfl rfl rfl rfl rfl rfl ?_) | refine qs rfl (ql tab 1 rfl rfl rfl rfl rfl rfl ?_) | refine qs rfl (qz tab 1 rfl rfl rfl rfl rfl rfl ?_) | refine qs rfl (ql tab 2 rfl rfl rfl rfl rfl rfl ?_) | refine qs rfl (qz tab 2 rfl rfl rfl rfl rfl rfl ?_) | refine qs rfl (ql tab 3 rfl rfl rfl rfl rfl rfl ?_) | refine qs rfl (qz tab 3 rfl rfl rfl rfl rfl rfl ?_) | refine qs rfl (ql tab 4 rfl rfl rfl rfl rfl rfl ?_) | refine qs rfl (qz tab 4 rfl rfl rfl rfl rfl rfl ?_) | refine qs rfl (ql tab 5 rfl rfl rfl rfl rfl rfl ?_) | refine qs rfl (qz tab 5 rfl rfl rfl rfl rfl rfl ?_)))
      refine retQ_ret rfl (by repeat (first | exact List.Sublist.refl _ | exact List.sublist_append_left _ _ | refine List.Sublist.cons_cons _ ?_ | refine List.Sublist.cons _ ?_)) ⟨rfl, rfl, ?_⟩
      rfl
    · obtain rfl : q = 8 := h1.trans hA
      rw [if_neg (by omega), if_neg (by omega), if_neg (by omega), if_pos hA]
      repeat (first|refine q1 ?_|refine q2 ?_|refine q3 ?_|refine q4 tab rfl rfl ?_|refine q5 ?_|refine q6 ?_|refine q7 ?_|refine q8 ?_|refine q9 ?_|refine q10 ?_|refine q11 ?_|refine q12 rfl ?_|refine q13 ?_|refine q14 ?_|refine q15 ?_|refine q16 rfl ?_|refine q17 rfl ?_)
      refine TO.step rfl (OT.box rfl rfl rfl rfl rfl (fun b => ?_))
      repeat (first | (first|refine q1 ?_|refine q2 ?_|refine q3 ?_|refine q4 tab rfl rfl ?_|refine q5 ?_|refine q6 ?_|refine q7 ?_|refine q8 ?_|refine q9 ?_|refine q10 ?_|refine q11 ?_|refine q12 rfl ?_|refine q13 ?_|refine q14 ?_|refine q15 ?_|refine q16 rfl ?_|refine q17 rfl ?_) | (first | refine qs rfl (ql tab 0 rfl rfl rfl rfl rfl rfl ?_) | refine qs rfl (qz tab 0 rfl rfl rfl rfl rfl rfl ?_) | refine qs rfl (ql tab 1 rfl rfl rfl rfl rfl rfl ?_) | refine qs rfl (qz tab 1 rfl rfl rfl rfl rfl rfl ?_) | refine qs rfl (ql tab 2 rfl rfl rfl rfl rfl rfl ?_) | refine qs rfl (qz tab 2 rfl rfl rfl rfl rfl rfl ?_) | refine qs rfl (ql tab 3 rfl rfl rfl rfl rfl rfl ?_) | refine qs rfl (qz tab 3 rfl rfl rfl rfl rfl rfl ?_) | refine qs rfl (ql tab 4 rfl rfl rfl rfl rfl rfl ?_) | refine qs rfl (qz tab 4 rfl rfl rfl rfl rfl rfl ?_) | refine qs rfl (ql tab 5 rfl rfl rfl rfl rfl rfl ?_) | refine qs rfl (qz tab 5 rfl rfl rfl rfl rfl rfl ?_)))
      refine retQ_ret rfl (by repeat (first | exact List.Sublist.refl _ | exact List.sublist_append_left _ _ | refine List.Sublist.cons_cons _ ?_ | refine List.Sublist.cons _ ?_)) ⟨rfl, rfl, ?_⟩
      rfl
    · obtain rfl : q = 4 := h1.trans hA
      rw [if_neg (by omega), if_neg (by omega), if_neg (by omega), if_neg (by omega), if_pos hA, ← h2]
      repeat (first|refine q1 ?_|refine q2 ?_|refine q3 ?_|refine q4 tab rfl rfl ?_|refine q5 ?_|refine q6 ?_|refine q7 ?_|refine q8 ?_|refine q9 ?_|refine q10 ?_|refine q11 ?_|refine q12 rfl ?_|refine q13 ?_|refine q14 ?_|refine q15 ?_|refine q16 rfl ?_|refine q17 rfl ?_)
      refine TO.step rfl (OT.box rfl rfl rfl rfl rfl (fun b => ?_))
      repeat (first | (first|refine q1 ?_|refine q2 ?_|refine q3 ?_|refine q4 tab rfl rfl ?_|refine q5 ?_|refine q6 ?_|refine q7 ?_|refine q8 ?_|refine q9 ?_|refine q10 ?_|refine q11 ?_|refine q12 rfl ?_|refine q13 ?_|refine q14 ?_|refine q15 ?_|refine q16 rfl ?_|refine q17 rfl ?_) | (first | refine qs rfl (ql tab 0 rfl rfl rfl rfl rfl rfl ?_) | refine qs rfl (qz tab 0 rfl rfl rfl rfl rfl rfl ?_) | refine qs rfl (ql tab 1 rfl rfl rfl rfl rfl rfl ?_) | refine qs rfl (qz tab 1 rfl rfl rfl rfl rfl rfl ?_) | refine qs rfl (ql tab 2 rfl rfl rfl rfl rfl rfl ?_) | refine qs rfl (qz tab 2 rfl rfl rfl rfl rfl rfl ?_) | refine qs rfl (ql tab 3 rfl rfl rfl rfl rfl rfl ?_) | refine qs rfl (qz tab 3 rfl rfl rfl rfl rfl rfl ?_) | refine qs rfl (ql tab 4 rfl rfl rfl rfl rfl rfl ?_) | refine qs rfl (qz tab 4 rfl rfl rfl rfl rfl rfl ?_) | refine qs rfl (ql tab 5 rfl rfl rfl rfl rfl rfl ?_) | refine qs rfl (qz tab 5 rfl rfl rfl rfl rfl rfl ?_)))
      refine retQ_ret rfl (by repeat (first | exact List.Sublist.refl _ | exact List.sublist_append_left _ _ | refine List.Sublist.cons_cons _ ?_ | refine List.Sublist.cons _ ?_)) ⟨rfl, rfl, ?_⟩
      rfl
  · have hlt : 0 < a.kids.length := by omega
    have hx : a.kids[0]? = some a.kids[0] := by simp [hlt]
    have hmem := List.getElem_mem hlt
    have hhd : (a.kids.map Tree.show).headD [] = a.kids[0].show := headD_show hlt
    have hkl := show_len a.kids[0]
    have hkk := bulk_kid hmem
    rw [hhd, if_neg (by omega), if_neg (by omega), if_neg (by omega), if_neg (by omega), if_neg (by omega)]
    rcases hC with hC | hC
    · obtain rfl : q = 5 := h1.trans hC
      rw [if_pos hC]
      repeat (first|refine q1 ?_|refine q2 ?_|refine q3 ?_|refine q4 tab rfl rfl ?_|refine q5 ?_|refine q6 ?_|refine q7 ?_|refine q8 ?_|refine q9 ?_|refine q10 ?_|refine q11 ?_|refine q12 rfl ?_|refine q13 ?_|refine q14 ?_|refine q15 ?_|refine q16 rfl ?_|refine q17 rfl ?_)
      refine TO.step rfl (OT.box rfl rfl rfl rfl rfl (fun b => ?_))
      repeat (first | (first|refine q1 ?_|refine q2 ?_|refine q3 ?_|refine q4 tab rfl rfl ?_|refine q5 ?_|refine q6 ?_|refine q7 ?_|refine q8 ?_|refine q9 ?_|refine q10 ?_|refine q11 ?_|refine q12 rfl ?_|refine q13 ?_|refine q14 ?_|refine q15 ?_|refine q16 rfl ?_|refine q17 rfl ?_) | (first | refine qs rfl (ql tab 0 rfl rfl rfl rfl rfl rfl ?_) | refine qs rfl (qz tab 0 rfl rfl rfl rfl rfl rfl ?_) | refine qs rfl (ql tab 1 rfl rfl rfl rfl rfl rfl ?_) | refine qs rfl (qz tab 1 rfl rfl rfl rfl rfl rfl ?_) | refine qs rfl (ql tab 2 rfl rfl rfl rfl rfl rfl ?_) | refine qs rfl (qz tab 2 rfl rfl rfl rfl rfl rfl ?_) | refine qs rfl (ql tab 3 rfl rfl rfl rfl rfl rfl ?_) | refine qs rfl (qz tab 3 rfl rfl rfl rfl rfl rfl ?_) | refine qs rfl (ql tab 4 rfl rfl rfl rfl rfl rfl ?_) | refine qs rfl (qz tab 4 rfl rfl rfl rfl rfl rfl ?_) | refine qs rfl (ql tab 5 rfl rfl rfl rfl rfl rfl ?_) | refine qs rfl (qz tab 5 rfl rfl rfl rfl rfl rfl ?_)))
      refine TO.step rfl (OT.index tab rTree 0 h4 rfl rfl rfl rfl rfl (by first | rfl | omega) rfl hx ?_)
      rintro b' i' h' hrd hA
      (first | refine TO.step rfl (OT.loadA tab hA rfl rfl rfl rfl rfl ?_) | refine TO.step rfl (OT.loadA0 tab hA rfl rfl rfl rfl rfl ?_))
      repeat (first|refine q1 ?_|refine q2 ?_|refine q3 ?_|refine q4 tab rfl rfl ?_|refine q5 ?_|refine q6 ?_|refine q7 ?_|refine q8 ?_|refine q9 ?_|refine q10 ?_|refine q11 ?_|refine q12 rfl ?_|refine q13 ?_|refine q14 ?_|refine q15 ?_|refine q16 rfl ?_|refine q17 rfl ?_)
      refine TO.step rfl (OT.call rfl rfl rfl rfl rfl rfl goes44 ((ih _ hmem (hkf _ hmem) _ _ h' (rTree_iff.1 hrd) (Nat.le_trans (Nat.le_of_lt hkk) hB)).x ?_));
      rintro _ _ _ ⟨rfl, rfl, rfl⟩
      refine TO.step rfl (OT.concat rfl rfl rfl rfl rfl (by simp only [List.length_cons, List.length_nil]; omega) ?_)
      repeat (first|refine q1 ?_|refine q2 ?_|refine q3 ?_|refine q4 tab rfl rfl ?_|refine q5 ?_|refine q6 ?_|refine q7 ?_|refine q8 ?_|refine q9 ?_|refine q10 ?_|refine q11 ?_|refine q12 rfl ?_|refine q13 ?_|refine q14 ?_|refine q15 ?_|refine q16 rfl ?_|refine q17 rfl ?_)
      refine retQ_ret rfl (by repeat (first | exact List.Sublist.refl _ | exact List.sublist_append_left _ _ | refine List.Sublist.cons_cons _ ?_ | refine List.Sublist.cons _ ?_)) ⟨rfl, rfl, ?_⟩
      rfl
    · obtain rfl : q = 6 := h1.trans hC
      rw [if_neg (by omega), if_pos hC]
      repeat (first|refine q1 ?_|refine q2 ?_|refine q3 ?_|refine q4 tab rfl rfl ?_|refine q5 ?_|refine q6 ?_|refine q7 ?_|refine q8 ?_|refine q9 ?_|refine q10 ?_|refine q11 ?_|refine q12 rfl ?_|refine q13 ?_|refine q14 ?_|refine q15 ?_|refine q16 rfl ?_|refine q17 rfl ?_)
      refine TO.step rfl (OT.box rfl rfl rfl rfl rfl (fun b => ?_))
      repeat (first | (first|refine q1 ?_|refine q2 ?_|refine q3 ?_|refine q4 tab rfl rfl ?_|refine q5 ?_|refine q6 ?_|refine q7 ?_|refine q8 ?_|refine q9 ?_|refine q10 ?_|refine q11 ?_|refine q12 rfl ?_|refine q13 ?_|refine q14 ?_|refine q15 ?_|refine q16 rfl ?_|refine q17 rfl ?_) | (first | refine qs rfl (ql tab 0 rfl rfl rfl rfl rfl rfl ?_) | refine qs rfl (qz tab 0 rfl rfl rfl rfl rfl rfl ?_) | refine qs rfl (ql tab 1 rfl rfl rfl rfl rfl rfl ?_) | refine qs rfl (qz tab 1 rfl rfl rfl rfl rfl rfl ?_) | refine qs rfl (ql tab 2 rfl rfl rfl rfl rfl rfl ?_) | refine qs rfl (qz tab 2 rfl rfl rfl rfl rfl rfl ?_) | refine qs rfl (ql tab 3 rfl rfl rfl rfl rfl rfl ?_) | refine qs rfl (qz tab 3 rfl rfl rfl rfl rfl rfl ?_) | refine qs rfl (ql tab 4 rfl rfl rfl rfl rfl rfl ?_) | refine qs rfl (qz tab 4 rfl rfl rfl rfl rfl rfl ?_) | refine qs rfl (ql tab 5 rfl rfl rfl rfl rfl rfl ?_) | refine qs rfl (qz tab 5 rfl rfl rfl rfl rfl rfl ?_)))
      refine TO.step rfl (OT.index tab rTree 0 h4 rfl rfl rfl rfl rfl (by first | rfl | omega) rfl hx ?_)
      rintro b' i' h' hrd hA
      (first | refine TO.step rfl (OT.loadA tab hA rfl rfl rfl rfl rfl ?_) | refine TO.step rfl (OT.loadA0 tab hA rfl rfl rfl rfl rfl ?_))
      repeat (first|refine q1 ?_|refine q2 ?_|refine q3 ?_|refine q4 tab rfl rfl ?_|refine q5 ?_|refine q6 ?_|refine q7 ?_|refine q8 ?_|refine q9 ?_|refine q10 ?_|refine q11 ?_|refine q12 rfl ?_|refine q13 ?_|refine q14 ?_|refine q15 ?_|refine q16 rfl ?_|refine q17 rfl ?_)
      refine TO.step rfl (OT.call rfl rfl rfl rfl rfl rfl goes44 ((ih _ hmem (hkf _ hmem) _ _ h' (rTree_iff.1 hrd) (Nat.le_trans (Nat.le_of_lt hkk) hB)).x ?_));
      rintro _ _ _ ⟨rfl, rfl, rfl⟩
      refine TO.step rfl (OT.concat rfl rfl rfl rfl rfl (by simp only [List.length_cons, List.length_nil]; omega) ?_)
      repeat (first|refine q1 ?_|refine q2 ?_|refine q3 ?_|refine q4 tab rfl rfl ?_|refine q5 ?_|refine q6 ?_|refine q7 ?_|refine q8 ?_|refine q9 ?_|refine q10 ?_|refine q11 ?_|refine q12 rfl ?_|refine q13 ?_|refine q14 ?_|refine q15 ?_|refine q16 rfl ?_|refine q17 rfl ?_)
      refine retQ_ret rfl (by repeat (first | exact List.Sublist.refl _ | exact List.sublist_append_left _ _ | refine List.Sublist.cons_cons _ ?_ | refine List.Sublist.cons _ ?_)) ⟨rfl, rfl, ?_⟩
      rfl
  · obtain rfl : q = 7 := h1.trans hD
    rw [if_neg (by omega), if_neg (by omega), if_neg (by omega), if_neg (by omega), if_neg (by omega), if_neg (by omega), if_neg (by omega)]
    have hnum : u = ((a.num.toNat : Nat) : Int) := by omega
    have hnl : a.num.toNat ≤ a.kids.length := by omega
    obtain ⟨mt, md⟩ := map_take_drop a.kids a.num.toNat
    have htd := lens_append ((a.kids.map Tree.show).take a.num.toNat) ((a.kids.map Tree.show).drop a.num.toNat)
    rw [List.take_append_drop] at htd
    have hj1 := joinS_le ((a.kids.map Tree.show).take a.num.toNat)
    have hj2 := joinS_le ((a.kids.map Tree.show).drop a.num.toNat)
    rw [List.length_take, List.length_map] at hj1
    rw [List.length_drop, List.length_map] at hj2
    repeat (first|refine q1 ?_|refine q2 ?_|refine q3 ?_|refine q4 tab rfl rfl ?_|refine q5 ?_|refine q6 ?_|refine q7 ?_|refine q8 ?_|refine q9 ?_|refine q10 ?_|refine q11 ?_|refine q12 rfl ?_|refine q13 ?_|refine q14 ?_|refine q15 ?_|refine q16 rfl ?_|refine q17 rfl ?_)
    refine TO.step rfl (OT.box rfl rfl rfl rfl rfl (fun b => ?_))
    repeat (first | (first|refine q1 ?_|refine q2 ?_|refine q3 ?_|refine q4 tab rfl rfl ?_|refine q5 ?_|refine q6 ?_|refine q7 ?_|refine q8 ?_|refine q9 ?_|refine q10 ?_|refine q11 ?_|refine q12 rfl ?_|refine q13 ?_|refine q14 ?_|refine q15 ?_|refine q16 rfl ?_|refine q17 rfl ?_) | (first | refine qs rfl (ql tab 0 rfl rfl rfl rfl rfl rfl ?_) | refine qs rfl (qz tab 0 rfl rfl rfl rfl rfl rfl ?_) | refine qs rfl (ql tab 1 rfl rfl rfl rfl rfl rfl ?_) | refine qs rfl (qz tab 1 rfl rfl rfl rfl rfl rfl ?_) | refine qs rfl (ql tab 2 rfl rfl rfl rfl rfl rfl ?_) | refine qs rfl (qz tab 2 rfl rfl rfl rfl rfl rfl ?_) | refine qs rfl (ql tab 3 rfl rfl rfl rfl rfl rfl ?_) | refine qs rfl (qz tab 3 rfl rfl rfl rfl rfl rfl ?_) | refine qs rfl (ql tab 4 rfl rfl rfl rfl rfl rfl ?_) | refine qs rfl (qz tab 4 rfl rfl rfl rfl rfl rfl ?_) | refine qs rfl (ql tab 5 rfl rfl rfl rfl rfl rfl ?_) | refine qs rfl (qz tab 5 rfl rfl rfl rfl rfl rfl ?_)))
    refine TO.step rfl (OT.cut tab rTree 0 a.num.toNat h4 rfl rfl rfl rfl rfl rfl rfl (.inl ⟨rfl, rfl⟩) (.inr (by rw [← hnum])) (Nat.zero_le _) hnl (fun s1 hs1 => ?_))
    rw [List.drop_zero] at hs1
    repeat (first|refine q1 ?_|refine q2 ?_|refine q3 ?_|refine q4 tab rfl rfl ?_|refine q5 ?_|refine q6 ?_|refine q7 ?_|refine q8 ?_|refine q9 ?_|refine q10 ?_|refine q11 ?_|refine q12 rfl ?_|refine q13 ?_|refine q14 ?_|refine q15 ?_|refine q16 rfl ?_|refine q17 rfl ?_)
    refine TO.step rfl (OT.call rfl rfl rfl rfl rfl rfl goes81 ((row_ref _ _ s1 _ hs1 (by rw [mt, List.length_take]; omega) (fun k hk m L h' hr' => ih k (List.mem_of_mem_take hk) (hkf _ (List.mem_of_mem_take hk)) m L h' hr' (Nat.le_trans (Nat.le_of_lt (bulk_kid (List.mem_of_mem_take hk))) hB))).x ?_));
    rintro _ _ _ ⟨rfl, rfl, rfl⟩
    rw [mt]
    refine TO.step rfl (OT.concat rfl rfl rfl rfl rfl (by simp only [List.length_cons, List.length_nil]; omega) ?_)
    refine TO.step rfl (OT.concat rfl rfl rfl rfl rfl (by simp only [List.length_append, List.length_cons, List.length_nil]; omega) ?_)
    repeat (first | (first|refine q1 ?_|refine q2 ?_|refine q3 ?_|refine q4 tab rfl rfl ?_|refine q5 ?_|refine q6 ?_|refine q7 ?_|refine q8 ?_|refine q9 ?_|refine q10 ?_|refine q11 ?_|refine q12 rfl ?_|refine q13 ?_|refine q14 ?_|refine q15 ?_|refine q16 rfl ?_|refine q17 rfl ?_) | (first | refine qs rfl (ql tab 0 rfl rfl rfl rfl rfl rfl ?_) | refine qs rfl (qz tab 0 rfl rfl rfl rfl rfl rfl ?_) | refine qs rfl (ql tab 1 rfl rfl rfl rfl rfl rfl ?_) | refine qs rfl (qz tab 1 rfl rfl rfl rfl rfl rfl ?_) | refine qs rfl (ql tab 2 rfl rfl rfl rfl rfl rfl ?_) | refine qs rfl (qz tab 2 rfl rfl rfl rfl rfl rfl ?_) | refine qs rfl (ql tab 3 rfl rfl rfl rfl rfl rfl ?_) | refine qs rfl (qz tab 3 rfl rfl rfl rfl rfl rfl ?_) | refine qs rfl (ql tab 4 rfl rfl rfl rfl rfl rfl ?_) | refine qs rfl (qz tab 4 rfl rfl rfl rfl rfl rfl ?_) | refine qs rfl (ql tab 5 rfl rfl rfl rfl rfl rfl ?_) | refine qs rfl (qz tab 5 rfl rfl rfl rfl rfl rfl ?_)))
    refine TO.step rfl (OT.arith (r' := ((a.kids.length - a.num.toNat : Nat) : Int)) rfl rfl rfl rfl rfl rfl (by simp only; omega) (by omega) ?_)
    have hdl : ((a.kids.map Tree.show).drop a.num.toNat).length = a.kids.length - a.num.toNat := by rw [List.length_drop, List.length_map]
    repeat (first|refine q1 ?_|refine q2 ?_|refine q3 ?_|refine q4 tab rfl rfl ?_|refine q5 ?_|refine q6 ?_|refine q7 ?_|refine q8 ?_|refine q9 ?_|refine q10 ?_|refine q11 ?_|refine q12 rfl ?_|refine q13 ?_|refine q14 ?_|refine q15 ?_|refine q16 rfl ?_|refine q17 rfl ?_)
    refine TC.condP rfl (fun e0 => ?_) (fun e0 => ?_)
    · repeat (first | (first|refine q1 ?_|refine q2 ?_|refine q3 ?_|refine q4 tab rfl rfl ?_|refine q5 ?_|refine q6 ?_|refine q7 ?_|refine q8 ?_|refine q9 ?_|refine q10 ?_|refine q11 ?_|refine q12 rfl ?_|refine q13 ?_|refine q14 ?_|refine q15 ?_|refine q16 rfl ?_|refine q17 rfl ?_) | (first | refine qs rfl (ql tab 0 rfl rfl rfl rfl rfl rfl ?_) | refine qs rfl (qz tab 0 rfl rfl rfl rfl rfl rfl ?_) | refine qs rfl (ql tab 1 rfl rfl rfl rfl rfl rfl ?_) | refine qs rfl (qz tab 1 rfl rfl rfl rfl rfl rfl ?_) | refine qs rfl (ql tab 2 rfl rfl rfl rfl rfl rfl ?_) | refine qs rfl (qz tab 2 rfl rfl rfl rfl rfl rfl ?_) | refine qs rfl (ql tab 3 rfl rfl rfl rfl rfl rfl ?_) | refine qs rfl (qz tab 3 rfl rfl rfl rfl rfl rfl ?_) | refine qs rfl (ql tab 4 rfl rfl rfl rfl rfl rfl ?_) | refine qs rfl (qz tab 4 rfl rfl rfl rfl rfl rfl ?_) | refine qs rfl (ql tab 5 rfl rfl rfl rfl rfl rfl ?_) | refine qs rfl (qz tab 5 rfl rfl rfl rfl rfl rfl ?_)))
      refine retQ_ret rfl (by repeat (first | exact List.Sublist.refl _ | exact List.sublist_append_left _ _ | refine List.Sublist.cons_cons _ ?_ | refine List.Sublist.cons _ ?_)) ⟨rfl, rfl, ?_⟩
      unfold restS
      rw [if_pos (by omega), List.append_nil]
    repeat (first|refine q1 ?_|refine q2 ?_|refine q3 ?_|refine q4 tab rfl rfl ?_|refine q5 ?_|refine q6 ?_|refine q7 ?_|refine q8 ?_|refine q9 ?_|refine q10 ?_|refine q11 ?_|refine q12 rfl ?_|refine q13 ?_|refine q14 ?_|refine q15 ?_|refine q16 rfl ?_|refine q17 rfl ?_)
    refine TC.condP rfl (fun e1 => ?_) (fun e1 => ?_)
    · have hlt : a.num.toNat < a.kids.length := by omega
      have hx : a.kids[a.num.toNat]? = some a.kids[a.num.toNat] := by simp [hlt]
      have hmem := List.getElem_mem hlt
      have hkl := show_len a.kids[a.num.toNat]
      have hkk := bulk_kid hmem
      have hrest : restS ((a.kids.map Tree.show).drop a.num.toNat) = [32] ++ a.kids[a.num.toNat].show := by
        unfold restS
        rw [if_neg (by omega), if_pos (by omega), List.drop_eq_getElem_cons (by rw [List.length_map]; exact hlt), List.headD_cons, List.getElem_map]
      repeat (first|refine q1 ?_|refine q2 ?_|refine q3 ?_|refine q4 tab rfl rfl ?_|refine q5 ?_|refine q6 ?_|refine q7 ?_|refine q8 ?_|refine q9 ?_|refine q10 ?_|refine q11 ?_|refine q12 rfl ?_|refine q13 ?_|refine q14 ?_|refine q15 ?_|refine q16 rfl ?_|refine q17 rfl ?_)
      refine TO.step rfl (OT.concat rfl rfl rfl rfl rfl (by simp only [List.length_append, List.length_cons, List.length_nil]; omega) ?_)
      repeat (first | (first|refine q1 ?_|refine q2 ?_|refine q3 ?_|refine q4 tab rfl rfl ?_|refine q5 ?_|refine q6 ?_|refine q7 ?_|refine q8 ?_|refine q9 ?_|refine q10 ?_|refine q11 ?_|refine q12 rfl ?_|refine q13 ?_|refine q14 ?_|refine q15 ?_|refine q16 rfl ?_|refine q17 rfl ?_) | (first | refine qs rfl (ql tab 0 rfl rfl rfl rfl rfl rfl ?_) | refine qs rfl (qz tab 0 rfl rfl rfl rfl rfl rfl ?_) | refine qs rfl (ql tab 1 rfl rfl rfl rfl rfl rfl ?_) | refine qs rfl (qz tab 1 rfl rfl rfl rfl rfl rfl ?_) | refine qs rfl (ql tab 2 rfl rfl rfl rfl rfl rfl ?_) | refine qs rfl (qz tab 2 rfl rfl rfl rfl rfl rfl ?_) | refine qs rfl (ql tab 3 rfl rfl rfl rfl rfl rfl ?_) | refine qs rfl (qz tab 3 rfl rfl rfl rfl rfl rfl ?_) | refine qs rfl (ql tab 4 rfl rfl rfl rfl rfl rfl ?_) | refine qs rfl (qz tab 4 rfl rfl rfl rfl rfl rfl ?_) | refine qs rfl (ql tab 5 rfl rfl rfl rfl rfl rfl ?_) | refine qs rfl (qz tab 5 rfl rfl rfl rfl rfl rfl ?_)))
      refine TO.step rfl (OT.index tab rTree a.num.toNat h4 rfl rfl rfl rfl rfl (by simp only; omega) rfl hx ?_)
      rintro b' i' h' hrd hA
      (first | refine TO.step rfl (OT.loadA tab hA rfl rfl rfl rfl rfl ?_) | refine TO.step rfl (OT.loadA0 tab hA rfl rfl rfl rfl rfl ?_))
      repeat (first|refine q1 ?_|refine q2 ?_|refine q3 ?_|refine q4 tab rfl rfl ?_|refine q5 ?_|refine q6 ?_|refine q7 ?_|refine q8 ?_|refine q9 ?_|refine q10 ?_|refine q11 ?_|refine q12 rfl ?_|refine q13 ?_|refine q14 ?_|refine q15 ?_|refine q16 rfl ?_|refine q17 rfl ?_)
      refine TO.step rfl (OT.call rfl rfl rfl rfl rfl rfl goes44 ((ih _ hmem (hkf _ hmem) _ _ h' (rTree_iff.1 hrd) (Nat.le_trans (Nat.le_of_lt hkk) hB)).x ?_));
      rintro _ _ _ ⟨rfl, rfl, rfl⟩
      refine TO.step rfl (OT.concat rfl rfl rfl rfl rfl (by simp only [List.length_append, List.length_cons, List.length_nil]; omega) ?_)
      repeat (first|refine q1 ?_|refine q2 ?_|refine q3 ?_|refine q4 tab rfl rfl ?_|refine q5 ?_|refine q6 ?_|refine q7 ?_|refine q8 ?_|refine q9 ?_|refine q10 ?_|refine q11 ?_|refine q12 rfl ?_|refine q13 ?_|refine q14 ?_|refine q15 ?_|refine q16 rfl ?_|refine q17 rfl ?_)
      refine retQ_ret rfl (by repeat (first | exact List.Sublist.refl _ | exact List.sublist_append_left _ _ | refine List.Sublist.cons_cons _ ?_ | refine List.Sublist.cons _ ?_)) ⟨rfl, rfl, ?_⟩
      rw [hrest]
      simp only [List.append_assoc]
    · have hrest : restS ((a.kids.map Tree.show).drop a.num.toNat) = [32, 40] ++ joinS ((a.kids.map Tree.show).drop a.num.toNat) commaS ++ [41] := by
        unfold restS
        rw [if_neg (by omega), if_neg (by omega)]
      repeat (first|refine q1 ?_|refine q2 ?_|refine q3 ?_|refine q4 tab rfl rfl ?_|refine q5 ?_|refine q6 ?_|refine q7 ?_|refine q8 ?_|refine q9 ?_|refine q10 ?_|refine q11 ?_|refine q12 rfl ?_|refine q13 ?_|refine q14 ?_|refine q15 ?_|refine q16 rfl ?_|refine q17 rfl ?_)
      refine TO.step rfl (OT.concat rfl rfl rfl rfl rfl (by simp only [List.length_append, List.length_cons, List.length_nil]; omega) ?_)
      repeat (first | (first|refine q1 ?_|refine q2 ?_|refine q3 ?_|refine q4 tab rfl rfl ?_|refine q5 ?_|refine q6 ?_|refine q7 ?_|refine q8 ?_|refine q9 ?_|refine q10 ?_|refine q11 ?_|refine q12 rfl ?_|refine q13 ?_|refine q14 ?_|refine q15 ?_|refine q16 rfl ?_|refine q17 rfl ?_) | (first | refine qs rfl (ql tab 0 rfl rfl rfl rfl rfl rfl ?_) | refine qs rfl (qz tab 0 rfl rfl rfl rfl rfl rfl ?_) | refine qs rfl (ql tab 1 rfl rfl rfl rfl rfl rfl ?_) | refine qs rfl (qz tab 1 rfl rfl rfl rfl rfl rfl ?_) | refine qs rfl (ql tab 2 rfl rfl rfl rfl rfl rfl ?_) | refine qs rfl (qz tab 2 rfl rfl rfl rfl rfl rfl ?_) | refine qs rfl (ql tab 3 rfl rfl rfl rfl rfl rfl ?_) | refine qs rfl (qz tab 3 rfl rfl rfl rfl rfl rfl ?_) | refine qs rfl (ql tab 4 rfl rfl rfl rfl rfl rfl ?_) | refine qs rfl (qz tab 4 rfl rfl rfl rfl rfl rfl ?_) | refine qs rfl (ql tab 5 rfl rfl rfl rfl rfl rfl ?_) | refine qs rfl (qz tab 5 rfl rfl rfl rfl rfl rfl ?_)))
      refine TO.step rfl (OT.cut tab rTree a.num.toNat s.len h4 rfl rfl rfl rfl rfl rfl rfl (.inr (by rw [← hnum])) (.inl ⟨rfl, rfl⟩) (by omega) (by omega) (fun s2 hs2 => ?_))
      rw [List.take_of_length_le (by omega)] at hs2
      repeat (first|refine q1 ?_|refine q2 ?_|refine q3 ?_|refine q4 tab rfl rfl ?_|refine q5 ?_|refine q6 ?_|refine q7 ?_|refine q8 ?_|refine q9 ?_|refine q10 ?_|refine q11 ?_|refine q12 rfl ?_|refine q13 ?_|refine q14 ?_|refine q15 ?_|refine q16 rfl ?_|refine q17 rfl ?_)
      refine TO.step rfl (OT.call rfl rfl rfl rfl rfl rfl goes81 ((row_ref _ _ s2 _ hs2 (by rw [md, List.length_drop]; omega) (fun k hk m L h' hr' => ih k (List.mem_of_mem_drop hk) (hkf _ (List.mem_of_mem_drop hk)) m L h' hr' (Nat.le_trans (Nat.le_of_lt (bulk_kid (List.mem_of_mem_drop hk))) hB))).x ?_));
      rintro _ _ _ ⟨rfl, rfl, rfl⟩
      rw [md]
      refine TO.step rfl (OT.concat rfl rfl rfl rfl rfl (by simp only [List.length_append, List.length_cons, List.length_nil]; omega) ?_)
      refine TO.step rfl (OT.concat rfl rfl rfl rfl rfl (by simp only [List.length_append, List.length_cons, List.length_nil]; omega) ?_)
      repeat (first|refine q1 ?_|refine q2 ?_|refine q3 ?_|refine q4 tab rfl rfl ?_|refine q5 ?_|refine q6 ?_|refine q7 ?_|refine q8 ?_|refine q9 ?_|refine q10 ?_|refine q11 ?_|refine q12 rfl ?_|refine q13 ?_|refine q14 ?_|refine q15 ?_|refine q16 rfl ?_|refine q17 rfl ?_)
      refine retQ_ret rfl (by repeat (first | exact List.Sublist.refl _ | exact List.sublist_append_left _ _ | refine List.Sublist.cons_cons _ ?_ | refine List.Sublist.cons _ ?_)) ⟨rfl, rfl, ?_⟩
      rw [hrest]
      simp only [List.append_assoc]
set_option maxHeartbeats 6400000 in
theorem show_law (a : Tree) : ∀ (hf : a.formed = true) (m : Mem) (L : List Item) (h : HTree) (hr : TreeRep m h a) (hB : a.bulk ≤ 1048576), TCall Try.prog 43 ⟨[treeV h]⟩ m L (Ret (strV a.show) m L) := by
  induction a using Tree.ind with
  | h a ih =>
  intro hf m L h hr hB
  obtain ⟨h1, h2, h3, h4⟩ := hr
  have hl := h4.len
  have hsm := h4.small rfl
  obtain ⟨hkf, hkinds⟩ := formed_kinds hf
  have hsl := showL_len a.kids
  have hkb : bulkL a.kids < a.bulk := by obtain ⟨_, _, _, ks⟩ := a; simp only [Tree.bulk, Tree.kids]; omega
  rw [showL_eq] at hsl
  obtain ⟨q, n, u, s⟩ := h
  simp only at h1 h2 h3 h4 hl
  rw [show_eq]
  refine TCall.forget ?_
  unfold TCall
  refine TCallX.enter Try.func43 rfl 81 rfl ?_
  rcases hkinds with hA | ⟨hC, hlen⟩ | ⟨hD, hn0, hn1⟩
  · rcases hA with hA | hA | hA | hA | hA
    · obtain rfl : q = 1 := h1.trans hA
      rw [if_pos hA]
      repeat (first|refine q1 ?_|refine q2 ?_|refine q3 ?_|refine q4 tab rfl rfl ?_|refine q5 ?_|refine q6 ?_|refine q7 ?_|refine q8 ?_|refine q9 ?_|refine q10 ?_|refine q11 ?_|refine q12 rfl ?_|refine q13 ?_|refine q14 ?_|refine q15 ?_|refine q16 rfl ?_|refine q17 rfl ?_)
      refine TO.step rfl (OT.box rfl rfl rfl rfl rfl (fun b => ?_))
      repeat (first | (first|refine q1 ?_|refine q2 ?_|refine q3 ?_|refine q4 tab rfl rfl ?_|refine q5 ?_|refine q6 ?_|refine q7 ?_|refine q8 ?_|refine q9 ?_|refine q10 ?_|refine q11 ?_|refine q12 rfl ?_|refine q13 ?_|refine q14 ?_|refine q15 ?_|refine q16 rfl ?_|refine q17 rfl ?_) | (first | refine qs rfl (ql tab 0 rfl rfl rfl rfl rfl rfl ?_) | refine qs rfl (qz tab 0 rfl rfl rfl rfl rfl rfl ?_) | refine qs rfl (ql tab 1 rfl rfl rfl rfl rfl rfl ?_) | refine qs rfl (qz tab 1 rfl rfl rfl rfl rfl rfl ?_) | refine qs rfl (ql tab 2 rfl rfl rfl rfl rfl rfl ?_) | refine qs rfl (qz tab 2 rfl rfl rfl rfl rfl rfl ?_) | refine qs rfl (ql tab 3 rfl rfl rfl rfl rfl rfl ?_) | refine qs rfl (qz tab 3 rfl rfl rfl rfl rfl rfl ?_) | refine qs rfl (ql tab 4 rfl rfl rfl rfl rfl rfl ?_) | refine qs rfl (qz tab 4 rfl rfl rfl rfl rfl rfl ?_) | refine qs rfl (ql tab 5 rfl rfl rfl rfl rfl rfl ?_) | refine qs rfl (qz tab 5 rfl rfl rfl rfl rfl rfl ?_)))
      exact retQ_ret rfl (by repeat (first | exact List.Sublist.refl _ | exact List.sublist_append_left _ _ | refine List.Sublist.cons_cons _ ?_ | refine List.Sublist.cons _ ?_)) ⟨Mem.le_refl _, rfl, rfl⟩
    · obtain rfl : q = 2 := h1.trans hA
      rw [if_neg (by omega), if_pos hA]
      repeat (first|refine q1 ?_|refine q2 ?_|refine q3 ?_|refine q4 tab rfl rfl ?_|refine q5 ?_|refine q6 ?_|refine q7 ?_|refine q8 ?_|refine q9 ?_|refine q10 ?_|refine q11 ?_|refine q12 rfl ?_|refine q13 ?_|refine q14 ?_|refine q15 ?_|refine q16 rfl ?_|refine q17 rfl ?_)
      refine TO.step rfl (OT.box rfl rfl rfl rfl rfl (fun b => ?_))
      repeat (first | (first|refine q1 ?_|refine q2 ?_|refine q3 ?_|refine q4 tab rfl rfl ?_|refine q5 ?_|refine q6 ?_|refine q7 ?_|refine q8 ?_|refine q9 ?_|refine q10 ?_|refine q11 ?_|refine q12 rfl ?_|refine q13 ?_|refine q14 ?_|refine q15 ?_|refine q16 rfl ?_|refine q17 rfl ?_) | (first | refine qs rfl (ql tab 0 rfl rfl rfl rfl rfl rfl ?_) | refine qs rfl (qz tab 0 rfl rfl rfl rfl rfl rfl ?_) | refine qs rfl (ql tab 1 rfl rfl rfl rfl rfl rfl ?_) | refine qs rfl (qz tab 1 rfl rfl rfl rfl rfl rfl ?_) | refine qs rfl (ql tab 2 rfl rfl rfl rfl rfl rfl ?_) | refine qs rfl (qz tab 2 rfl rfl rfl rfl rfl rfl ?_) | refine qs rfl (ql tab 3 rfl rfl rfl rfl rfl rfl ?_) | refine qs rfl (qz tab 3 rfl rfl rfl rfl rfl rfl ?_) | refine qs rfl (ql tab 4 rfl rfl rfl rfl rfl rfl ?_) | refine qs rfl (qz tab 4 rfl rfl rfl rfl rfl rfl ?_) | refine qs rfl (ql tab 5 rfl rfl rfl rfl rfl rfl ?_) | refine qs rfl (qz tab 5 rfl rfl rfl rfl rfl rfl ?_)))
      exact retQ_ret rfl (by repeat (first | exact List.Sublist.refl _ | exact List.sublist_append_left _ _ | refine List.Sublist.cons_cons _ ?_ | refine List.Sublist.cons _ ?_)) ⟨Mem.le_refl _, rfl, rfl⟩
    · obtain rfl : q = 3 := h1.trans hA
      rw [if_neg (by omega), if_neg (by omega), if_pos hA]
      repeat (first|refine q1 ?_|refine q2 ?_|refine q3 ?_|refine q4 tab rfl rfl ?_|refine q5 ?_|refine q6 ?_|refine q7 ?_|refine q8 ?_|refine q9 ?_|refine q10 ?_|refine q11 ?_|refine q12 rfl ?_|refine q13 ?_|refine q14 ?_|refine q15 ?_|refine q16 rfl ?_|refine q17 rfl ?_)
      refine TO.step rfl (OT.box rfl rfl rfl rfl rfl (fun b => ?_))
      repeat (first | (first|refine q1 ?_|refine q2 ?_|refine q3 ?_|refine q4 tab rfl rfl ?_|refine q5 ?_|refine q6 ?_|refine q7 ?_|refine q8 ?_|refine q9 ?_|refine q10 ?_|refine q11 ?_|refine q12 rfl ?_|refine q13 ?_|refine q14 ?_|refine q15 ?_|refine q16 rfl ?_|refine q17 rfl ?_) | (first | refine qs rfl (ql tab 0 rfl rfl rfl rfl rfl rfl ?_) | refine qs rfl (qz tab 0 rfl rfl rfl rfl rfl rfl ?_) | refine qs rfl (ql tab 1 rfl rfl rfl rfl rfl rfl ?_) | refine qs rfl (qz tab 1 rfl rfl rfl rfl rfl rfl ?_) | refine qs rfl (ql tab 2 rfl rfl rfl rfl rfl rfl ?_) | refine qs rfl (qz tab 2 rfl rfl rfl rfl rfl rfl ?_) | refine qs rfl (ql tab 3 rfl rfl rfl rfl rfl rfl ?_) | refine qs rfl (qz tab 3 rfl rfl rfl rfl rfl rfl ?_) | refine qs rfl (ql tab 4 rfl rfl rfl rfl rfl rfl ?_) | refine qs rfl (qz tab 4 rfl rfl rfl rfl rfl rfl ?_) | refine qs rfl (ql tab 5 rfl rfl rfl rfl rfl rfl ?_) | refine qs rfl (qz tab 5 rfl rfl rfl rfl rfl rfl ?_)))
      exact retQ_ret rfl (by repeat (first | exact List.Sublist.refl _ | exact List.sublist_append_left _ _ | refine List.Sublist.cons_cons _ ?_ | refine List.Sublist.cons _ ?_)) ⟨Mem.le_refl _, rfl, rfl⟩
    · obtain rfl : q = 8 := h1.trans hA
      rw [if_neg (by omega), if_neg (by omega), if_neg (by omega), if_pos hA]
      repeat (first|refine q1 ?_|refine q2 ?_|refine q3 ?_|refine q4 tab rfl rfl ?_|refine q5 ?_|refine q6 ?_|refine q7 ?_|refine q8 ?_|refine q9 ?_|refine q10 ?_|refine q11 ?_|refine q12 rfl ?_|refine q13 ?_|refine q14 ?_|refine q15 ?_|refine q16 rfl ?_|refine q17 rfl ?_)
      refine TO.step rfl (OT.box rfl rfl rfl rfl rfl (fun b => ?_))
      repeat (first | (first|refine q1 ?_|refine q2 ?_|refine q3 ?_|refine q4 tab rfl rfl ?_|refine q5 ?_|refine q6 ?_|refine q7 ?_|refine q8 ?_|refine q9 ?_|refine q10 ?_|refine q11 ?_|refine q12 rfl ?_|refine q13 ?_|refine q14 ?_|refine q15 ?_|refine q16 rfl ?_|refine q17 rfl ?_) | (first | refine qs rfl (ql tab 0 rfl rfl rfl rfl rfl rfl ?_) | refine qs rfl (qz tab 0 rfl rfl rfl rfl rfl rfl ?_) | refine qs rfl (ql tab 1 rfl rfl rfl rfl rfl rfl ?_) | refine qs rfl (qz tab 1 rfl rfl rfl rfl rfl rfl ?_) | refine qs rfl (ql tab 2 rfl rfl rfl rfl rfl rfl ?_) | refine qs rfl (qz tab 2 rfl rfl rfl rfl rfl rfl ?_) | refine qs rfl (ql tab 3 rfl rfl rfl rfl rfl rfl ?_) | refine qs rfl (qz tab 3 rfl rfl rfl rfl rfl rfl ?_) | refine qs rfl (ql tab 4 rfl rfl rfl rfl rfl rfl ?_) | refine qs rfl (qz tab 4 rfl rfl rfl rfl rfl rfl ?_) | refine qs rfl (ql tab 5 rfl rfl rfl rfl rfl rfl ?_) | refine qs rfl (qz tab 5 rfl rfl rfl rfl rfl rfl ?_)))
      exact retQ_ret rfl (by repeat (first | exact List.Sublist.refl _ | exact List.sublist_append_left _ _ | refine List.Sublist.cons_cons _ ?_ | refine List.Sublist.cons _ ?_)) ⟨Mem.le_refl _, rfl, rfl⟩
    · obtain rfl : q = 4 := h1.trans hA
      rw [if_neg (by omega), if_neg (by omega), if_neg (by omega), if_neg (by omega), if_pos hA, ← h2]
      repeat (first|refine q1 ?_|refine q2 ?_|refine q3 ?_|refine q4 tab rfl rfl ?_|refine q5 ?_|refine q6 ?_|refine q7 ?_|refine q8 ?_|refine q9 ?_|refine q10 ?_|refine q11 ?_|refine q12 rfl ?_|refine q13 ?_|refine q14 ?_|refine q15 ?_|refine q16 rfl ?_|refine q17 rfl ?_)
      refine TO.step rfl (OT.box rfl rfl rfl rfl rfl (fun b => ?_))
      repeat (first | (first|refine q1 ?_|refine q2 ?_|refine q3 ?_|refine q4 tab rfl rfl ?_|refine q5 ?_|refine q6 ?_|refine q7 ?_|refine q8 ?_|refine q9 ?_|refine q10 ?_|refine q11 ?_|refine q12 rfl ?_|refine q13 ?_|refine q14 ?_|refine q15 ?_|refine q16 rfl ?_|refine q17 rfl ?_) | (first | refine qs rfl (ql tab 0 rfl rfl rfl rfl rfl rfl ?_) | refine qs rfl (qz tab 0 rfl rfl rfl rfl rfl rfl ?_) | refine qs rfl (ql tab 1 rfl rfl rfl rfl rfl rfl ?_) | refine qs rfl (qz tab 1 rfl rfl rfl rfl rfl rfl ?_) | refine qs rfl (ql tab 2 rfl rfl rfl rfl rfl rfl ?_) | refine qs rfl (qz tab 2 rfl rfl rfl rfl rfl rfl ?_) | refine qs rfl (ql tab 3 rfl rfl rfl rfl rfl rfl ?_) | refine qs rfl (qz tab 3 rfl rfl rfl rfl rfl rfl ?_) | refine qs rfl (ql tab 4 rfl rfl rfl rfl rfl rfl ?_) | refine qs rfl (qz tab 4 rfl rfl rfl rfl rfl rfl ?_) | refine qs rfl (ql tab 5 rfl rfl rfl rfl rfl rfl ?_) | refine qs rfl (qz tab 5 rfl rfl rfl rfl rfl rfl ?_)))
      exact retQ_ret rfl (by repeat (first | exact List.Sublist.refl _ | exact List.sublist_append_left _ _ | refine List.Sublist.cons_cons _ ?_ | refine List.Sublist.cons _ ?_)) ⟨Mem.le_refl _, rfl, rfl⟩
  · have hlt : 0 < a.kids.length := by omega
    have hx : a.kids[0]? = some a.kids[0] := by simp [hlt]
    have hmem := List.getElem_mem hlt
    have hhd : (a.kids.map Tree.show).headD [] = a.kids[0].show := headD_show hlt
    have hkl := show_len a.kids[0]
    have hkk := bulk_kid hmem
    rw [hhd, if_neg (by omega), if_neg (by omega), if_neg (by omega), if_neg (by omega), if_neg (by omega)]
    rcases hC with hC | hC
    · obtain rfl : q = 5 := h1.trans hC
      rw [if_pos hC]
      repeat (first|refine q1 ?_|refine q2 ?_|refine q3 ?_|refine q4 tab rfl rfl ?_|refine q5 ?_|refine q6 ?_|refine q7 ?_|refine q8 ?_|refine q9 ?_|refine q10 ?_|refine q11 ?_|refine q12 rfl ?_|refine q13 ?_|refine q14 ?_|refine q15 ?_|refine q16 rfl ?_|refine q17 rfl ?_)
      refine TO.step rfl (OT.box rfl rfl rfl rfl rfl (fun b => ?_))
      repeat (first | (first|refine q1 ?_|refine q2 ?_|refine q3 ?_|refine q4 tab rfl rfl ?_|refine q5 ?_|refine q6 ?_|refine q7 ?_|refine q8 ?_|refine q9 ?_|refine q10 ?_|refine q11 ?_|refine q12 rfl ?_|refine q13 ?_|refine q14 ?_|refine q15 ?_|refine q16 rfl ?_|refine q17 rfl ?_) | (first | refine qs rfl (ql tab 0 rfl rfl rfl rfl rfl rfl ?_) | refine qs rfl (qz tab 0 rfl rfl rfl rfl rfl rfl ?_) | refine qs rfl (ql tab 1 rfl rfl rfl rfl rfl rfl ?_) | refine qs rfl (qz tab 1 rfl rfl rfl rfl rfl rfl ?_) | refine qs rfl (ql tab 2 rfl rfl rfl rfl rfl rfl ?_) | refine qs rfl (qz tab 2 rfl rfl rfl rfl rfl rfl ?_) | refine qs rfl (ql tab 3 rfl rfl rfl rfl rfl rfl ?_) | refine qs rfl (qz tab 3 rfl rfl rfl rfl rfl rfl ?_) | refine qs rfl (ql tab 4 rfl rfl rfl rfl rfl rfl ?_) | refine qs rfl (qz tab 4 rfl rfl rfl rfl rfl rfl ?_) | refine qs rfl (ql tab 5 rfl rfl rfl rfl rfl rfl ?_) | refine qs rfl (qz tab 5 rfl rfl rfl rfl rfl rfl ?_)))
      refine TO.step rfl (OT.index tab rTree 0 h4 rfl rfl rfl rfl rfl (by first | rfl | omega) rfl hx ?_)
      rintro b' i' h' hrd hA
      (first | refine TO.step rfl (OT.loadA tab hA rfl rfl rfl rfl rfl ?_) | refine TO.step rfl (OT.loadA0 tab hA rfl rfl rfl rfl rfl ?_))
      repeat (first|refine q1 ?_|refine q2 ?_|refine q3 ?_|refine q4 tab rfl rfl ?_|refine q5 ?_|refine q6 ?_|refine q7 ?_|refine q8 ?_|refine q9 ?_|refine q10 ?_|refine q11 ?_|refine q12 rfl ?_|refine q13 ?_|refine q14 ?_|refine q15 ?_|refine q16 rfl ?_|refine q17 rfl ?_)
      refine TO.step rfl (OT.call rfl rfl rfl rfl rfl rfl goes43 ((ih _ hmem (hkf _ hmem) _ _ h' (rTree_iff.1 hrd) (Nat.le_trans (Nat.le_of_lt hkk) hB)).x ?_));
      rintro _ _ _ ⟨rfl, rfl, rfl⟩
      refine TO.step rfl (OT.concat rfl rfl rfl rfl rfl (by simp only [List.length_cons, List.length_nil]; omega) ?_)
      repeat (first|refine q1 ?_|refine q2 ?_|refine q3 ?_|refine q4 tab rfl rfl ?_|refine q5 ?_|refine q6 ?_|refine q7 ?_|refine q8 ?_|refine q9 ?_|refine q10 ?_|refine q11 ?_|refine q12 rfl ?_|refine q13 ?_|refine q14 ?_|refine q15 ?_|refine q16 rfl ?_|refine q17 rfl ?_)
      exact retQ_ret rfl (by repeat (first | exact List.Sublist.refl _ | exact List.sublist_append_left _ _ | refine List.Sublist.cons_cons _ ?_ | refine List.Sublist.cons _ ?_)) ⟨Mem.le_refl _, rfl, rfl⟩
    · obtain rfl : q = 6 := h1.trans hC
      rw [if_neg (by omega), if_pos hC]
      repeat (first|refine q1 ?_|refine q2 ?_|refine q3 ?_|refine q4 tab rfl rfl ?_|refine q5 ?_|refine q6 ?_|refine q7 ?_|refine q8 ?_|refine q9 ?_|refine q10 ?_|refine q11 ?_|refine q12 rfl ?_|refine q13 ?_|refine q14 ?_|refine q15 ?_|refine q16 rfl ?_|refine q17 rfl ?_)
      refine TO.step rfl (OT.box rfl rfl rfl rfl rfl (fun b => ?_))
      repeat (first | (first|refine q1 ?_|refine q2 ?_|refine q3 ?_|refine q4 tab rfl rfl ?_|refine q5 ?_|refine q6 ?_|refine q7 ?_|refine q8 ?_|refine q9 ?_|refine q10 ?_|refine q11 ?_|refine q12 rfl ?_|refine q13 ?_|refine q14 ?_|refine q15 ?_|refine q16 rfl ?_|refine q17 rfl ?_) | (first | refine qs rfl (ql tab 0 rfl rfl rfl rfl rfl rfl ?_) | refine qs rfl (qz tab 0 rfl rfl rfl rfl rfl rfl ?_) | refine qs rfl (ql tab 1 rfl rfl rfl rfl rfl rfl ?_) | refine qs rfl (qz tab 1 rfl rfl rfl rfl rfl rfl ?_) | refine qs rfl (ql tab 2 rfl rfl rfl rfl rfl rfl ?_) | refine qs rfl (qz tab 2 rfl rfl rfl rfl rfl rfl ?_) | refine qs rfl (ql tab 3 rfl rfl rfl rfl rfl rfl ?_) | refine qs rfl (qz tab 3 rfl rfl rfl rfl rfl rfl ?_) | refine qs rfl (ql tab 4 rfl rfl rfl rfl rfl rfl ?_) | refine qs rfl (qz tab 4 rfl rfl rfl rfl rfl rfl ?_) | refine qs rfl (ql tab 5 rfl rfl rfl rfl rfl rfl ?_) | refine qs rfl (qz tab 5 rfl rfl rfl rfl rfl rfl ?_)))
      refine TO.step rfl (OT.index tab rTree 0 h4 rfl rfl rfl rfl rfl (by first | rfl | omega) rfl hx ?_)
      rintro b' i' h' hrd hA
      (first | refine TO.step rfl (OT.loadA tab hA rfl rfl rfl rfl rfl ?_) | refine TO.step rfl (OT.loadA0 tab hA rfl rfl rfl rfl rfl ?_))
      repeat (first|refine q1 ?_|refine q2 ?_|refine q3 ?_|refine q4 tab rfl rfl ?_|refine q5 ?_|refine q6 ?_|refine q7 ?_|refine q8 ?_|refine q9 ?_|refine q10 ?_|refine q11 ?_|refine q12 rfl ?_|refine q13 ?_|refine q14 ?_|refine q15 ?_|refine q16 rfl ?_|refine q17 rfl ?_)
      refine TO.step rfl (OT.call rfl rfl rfl rfl rfl rfl goes43 ((ih _ hmem (hkf _ hmem) _ _ h' (rTree_iff.1 hrd) (Nat.le_trans (Nat.le_of_lt hkk) hB)).x ?_));
      rintro _ _ _ ⟨rfl, rfl, rfl⟩
      refine TO.step rfl (OT.concat rfl rfl rfl rfl rfl (by simp only [List.length_cons, List.length_nil]; omega) ?_)
      repeat (first|refine q1 ?_|refine q2 ?_|refine q3 ?_|refine q4 tab rfl rfl ?_|refine q5 ?_|refine q6 ?_|refine q7 ?_|refine q8 ?_|refine q9 ?_|refine q10 ?_|refine q11 ?_|refine q12 rfl ?_|refine q13 ?_|refine q14 ?_|refine q15 ?_|refine q16 rfl ?_|refine q17 rfl ?_)
      exact retQ_ret rfl (by repeat (first | exact List.Sublist.refl _ | exact List.sublist_append_left _ _ | refine List.Sublist.cons_cons _ ?_ | refine List.Sublist.cons _ ?_)) ⟨Mem.le_refl _, rfl, rfl⟩
  · obtain rfl : q = 7 := h1.trans hD
    rw [if_neg (by omega), if_neg (by omega), if_neg (by omega), if_neg (by omega), if_neg (by omega), if_neg (by omega), if_neg (by omega)]
    have hnum : u = ((a.num.toNat : Nat) : Int) := by omega
    have hnl : a.num.toNat ≤ a.kids.length := by omega
    obtain ⟨mt, md⟩ := map_take_drop a.kids a.num.toNat
    have htd := lens_append ((a.kids.map Tree.show).take a.num.toNat) ((a.kids.map Tree.show).drop a.num.toNat)
    rw [List.take_append_drop] at htd
    have hj1 := joinS_le ((a.kids.map Tree.show).take a.num.toNat)
    have hj2 := joinS_le ((a.kids.map Tree.show).drop a.num.toNat)
    rw [List.length_take, List.length_map] at hj1
    rw [List.length_drop, List.length_map] at hj2
    repeat (first|refine q1 ?_|refine q2 ?_|refine q3 ?_|refine q4 tab rfl rfl ?_|refine q5 ?_|refine q6 ?_|refine q7 ?_|refine q8 ?_|refine q9 ?_|refine q10 ?_|refine q11 ?_|refine q12 rfl ?_|refine q13 ?_|refine q14 ?_|refine q15 ?_|refine q16 rfl ?_|refine q17 rfl ?_)
    refine TO.step rfl (OT.box rfl rfl rfl rfl rfl (fun b => ?_))
    repeat (first | (first|refine q1 ?_|refine q2 ?_|refine q3 ?_|refine q4 tab rfl rfl ?_|refine q5 ?_|refine q6 ?_|refine q7 ?_|refine q8 ?_|refine q9 ?_|refine q10 ?_|refine q11 ?_|refine q12 rfl ?_|refine q13 ?_|refine q14 ?_|refine q15 ?_|refine q16 rfl ?_|refine q17 rfl ?_) | (first | refine qs rfl (ql tab 0 rfl rfl rfl rfl rfl rfl ?_) | refine qs rfl (qz tab 0 rfl rfl rfl rfl rfl rfl ?_) | refine qs rfl (ql tab 1 rfl rfl rfl rfl rfl rfl ?_) | refine qs rfl (qz tab 1 rfl rfl rfl rfl rfl rfl ?_) | refine qs rfl (ql tab 2 rfl rfl rfl rfl rfl rfl ?_) | refine qs rfl (qz tab 2 rfl rfl rfl rfl rfl rfl ?_) | refine qs rfl (ql tab 3 rfl rfl rfl rfl rfl rfl ?_) | refine qs rfl (qz tab 3 rfl rfl rfl rfl rfl rfl ?_) | refine qs rfl (ql tab 4 rfl rfl rfl rfl rfl rfl ?_) | refine qs rfl (qz tab 4 rfl rfl rfl rfl rfl rfl ?_) | refine qs rfl (ql tab 5 rfl rfl rfl rfl rfl rfl ?_) | refine qs rfl (qz tab 5 rfl rfl rfl rfl rfl rfl ?_)))
    refine TC.grow0 (size := 1) ?_
    refine TC.loopK (ι := Grow) [1, 39, 40] rfl (fun g => [(3, g.s.v), (41, .int .i64 (g.k : Int))]) (fun g => g.m) (fun g => tok g.s 1 :: .cells b 0 (treeC ⟨7, n, u, s⟩) :: L) (fun g => g.k ≤ a.kids.length ∧ SlRep rStr g.m g.s ((a.kids.map Tree.show).take g.k) ∧ Own g.s ∧ m ≤ g.m) (fun g => a.kids.length - g.k) ⟨0, ⟨none, 0, 0⟩, m⟩ (by repeat (first | exact trivial | refine And.intro rfl ?_)) rfl (by repeat (first | exact List.Sublist.refl _ | exact List.sublist_append_left _ _ | refine List.Sublist.cons_cons _ ?_ | refine List.Sublist.cons _ ?_)) ⟨Nat.zero_le _, SlRep.nil _ _, Own.nil, Mem.le_refl _⟩ ?_
    rintro ⟨k, t, m1⟩ ⟨hk, ht, hown, hm1⟩
    simp only at hk ht hown hm1 ⊢
    have h41 := h4.mono hm1
    repeat (first|refine q1 ?_|refine q2 ?_|refine q3 ?_|refine q4 tab rfl rfl ?_|refine q5 ?_|refine q6 ?_|refine q7 ?_|refine q8 ?_|refine q9 ?_|refine q10 ?_|refine q11 ?_|refine q12 rfl ?_|refine q13 ?_|refine q14 ?_|refine q15 ?_|refine q16 rfl ?_|refine q17 rfl ?_)
    refine TC.condP rfl (fun hlt' => ?_) (fun hlt' => ?_)
    · have hlt : k < a.kids.length := by omega
      have hx : a.kids[k]? = some a.kids[k] := by simp [hlt]
      have hmem := List.getElem_mem hlt
      repeat (first|refine q1 ?_|refine q2 ?_|refine q3 ?_|refine q4 tab rfl rfl ?_|refine q5 ?_|refine q6 ?_|refine q7 ?_|refine q8 ?_|refine q9 ?_|refine q10 ?_|refine q11 ?_|refine q12 rfl ?_|refine q13 ?_|refine q14 ?_|refine q15 ?_|refine q16 rfl ?_|refine q17 rfl ?_)
      refine TO.step rfl (OT.index tab rTree k h41 rfl rfl rfl rfl rfl (by first | rfl | omega) rfl hx ?_)
      rintro b' i' h' hrd hA
      (first | refine TO.step rfl (OT.loadA tab hA rfl rfl rfl rfl rfl ?_) | refine TO.step rfl (OT.loadA0 tab hA rfl rfl rfl rfl rfl ?_))
      repeat (first|refine q1 ?_|refine q2 ?_|refine q3 ?_|refine q4 tab rfl rfl ?_|refine q5 ?_|refine q6 ?_|refine q7 ?_|refine q8 ?_|refine q9 ?_|refine q10 ?_|refine q11 ?_|refine q12 rfl ?_|refine q13 ?_|refine q14 ?_|refine q15 ?_|refine q16 rfl ?_|refine q17 rfl ?_)
      refine TO.step rfl (OT.alloc tab rfl rfl rfl rfl (fun b5 => ?_))
      repeat (first|refine q1 ?_|refine q2 ?_|refine q3 ?_|refine q4 tab rfl rfl ?_|refine q5 ?_|refine q6 ?_|refine q7 ?_|refine q8 ?_|refine q9 ?_|refine q10 ?_|refine q11 ?_|refine q12 rfl ?_|refine q13 ?_|refine q14 ?_|refine q15 ?_|refine q16 rfl ?_|refine q17 rfl ?_)
      (first | refine TO.step rfl (OT.storeL tab 0 rfl rfl rfl rfl rfl rfl rfl rfl ?_) | refine TO.step rfl (OT.storeL0 tab 0 rfl rfl rfl rfl rfl rfl rfl rfl ?_) | refine TO.step rfl (OT.storeL tab 1 rfl rfl rfl rfl rfl rfl rfl rfl ?_) | refine TO.step rfl (OT.storeL0 tab 1 rfl rfl rfl rfl rfl rfl rfl rfl ?_) | refine TO.step rfl (OT.storeL tab 2 rfl rfl rfl rfl rfl rfl rfl rfl ?_) | refine TO.step rfl (OT.storeL0 tab 2 rfl rfl rfl rfl rfl rfl rfl rfl ?_) | refine TO.step rfl (OT.storeL tab 3 rfl rfl rfl rfl rfl rfl rfl rfl ?_) | refine TO.step rfl (OT.storeL0 tab 3 rfl rfl rfl rfl rfl rfl rfl rfl ?_) | refine TO.step rfl (OT.storeL tab 4 rfl rfl rfl rfl rfl rfl rfl rfl ?_) | refine TO.step rfl (OT.storeL0 tab 4 rfl rfl rfl rfl rfl rfl rfl rfl ?_) | refine TO.step rfl (OT.storeL tab 5 rfl rfl rfl rfl rfl rfl rfl rfl ?_) | refine TO.step rfl (OT.storeL0 tab 5 rfl rfl rfl rfl rfl rfl rfl rfl ?_))
      repeat (first | (first|refine q1 ?_|refine q2 ?_|refine q3 ?_|refine q4 tab rfl rfl ?_|refine q5 ?_|refine q6 ?_|refine q7 ?_|refine q8 ?_|refine q9 ?_|refine q10 ?_|refine q11 ?_|refine q12 rfl ?_|refine q13 ?_|refine q14 ?_|refine q15 ?_|refine q16 rfl ?_|refine q17 rfl ?_) | (first | refine qs rfl (ql tab 0 rfl rfl rfl rfl rfl rfl ?_) | refine qs rfl (qz tab 0 rfl rfl rfl rfl rfl rfl ?_) | refine qs rfl (ql tab 1 rfl rfl rfl rfl rfl rfl ?_) | refine qs rfl (qz tab 1 rfl rfl rfl rfl rfl rfl ?_) | refine qs rfl (ql tab 2 rfl rfl rfl rfl rfl rfl ?_) | refine qs rfl (qz tab 2 rfl rfl rfl rfl rfl rfl ?_) | refine qs rfl (ql tab 3 rfl rfl rfl rfl rfl rfl ?_) | refine qs rfl (qz tab 3 rfl rfl rfl rfl rfl rfl ?_) | refine qs rfl (ql tab 4 rfl rfl rfl rfl rfl rfl ?_) | refine qs rfl (qz tab 4 rfl rfl rfl rfl rfl rfl ?_) | refine qs rfl (ql tab 5 rfl rfl rfl rfl rfl rfl ?_) | refine qs rfl (qz tab 5 rfl rfl rfl rfl rfl rfl ?_)))
      refine TO.step rfl (OT.call rfl rfl rfl rfl rfl rfl goes43 ((ih _ hmem (hkf _ hmem) _ _ h' (rTree_iff.1 hrd) (Nat.le_trans (Nat.le_of_lt (bulk_kid hmem)) hB)).x ?_));
      rintro _ _ _ ⟨rfl, rfl, rfl⟩
      refine TO.step rfl (OT.lit tab rfl rfl rfl rfl (fun bl => ?_))
      refine TO.step rfl (OT.append1 tab rStr 1 (hd' := a.kids[k].show) (a := a.kids[k].show) ht hown rfl rfl rfl rfl rfl rfl rfl rfl (by simp only [rStr, List.length_take, List.length_map]; omega) (fun t' m3 hm3 ht' hown' => ?_))
      repeat (first|refine q1 ?_|refine q2 ?_|refine q3 ?_|refine q4 tab rfl rfl ?_|refine q5 ?_|refine q6 ?_|refine q7 ?_|refine q8 ?_|refine q9 ?_|refine q10 ?_|refine q11 ?_|refine q12 rfl ?_|refine q13 ?_|refine q14 ?_|refine q15 ?_|refine q16 rfl ?_|refine q17 rfl ?_)
      refine TO.step rfl (OT.arith (r' := ((k + 1 : Nat) : Int)) rfl rfl rfl rfl rfl rfl rfl (by omega) ?_)
      repeat (first|refine q1 ?_|refine q2 ?_|refine q3 ?_|refine q4 tab rfl rfl ?_|refine q5 ?_|refine q6 ?_|refine q7 ?_|refine q8 ?_|refine q9 ?_|refine q10 ?_|refine q11 ?_|refine q12 rfl ?_|refine q13 ?_|refine q14 ?_|refine q15 ?_|refine q16 rfl ?_|refine q17 rfl ?_)
      refine ⟨⟨k + 1, t', m3⟩, (by repeat (first | exact trivial | refine And.intro rfl ?_)), (by repeat (first | exact trivial | refine And.intro rfl ?_)), rfl, rfl, (by repeat (first | exact List.Sublist.refl _ | exact List.sublist_append_left _ _ | refine List.Sublist.cons_cons _ ?_ | refine List.Sublist.cons _ ?_)), ⟨by simp only; omega, ?_, hown', Mem.le_trans hm1 hm3⟩, by simp only; omega⟩
      simp only
      rw [List.take_succ_eq_append_getElem (by rw [List.length_map]; exact hlt), List.getElem_map]
      exact ht'
    rw [List.take_of_length_le (by rw [List.length_map]; omega)] at ht
    have htl := ht.len
    rw [List.length_map] at htl
    repeat (first | (first|refine q1 ?_|refine q2 ?_|refine q3 ?_|refine q4 tab rfl rfl ?_|refine q5 ?_|refine q6 ?_|refine q7 ?_|refine q8 ?_|refine q9 ?_|refine q10 ?_|refine q11 ?_|refine q12 rfl ?_|refine q13 ?_|refine q14 ?_|refine q15 ?_|refine q16 rfl ?_|refine q17 rfl ?_) | (first | refine qs rfl (ql tab 0 rfl rfl rfl rfl rfl rfl ?_) | refine qs rfl (qz tab 0 rfl rfl rfl rfl rfl rfl ?_) | refine qs rfl (ql tab 1 rfl rfl rfl rfl rfl rfl ?_) | refine qs rfl (qz tab 1 rfl rfl rfl rfl rfl rfl ?_) | refine qs rfl (ql tab 2 rfl rfl rfl rfl rfl rfl ?_) | refine qs rfl (qz tab 2 rfl rfl rfl rfl rfl rfl ?_) | refine qs rfl (ql tab 3 rfl rfl rfl rfl rfl rfl ?_) | refine qs rfl (qz tab 3 rfl rfl rfl rfl rfl rfl ?_) | refine qs rfl (ql tab 4 rfl rfl rfl rfl rfl rfl ?_) | refine qs rfl (qz tab 4 rfl rfl rfl rfl rfl rfl ?_) | refine qs rfl (ql tab 5 rfl rfl rfl rfl rfl rfl ?_) | refine qs rfl (qz tab 5 rfl rfl rfl rfl rfl rfl ?_)))
    refine TO.step rfl (OT.cut tab rStr 0 a.num.toNat ht rfl rfl rfl rfl rfl rfl rfl (.inl ⟨rfl, rfl⟩) (.inr (by rw [← hnum])) (Nat.zero_le _) (by rw [List.length_map]; exact hnl) (fun s1 hs1 => ?_))
    rw [List.drop_zero] at hs1
    repeat (first|refine q1 ?_|refine q2 ?_|refine q3 ?_|refine q4 tab rfl rfl ?_|refine q5 ?_|refine q6 ?_|refine q7 ?_|refine q8 ?_|refine q9 ?_|refine q10 ?_|refine q11 ?_|refine q12 rfl ?_|refine q13 ?_|refine q14 ?_|refine q15 ?_|refine q16 rfl ?_|refine q17 rfl ?_)
    refine TO.step rfl (OT.call rfl rfl rfl rfl rfl rfl goes80 ((join_law _ _ s1 _ hs1 commaS (by omega)).x ?_));
    rintro _ _ _ ⟨rfl, rfl, rfl⟩
    refine TO.step rfl (OT.concat rfl rfl rfl rfl rfl (by simp only [List.length_cons, List.length_nil]; omega) ?_)
    refine TO.step rfl (OT.concat rfl rfl rfl rfl rfl (by simp only [List.length_append, List.length_cons, List.length_nil]; omega) ?_)
    repeat (first | (first|refine q1 ?_|refine q2 ?_|refine q3 ?_|refine q4 tab rfl rfl ?_|refine q5 ?_|refine q6 ?_|refine q7 ?_|refine q8 ?_|refine q9 ?_|refine q10 ?_|refine q11 ?_|refine q12 rfl ?_|refine q13 ?_|refine q14 ?_|refine q15 ?_|refine q16 rfl ?_|refine q17 rfl ?_) | (first | refine qs rfl (ql tab 0 rfl rfl rfl rfl rfl rfl ?_) | refine qs rfl (qz tab 0 rfl rfl rfl rfl rfl rfl ?_) | refine qs rfl (ql tab 1 rfl rfl rfl rfl rfl rfl ?_) | refine qs rfl (qz tab 1 rfl rfl rfl rfl rfl rfl ?_) | refine qs rfl (ql tab 2 rfl rfl rfl rfl rfl rfl ?_) | refine qs rfl (qz tab 2 rfl rfl rfl rfl rfl rfl ?_) | refine qs rfl (ql tab 3 rfl rfl rfl rfl rfl rfl ?_) | refine qs rfl (qz tab 3 rfl rfl rfl rfl rfl rfl ?_) | refine qs rfl (ql tab 4 rfl rfl rfl rfl rfl rfl ?_) | refine qs rfl (qz tab 4 rfl rfl rfl rfl rfl rfl ?_) | refine qs rfl (ql tab 5 rfl rfl rfl rfl rfl rfl ?_) | refine qs rfl (qz tab 5 rfl rfl rfl rfl rfl rfl ?_)))
    refine TO.step rfl (OT.cut tab rStr a.num.toNat t.len ht rfl rfl rfl rfl rfl rfl rfl (.inr (by rw [← hnum])) (.inl ⟨rfl, rfl⟩) (by omega) (by rw [List.length_map]; omega) (fun s2 hs2 => ?_))
    rw [List.take_of_length_le (by rw [List.length_map]; omega)] at hs2
    have hdl : ((a.kids.map Tree.show).drop a.num.toNat).length = a.kids.length - a.num.toNat := by rw [List.length_drop, List.length_map]
    have hs2l := hs2.len
    rw [hdl] at hs2l
    repeat (first|refine q1 ?_|refine q2 ?_|refine q3 ?_|refine q4 tab rfl rfl ?_|refine q5 ?_|refine q6 ?_|refine q7 ?_|refine q8 ?_|refine q9 ?_|refine q10 ?_|refine q11 ?_|refine q12 rfl ?_|refine q13 ?_|refine q14 ?_|refine q15 ?_|refine q16 rfl ?_|refine q17 rfl ?_)
    refine TC.condP rfl (fun e0 => ?_) (fun e0 => ?_)
    · repeat (first | (first|refine q1 ?_|refine q2 ?_|refine q3 ?_|refine q4 tab rfl rfl ?_|refine q5 ?_|refine q6 ?_|refine q7 ?_|refine q8 ?_|refine q9 ?_|refine q10 ?_|refine q11 ?_|refine q12 rfl ?_|refine q13 ?_|refine q14 ?_|refine q15 ?_|refine q16 rfl ?_|refine q17 rfl ?_) | (first | refine qs rfl (ql tab 0 rfl rfl rfl rfl rfl rfl ?_) | refine qs rfl (qz tab 0 rfl rfl rfl rfl rfl rfl ?_) | refine qs rfl (ql tab 1 rfl rfl rfl rfl rfl rfl ?_) | refine qs rfl (qz tab 1 rfl rfl rfl rfl rfl rfl ?_) | refine qs rfl (ql tab 2 rfl rfl rfl rfl rfl rfl ?_) | refine qs rfl (qz tab 2 rfl rfl rfl rfl rfl rfl ?_) | refine qs rfl (ql tab 3 rfl rfl rfl rfl rfl rfl ?_) | refine qs rfl (qz tab 3 rfl rfl rfl rfl rfl rfl ?_) | refine qs rfl (ql tab 4 rfl rfl rfl rfl rfl rfl ?_) | refine qs rfl (qz tab 4 rfl rfl rfl rfl rfl rfl ?_) | refine qs rfl (ql tab 5 rfl rfl rfl rfl rfl rfl ?_) | refine qs rfl (qz tab 5 rfl rfl rfl rfl rfl rfl ?_)))
      refine retQ_ret rfl (by repeat (first | exact List.Sublist.refl _ | exact List.sublist_append_left _ _ | refine List.Sublist.cons_cons _ ?_ | refine List.Sublist.cons _ ?_)) ⟨hm1, rfl, ?_⟩
      unfold restS
      rw [if_pos (by omega), List.append_nil]
    repeat (first|refine q1 ?_|refine q2 ?_|refine q3 ?_|refine q4 tab rfl rfl ?_|refine q5 ?_|refine q6 ?_|refine q7 ?_|refine q8 ?_|refine q9 ?_|refine q10 ?_|refine q11 ?_|refine q12 rfl ?_|refine q13 ?_|refine q14 ?_|refine q15 ?_|refine q16 rfl ?_|refine q17 rfl ?_)
    refine TC.condP rfl (fun e1 => ?_) (fun e1 => ?_)
    · have hlt : a.num.toNat < a.kids.length := by omega
      have hmem := List.getElem_mem hlt
      have hkl := show_len a.kids[a.num.toNat]
      have hkk := bulk_kid hmem
      have hdr : (a.kids.map Tree.show).drop a.num.toNat = a.kids[a.num.toNat].show :: (a.kids.map Tree.show).drop (a.num.toNat + 1) := by
        rw [List.drop_eq_getElem_cons (by rw [List.length_map]; exact hlt), List.getElem_map]
      have hrest : restS ((a.kids.map Tree.show).drop a.num.toNat) = [32] ++ a.kids[a.num.toNat].show := by
        unfold restS
        rw [if_neg (by omega), if_pos (by omega), hdr, List.headD_cons]
      have hx : ((a.kids.map Tree.show).drop a.num.toNat)[0]? = some a.kids[a.num.toNat].show := by rw [hdr]; rfl
      repeat (first|refine q1 ?_|refine q2 ?_|refine q3 ?_|refine q4 tab rfl rfl ?_|refine q5 ?_|refine q6 ?_|refine q7 ?_|refine q8 ?_|refine q9 ?_|refine q10 ?_|refine q11 ?_|refine q12 rfl ?_|refine q13 ?_|refine q14 ?_|refine q15 ?_|refine q16 rfl ?_|refine q17 rfl ?_)
      refine TO.step rfl (OT.concat rfl rfl rfl rfl rfl (by simp only [List.length_append, List.length_cons, List.length_nil]; omega) ?_)
      repeat (first|refine q1 ?_|refine q2 ?_|refine q3 ?_|refine q4 tab rfl rfl ?_|refine q5 ?_|refine q6 ?_|refine q7 ?_|refine q8 ?_|refine q9 ?_|refine q10 ?_|refine q11 ?_|refine q12 rfl ?_|refine q13 ?_|refine q14 ?_|refine q15 ?_|refine q16 rfl ?_|refine q17 rfl ?_)
      refine TO.step rfl (OT.index tab rStr 0 hs2 rfl rfl rfl rfl rfl rfl rfl hx ?_)
      rintro b' i' s' hs' hA
      obtain rfl : s' = _ := hs'
      (first | refine TO.step rfl (OT.loadA tab hA rfl rfl rfl rfl rfl ?_) | refine TO.step rfl (OT.loadA0 tab hA rfl rfl rfl rfl rfl ?_))
      repeat (first|refine q1 ?_|refine q2 ?_|refine q3 ?_|refine q4 tab rfl rfl ?_|refine q5 ?_|refine q6 ?_|refine q7 ?_|refine q8 ?_|refine q9 ?_|refine q10 ?_|refine q11 ?_|refine q12 rfl ?_|refine q13 ?_|refine q14 ?_|refine q15 ?_|refine q16 rfl ?_|refine q17 rfl ?_)
      refine TO.step rfl (OT.concat rfl rfl rfl rfl rfl (by simp only [List.length_append, List.length_cons, List.length_nil]; omega) ?_)
      repeat (first|refine q1 ?_|refine q2 ?_|refine q3 ?_|refine q4 tab rfl rfl ?_|refine q5 ?_|refine q6 ?_|refine q7 ?_|refine q8 ?_|refine q9 ?_|refine q10 ?_|refine q11 ?_|refine q12 rfl ?_|refine q13 ?_|refine q14 ?_|refine q15 ?_|refine q16 rfl ?_|refine q17 rfl ?_)
      refine retQ_ret rfl (by repeat (first | exact List.Sublist.refl _ | exact List.sublist_append_left _ _ | refine List.Sublist.cons_cons _ ?_ | refine List.Sublist.cons _ ?_)) ⟨hm1, rfl, ?_⟩
      rw [hrest]
      simp only [List.append_assoc]
    · have hrest : restS ((a.kids.map Tree.show).drop a.num.toNat) = [32, 40] ++ joinS ((a.kids.map Tree.show).drop a.num.toNat) commaS ++ [41] := by
        unfold restS
        rw [if_neg (by omega), if_neg (by omega)]
      repeat (first|refine q1 ?_|refine q2 ?_|refine q3 ?_|refine q4 tab rfl rfl ?_|refine q5 ?_|refine q6 ?_|refine q7 ?_|refine q8 ?_|refine q9 ?_|refine q10 ?_|refine q11 ?_|refine q12 rfl ?_|refine q13 ?_|refine q14 ?_|refine q15 ?_|refine q16 rfl ?_|refine q17 rfl ?_)
      refine TO.step rfl (OT.concat rfl rfl rfl rfl rfl (by simp only [List.length_append, List.length_cons, List.length_nil]; omega) ?_)
      repeat (first|refine q1 ?_|refine q2 ?_|refine q3 ?_|refine q4 tab rfl rfl ?_|refine q5 ?_|refine q6 ?_|refine q7 ?_|refine q8 ?_|refine q9 ?_|refine q10 ?_|refine q11 ?_|refine q12 rfl ?_|refine q13 ?_|refine q14 ?_|refine q15 ?_|refine q16 rfl ?_|refine q17 rfl ?_)
      refine TO.step rfl (OT.call rfl rfl rfl rfl rfl rfl goes80 ((join_law _ _ s2 _ hs2 commaS (by omega)).x ?_));
      rintro _ _ _ ⟨rfl, rfl, rfl⟩
      refine TO.step rfl (OT.concat rfl rfl rfl rfl rfl (by simp only [List.length_append, List.length_cons, List.length_nil]; omega) ?_)
      refine TO.step rfl (OT.concat rfl rfl rfl rfl rfl (by simp only [List.length_append, List.length_cons, List.length_nil]; omega) ?_)
      repeat (first|refine q1 ?_|refine q2 ?_|refine q3 ?_|refine q4 tab rfl rfl ?_|refine q5 ?_|refine q6 ?_|refine q7 ?_|refine q8 ?_|refine q9 ?_|refine q10 ?_|refine q11 ?_|refine q12 rfl ?_|refine q13 ?_|refine q14 ?_|refine q15 ?_|refine q16 rfl ?_|refine q17 rfl ?_)
      refine retQ_ret rfl (by repeat (first | exact List.Sublist.refl _ | exact List.sublist_append_left _ _ | refine List.Sublist.cons_cons _ ?_ | refine List.Sublist.cons _ ?_)) ⟨hm1, rfl, ?_⟩
      rw [hrest]
      simp only [List.append_assoc]

def textS (a : Tree) : Str := if a.sound = true then a.show else []
theorem sound_formed {a : Tree} (h : a.sound = true) : a.formed = true := by
  unfold Tree.sound at h
  rw [Bool.and_eq_true] at h
  exact h.2
attribute [local irreducible] Tree.sound

set_option maxHeartbeats 800000 in
theorem text_law (a : Tree) (m : Mem) (L : List Item) (h : HTree) (hr : TreeRep m h a) (hB : a.bulk ≤ 1048576) : TCall Try.prog 16 ⟨[treeV h]⟩ m L (Ret (strV (textS a)) m L) := by
  unfold TCall
  refine TCallX.enter Try.func16 rfl 8 rfl ?_
  repeat (first|refine q1 ?_|refine q2 ?_|refine q3 ?_|refine q4 tab rfl rfl ?_|refine q5 ?_|refine q6 ?_|refine q7 ?_|refine q8 ?_|refine q9 ?_|refine q10 ?_|refine q11 ?_|refine q12 rfl ?_|refine q13 ?_|refine q14 ?_|refine q15 ?_|refine q16 rfl ?_|refine q17 rfl ?_)
  refine TO.step rfl (OT.box rfl rfl rfl rfl rfl (fun b => ?_))
  repeat (first | (first|refine q1 ?_|refine q2 ?_|refine q3 ?_|refine q4 tab rfl rfl ?_|refine q5 ?_|refine q6 ?_|refine q7 ?_|refine q8 ?_|refine q9 ?_|refine q10 ?_|refine q11 ?_|refine q12 rfl ?_|refine q13 ?_|refine q14 ?_|refine q15 ?_|refine q16 rfl ?_|refine q17 rfl ?_) | (first | refine qs rfl (ql tab 0 rfl rfl rfl rfl rfl rfl ?_) | refine qs rfl (qz tab 0 rfl rfl rfl rfl rfl rfl ?_) | refine qs rfl (ql tab 1 rfl rfl rfl rfl rfl rfl ?_) | refine qs rfl (qz tab 1 rfl rfl rfl rfl rfl rfl ?_) | refine qs rfl (ql tab 2 rfl rfl rfl rfl rfl rfl ?_) | refine qs rfl (qz tab 2 rfl rfl rfl rfl rfl rfl ?_) | refine qs rfl (ql tab 3 rfl rfl rfl rfl rfl rfl ?_) | refine qs rfl (qz tab 3 rfl rfl rfl rfl rfl rfl ?_) | refine qs rfl (ql tab 4 rfl rfl rfl rfl rfl rfl ?_) | refine qs rfl (qz tab 4 rfl rfl rfl rfl rfl rfl ?_) | refine qs rfl (ql tab 5 rfl rfl rfl rfl rfl rfl ?_) | refine qs rfl (qz tab 5 rfl rfl rfl rfl rfl rfl ?_)))
  refine TO.step rfl (OT.call rfl rfl rfl rfl rfl rfl goes40 ((isSound_law a _ _ h hr hB).x ?_));
  rintro _ _ _ ⟨rfl, rfl, rfl⟩
  repeat (first|refine q1 ?_|refine q2 ?_|refine q3 ?_|refine q4 tab rfl rfl ?_|refine q5 ?_|refine q6 ?_|refine q7 ?_|refine q8 ?_|refine q9 ?_|refine q10 ?_|refine q11 ?_|refine q12 rfl ?_|refine q13 ?_|refine q14 ?_|refine q15 ?_|refine q16 rfl ?_|refine q17 rfl ?_)
  refine TC.cond (t := !a.sound) rfl (fun e1 => ?_) (fun e1 => ?_)
  · rw [Bool.not_eq_true'] at e1
    repeat (first|refine q1 ?_|refine q2 ?_|refine q3 ?_|refine q4 tab rfl rfl ?_|refine q5 ?_|refine q6 ?_|refine q7 ?_|refine q8 ?_|refine q9 ?_|refine q10 ?_|refine q11 ?_|refine q12 rfl ?_|refine q13 ?_|refine q14 ?_|refine q15 ?_|refine q16 rfl ?_|refine q17 rfl ?_)
    refine retQ_ret rfl (by repeat (first | exact List.Sublist.refl _ | exact List.sublist_append_left _ _ | refine List.Sublist.cons_cons _ ?_ | refine List.Sublist.cons _ ?_)) ⟨rfl, rfl, ?_⟩
    rw [textS, e1]; rfl
  · rw [Bool.not_eq_false'] at e1
    repeat (first | (first|refine q1 ?_|refine q2 ?_|refine q3 ?_|refine q4 tab rfl rfl ?_|refine q5 ?_|refine q6 ?_|refine q7 ?_|refine q8 ?_|refine q9 ?_|refine q10 ?_|refine q11 ?_|refine q12 rfl ?_|refine q13 ?_|refine q14 ?_|refine q15 ?_|refine q16 rfl ?_|refine q17 rfl ?_) | (first | refine qs rfl (ql tab 0 rfl rfl rfl rfl rfl rfl ?_) | refine qs rfl (qz tab 0 rfl rfl rfl rfl rfl rfl ?_) | refine qs rfl (ql tab 1 rfl rfl rfl rfl rfl rfl ?_) | refine qs rfl (qz tab 1 rfl rfl rfl rfl rfl rfl ?_) | refine qs rfl (ql tab 2 rfl rfl rfl rfl rfl rfl ?_) | refine qs rfl (qz tab 2 rfl rfl rfl rfl rfl rfl ?_) | refine qs rfl (ql tab 3 rfl rfl rfl rfl rfl rfl ?_) | refine qs rfl (qz tab 3 rfl rfl rfl rfl rfl rfl ?_) | refine qs rfl (ql tab 4 rfl rfl rfl rfl rfl rfl ?_) | refine qs rfl (qz tab 4 rfl rfl rfl rfl rfl rfl ?_) | refine qs rfl (ql tab 5 rfl rfl rfl rfl rfl rfl ?_) | refine qs rfl (qz tab 5 rfl rfl rfl rfl rfl rfl ?_)))
    refine TO.step rfl (OT.call rfl rfl rfl rfl rfl rfl goes43 ((show_law a (sound_formed e1) _ _ h hr hB).x ?_));
    rintro _ _ _ ⟨rfl, rfl, rfl⟩
    repeat (first|refine q1 ?_|refine q2 ?_|refine q3 ?_|refine q4 tab rfl rfl ?_|refine q5 ?_|refine q6 ?_|refine q7 ?_|refine q8 ?_|refine q9 ?_|refine q10 ?_|refine q11 ?_|refine q12 rfl ?_|refine q13 ?_|refine q14 ?_|refine q15 ?_|refine q16 rfl ?_|refine q17 rfl ?_)
    refine retQ_ret rfl (by repeat (first | exact List.Sublist.refl _ | exact List.sublist_append_left _ _ | refine List.Sublist.cons_cons _ ?_ | refine List.Sublist.cons _ ?_)) ⟨rfl, rfl, ?_⟩
    rw [textS, e1]; rfl
set_option maxHeartbeats 800000 in
theorem text_ref (a : Tree) (m : Mem) (L : List Item) (h : HTree) (hr : TreeRep m h a) (hB : a.bulk ≤ 1048576) : TCall Try.prog 17 ⟨[treeV h]⟩ m L (Ret (strV (textS a)) m L) := by
  unfold TCall
  refine TCallX.enter Try.func17 rfl 8 rfl ?_
  repeat (first|refine q1 ?_|refine q2 ?_|refine q3 ?_|refine q4 tab rfl rfl ?_|refine q5 ?_|refine q6 ?_|refine q7 ?_|refine q8 ?_|refine q9 ?_|refine q10 ?_|refine q11 ?_|refine q12 rfl ?_|refine q13 ?_|refine q14 ?_|refine q15 ?_|refine q16 rfl ?_|refine q17 rfl ?_)
  refine TO.step rfl (OT.box rfl rfl rfl rfl rfl (fun b => ?_))
  repeat (first | (first|refine q1 ?_|refine q2 ?_|refine q3 ?_|refine q4 tab rfl rfl ?_|refine q5 ?_|refine q6 ?_|refine q7 ?_|refine q8 ?_|refine q9 ?_|refine q10 ?_|refine q11 ?_|refine q12 rfl ?_|refine q13 ?_|refine q14 ?_|refine q15 ?_|refine q16 rfl ?_|refine q17 rfl ?_) | (first | refine qs rfl (ql tab 0 rfl rfl rfl rfl rfl rfl ?_) | refine qs rfl (qz tab 0 rfl rfl rfl rfl rfl rfl ?_) | refine qs rfl (ql tab 1 rfl rfl rfl rfl rfl rfl ?_) | refine qs rfl (qz tab 1 rfl rfl rfl rfl rfl rfl ?_) | refine qs rfl (ql tab 2 rfl rfl rfl rfl rfl rfl ?_) | refine qs rfl (qz tab 2 rfl rfl rfl rfl rfl rfl ?_) | refine qs rfl (ql tab 3 rfl rfl rfl rfl rfl rfl ?_) | refine qs rfl (qz tab 3 rfl rfl rfl rfl rfl rfl ?_) | refine qs rfl (ql tab 4 rfl rfl rfl rfl rfl rfl ?_) | refine qs rfl (qz tab 4 rfl rfl rfl rfl rfl rfl ?_) | refine qs rfl (ql tab 5 rfl rfl rfl rfl rfl rfl ?_) | refine qs rfl (qz tab 5 rfl rfl rfl rfl rfl rfl ?_)))
  refine TO.step rfl (OT.call rfl rfl rfl rfl rfl rfl goes42 ((isSound_ref a _ _ h hr hB).x ?_));
  rintro _ _ _ ⟨rfl, rfl, rfl⟩
  repeat (first|refine q1 ?_|refine q2 ?_|refine q3 ?_|refine q4 tab rfl rfl ?_|refine q5 ?_|refine q6 ?_|refine q7 ?_|refine q8 ?_|refine q9 ?_|refine q10 ?_|refine q11 ?_|refine q12 rfl ?_|refine q13 ?_|refine q14 ?_|refine q15 ?_|refine q16 rfl ?_|refine q17 rfl ?_)
  refine TC.cond (t := !a.sound) rfl (fun e1 => ?_) (fun e1 => ?_)
  · rw [Bool.not_eq_true'] at e1
    repeat (first|refine q1 ?_|refine q2 ?_|refine q3 ?_|refine q4 tab rfl rfl ?_|refine q5 ?_|refine q6 ?_|refine q7 ?_|refine q8 ?_|refine q9 ?_|refine q10 ?_|refine q11 ?_|refine q12 rfl ?_|refine q13 ?_|refine q14 ?_|refine q15 ?_|refine q16 rfl ?_|refine q17 rfl ?_)
    refine retQ_ret rfl (by repeat (first | exact List.Sublist.refl _ | exact List.sublist_append_left _ _ | refine List.Sublist.cons_cons _ ?_ | refine List.Sublist.cons _ ?_)) ⟨rfl, rfl, ?_⟩
    rw [textS, e1]; rfl
  · rw [Bool.not_eq_false'] at e1
    repeat (first | (first|refine q1 ?_|refine q2 ?_|refine q3 ?_|refine q4 tab rfl rfl ?_|refine q5 ?_|refine q6 ?_|refine q7 ?_|refine q8 ?_|refine q9 ?_|refine q10 ?_|refine q11 ?_|refine q12 rfl ?_|refine q13 ?_|refine q14 ?_|refine q15 ?_|refine q16 rfl ?_|refine q17 rfl ?_) | (first | refine qs rfl (ql tab 0 rfl rfl rfl rfl rfl rfl ?_) | refine qs rfl (qz tab 0 rfl rfl rfl rfl rfl rfl ?_) | refine qs rfl (ql tab 1 rfl rfl rfl rfl rfl rfl ?_) | refine qs rfl (qz tab 1 rfl rfl rfl rfl rfl rfl ?_) | refine qs rfl (ql tab 2 rfl rfl rfl rfl rfl rfl ?_) | refine qs rfl (qz tab 2 rfl rfl rfl rfl rfl rfl ?_) | refine qs rfl (ql tab 3 rfl rfl rfl rfl rfl rfl ?_) | refine qs rfl (qz tab 3 rfl rfl rfl rfl rfl rfl ?_) | refine qs rfl (ql tab 4 rfl rfl rfl rfl rfl rfl ?_) | refine qs rfl (qz tab 4 rfl rfl rfl rfl rfl rfl ?_) | refine qs rfl (ql tab 5 rfl rfl rfl rfl rfl rfl ?_) | refine qs rfl (qz tab 5 rfl rfl rfl rfl rfl rfl ?_)))
    refine TO.step rfl (OT.call rfl rfl rfl rfl rfl rfl goes44 ((show_ref a (sound_formed e1) _ _ h hr hB).x ?_));
    rintro _ _ _ ⟨rfl, rfl, rfl⟩
    repeat (first|refine q1 ?_|refine q2 ?_|refine q3 ?_|refine q4 tab rfl rfl ?_|refine q5 ?_|refine q6 ?_|refine q7 ?_|refine q8 ?_|refine q9 ?_|refine q10 ?_|refine q11 ?_|refine q12 rfl ?_|refine q13 ?_|refine q14 ?_|refine q15 ?_|refine q16 rfl ?_|refine q17 rfl ?_)
    refine retQ_ret rfl (by repeat (first | exact List.Sublist.refl _ | exact List.sublist_append_left _ _ | refine List.Sublist.cons_cons _ ?_ | refine List.Sublist.cons _ ?_)) ⟨rfl, rfl, ?_⟩
    rw [textS, e1]; rfl
end Go.Sep

/-
  The type of a node: the walks of types.of.
-/
set_option linter.unusedVariables false
set_option linter.unusedSimpArgs false
namespace Go.Sep
open Go.Proofs
attribute [local irreducible] TC TO OT TCallX TCall DO DOt thenQ blockQ retQ At

/-- a tree is made -/
def MadeT (m : Mem) (L : List Item) (x : Tree) : Value → Mem → List Item → Prop := Made m L fun r m' => ∃ h : HTree, r = treeV h ∧ TreeRep m' h x
theorem TreeRep.leaf (m : Mem) (k : Int) (n : Str) (u : Int) : TreeRep m ⟨k, n, u, ⟨none, 0, 0⟩⟩ (.mk k n u []) := ⟨rfl, rfl, rfl, SlRep.nil _ _⟩
theorem rot3 {α : Type} {a b c : α} {L : List α} : (a :: b :: c :: L).Perm (b :: c :: a :: L) := (List.Perm.swap b a _).trans ((List.Perm.swap c a _).cons b)
theorem permA {α : Type} {a b c d : α} {L : List α} : (a :: b :: c :: d :: L).Perm (a :: c :: d :: L ++ [b]) := by
  refine List.Perm.cons _ ?_
  exact perm_last

set_option maxHeartbeats 3200000 in
theorem ofN_law (a : Tree) : ∀ (hn : okNode a = true) (m : Mem) (L : List Item) (h : HTree) (hr : TreeRep m h a) (hB : a.bulk ≤ 1048576), TCall Try.prog 36 ⟨[treeV h]⟩ m L (MadeT m L a.ofT) := by
  induction a using Tree.ind with
  | h a ih =>
  intro hn m L h hr hB
  have hr' := hr
  obtain ⟨h1, h2, h3, h4⟩ := hr
  have hl := h4.len
  have hsm := h4.small rfl
  have hbl := bulk_len a.kids
  have hkb : bulkL a.kids < a.bulk := by obtain ⟨_, _, _, ks⟩ := a; simp only [Tree.bulk, Tree.kids]; omega
  rw [ofT_eq]
  unfold TCall
  refine TCallX.enter Try.func36 rfl 55 rfl ?_
  rcases okNode_facts hn with ⟨h10, hu, hks⟩ | ⟨h11, hu, hkn⟩ | ⟨h13, hkn⟩ | ⟨h8, k, hks, hkn⟩
  · rw [if_pos h10]
    obtain ⟨k, n, u, s⟩ := h
    obtain rfl : k = 10 := h1.trans h10
    repeat (first|refine q1 ?_|refine q2 ?_|refine q3 ?_|refine q4 tab rfl rfl ?_|refine q5 ?_|refine q6 ?_|refine q7 ?_|refine q8 ?_|refine q9 ?_|refine q10 ?_|refine q11 ?_|refine q12 rfl ?_|refine q13 ?_|refine q14 ?_|refine q15 ?_|refine q16 rfl ?_|refine q17 rfl ?_)
    refine TO.step rfl (OT.box rfl rfl rfl rfl rfl (fun b => ?_))
    repeat (first|refine q1 ?_|refine q2 ?_|refine q3 ?_|refine q4 tab rfl rfl ?_|refine q5 ?_|refine q6 ?_|refine q7 ?_|refine q8 ?_|refine q9 ?_|refine q10 ?_|refine q11 ?_|refine q12 rfl ?_|refine q13 ?_|refine q14 ?_|refine q15 ?_|refine q16 rfl ?_|refine q17 rfl ?_)
    refine TO.step rfl (OT.alloc tab rfl rfl rfl rfl (fun b2 => ?_))
    repeat (first | (first|refine q1 ?_|refine q2 ?_|refine q3 ?_|refine q4 tab rfl rfl ?_|refine q5 ?_|refine q6 ?_|refine q7 ?_|refine q8 ?_|refine q9 ?_|refine q10 ?_|refine q11 ?_|refine q12 rfl ?_|refine q13 ?_|refine q14 ?_|refine q15 ?_|refine q16 rfl ?_|refine q17 rfl ?_) | (first | refine qs rfl (ql tab 0 rfl rfl rfl rfl rfl rfl ?_) | refine qs rfl (qz tab 0 rfl rfl rfl rfl rfl rfl ?_) | refine qs rfl (ql tab 1 rfl rfl rfl rfl rfl rfl ?_) | refine qs rfl (qz tab 1 rfl rfl rfl rfl rfl rfl ?_) | refine qs rfl (ql tab 2 rfl rfl rfl rfl rfl rfl ?_) | refine qs rfl (qz tab 2 rfl rfl rfl rfl rfl rfl ?_) | refine qs rfl (ql tab 3 rfl rfl rfl rfl rfl rfl ?_) | refine qs rfl (qz tab 3 rfl rfl rfl rfl rfl rfl ?_) | refine qs rfl (ql tab 4 rfl rfl rfl rfl rfl rfl ?_) | refine qs rfl (qz tab 4 rfl rfl rfl rfl rfl rfl ?_) | refine qs rfl (ql tab 5 rfl rfl rfl rfl rfl rfl ?_) | refine qs rfl (qz tab 5 rfl rfl rfl rfl rfl rfl ?_)))
    refine TO.step rfl (OT.alloc tab rfl rfl rfl rfl (fun b3 => ?_))
    repeat (first|refine q1 ?_|refine q2 ?_|refine q3 ?_|refine q4 tab rfl rfl ?_|refine q5 ?_|refine q6 ?_|refine q7 ?_|refine q8 ?_|refine q9 ?_|refine q10 ?_|refine q11 ?_|refine q12 rfl ?_|refine q13 ?_|refine q14 ?_|refine q15 ?_|refine q16 rfl ?_|refine q17 rfl ?_)
    (first | refine TO.step rfl (OT.storeL tab 0 rfl rfl rfl rfl rfl rfl rfl rfl ?_) | refine TO.step rfl (OT.storeL0 tab 0 rfl rfl rfl rfl rfl rfl rfl rfl ?_) | refine TO.step rfl (OT.storeL tab 1 rfl rfl rfl rfl rfl rfl rfl rfl ?_) | refine TO.step rfl (OT.storeL0 tab 1 rfl rfl rfl rfl rfl rfl rfl rfl ?_) | refine TO.step rfl (OT.storeL tab 2 rfl rfl rfl rfl rfl rfl rfl rfl ?_) | refine TO.step rfl (OT.storeL0 tab 2 rfl rfl rfl rfl rfl rfl rfl rfl ?_) | refine TO.step rfl (OT.storeL tab 3 rfl rfl rfl rfl rfl rfl rfl rfl ?_) | refine TO.step rfl (OT.storeL0 tab 3 rfl rfl rfl rfl rfl rfl rfl rfl ?_) | refine TO.step rfl (OT.storeL tab 4 rfl rfl rfl rfl rfl rfl rfl rfl ?_) | refine TO.step rfl (OT.storeL0 tab 4 rfl rfl rfl rfl rfl rfl rfl rfl ?_) | refine TO.step rfl (OT.storeL tab 5 rfl rfl rfl rfl rfl rfl rfl rfl ?_) | refine TO.step rfl (OT.storeL0 tab 5 rfl rfl rfl rfl rfl rfl rfl rfl ?_))
    repeat (first | (first|refine q1 ?_|refine q2 ?_|refine q3 ?_|refine q4 tab rfl rfl ?_|refine q5 ?_|refine q6 ?_|refine q7 ?_|refine q8 ?_|refine q9 ?_|refine q10 ?_|refine q11 ?_|refine q12 rfl ?_|refine q13 ?_|refine q14 ?_|refine q15 ?_|refine q16 rfl ?_|refine q17 rfl ?_) | (first | refine qs rfl (ql tab 0 rfl rfl rfl rfl rfl rfl ?_) | refine qs rfl (qz tab 0 rfl rfl rfl rfl rfl rfl ?_) | refine qs rfl (ql tab 1 rfl rfl rfl rfl rfl rfl ?_) | refine qs rfl (qz tab 1 rfl rfl rfl rfl rfl rfl ?_) | refine qs rfl (ql tab 2 rfl rfl rfl rfl rfl rfl ?_) | refine qs rfl (qz tab 2 rfl rfl rfl rfl rfl rfl ?_) | refine qs rfl (ql tab 3 rfl rfl rfl rfl rfl rfl ?_) | refine qs rfl (qz tab 3 rfl rfl rfl rfl rfl rfl ?_) | refine qs rfl (ql tab 4 rfl rfl rfl rfl rfl rfl ?_) | refine qs rfl (qz tab 4 rfl rfl rfl rfl rfl rfl ?_) | refine qs rfl (ql tab 5 rfl rfl rfl rfl rfl rfl ?_) | refine qs rfl (qz tab 5 rfl rfl rfl rfl rfl rfl ?_)))
    refine TO.step rfl (OT.call rfl rfl rfl rfl rfl rfl goes46 ((basic_law _ _ n).x ?_));
    rintro _ _ _ ⟨rfl, rfl, rfl⟩
    repeat (first|refine q1 ?_|refine q2 ?_|refine q3 ?_|refine q4 tab rfl rfl ?_|refine q5 ?_|refine q6 ?_|refine q7 ?_|refine q8 ?_|refine q9 ?_|refine q10 ?_|refine q11 ?_|refine q12 rfl ?_|refine q13 ?_|refine q14 ?_|refine q15 ?_|refine q16 rfl ?_|refine q17 rfl ?_)
    (first | refine TO.step rfl (OT.storeL tab 0 rfl rfl rfl rfl rfl rfl rfl rfl ?_) | refine TO.step rfl (OT.storeL0 tab 0 rfl rfl rfl rfl rfl rfl rfl rfl ?_) | refine TO.step rfl (OT.storeL tab 1 rfl rfl rfl rfl rfl rfl rfl rfl ?_) | refine TO.step rfl (OT.storeL0 tab 1 rfl rfl rfl rfl rfl rfl rfl rfl ?_) | refine TO.step rfl (OT.storeL tab 2 rfl rfl rfl rfl rfl rfl rfl rfl ?_) | refine TO.step rfl (OT.storeL0 tab 2 rfl rfl rfl rfl rfl rfl rfl rfl ?_) | refine TO.step rfl (OT.storeL tab 3 rfl rfl rfl rfl rfl rfl rfl rfl ?_) | refine TO.step rfl (OT.storeL0 tab 3 rfl rfl rfl rfl rfl rfl rfl rfl ?_) | refine TO.step rfl (OT.storeL tab 4 rfl rfl rfl rfl rfl rfl rfl rfl ?_) | refine TO.step rfl (OT.storeL0 tab 4 rfl rfl rfl rfl rfl rfl rfl rfl ?_) | refine TO.step rfl (OT.storeL tab 5 rfl rfl rfl rfl rfl rfl rfl rfl ?_) | refine TO.step rfl (OT.storeL0 tab 5 rfl rfl rfl rfl rfl rfl rfl rfl ?_))
    repeat (first | (first|refine q1 ?_|refine q2 ?_|refine q3 ?_|refine q4 tab rfl rfl ?_|refine q5 ?_|refine q6 ?_|refine q7 ?_|refine q8 ?_|refine q9 ?_|refine q10 ?_|refine q11 ?_|refine q12 rfl ?_|refine q13 ?_|refine q14 ?_|refine q15 ?_|refine q16 rfl ?_|refine q17 rfl ?_) | (first | refine qs rfl (ql tab 0 rfl rfl rfl rfl rfl rfl ?_) | refine qs rfl (qz tab 0 rfl rfl rfl rfl rfl rfl ?_) | refine qs rfl (ql tab 1 rfl rfl rfl rfl rfl rfl ?_) | refine qs rfl (qz tab 1 rfl rfl rfl rfl rfl rfl ?_) | refine qs rfl (ql tab 2 rfl rfl rfl rfl rfl rfl ?_) | refine qs rfl (qz tab 2 rfl rfl rfl rfl rfl rfl ?_) | refine qs rfl (ql tab 3 rfl rfl rfl rfl rfl rfl ?_) | refine qs rfl (qz tab 3 rfl rfl rfl rfl rfl rfl ?_) | refine qs rfl (ql tab 4 rfl rfl rfl rfl rfl rfl ?_) | refine qs rfl (qz tab 4 rfl rfl rfl rfl rfl rfl ?_) | refine qs rfl (ql tab 5 rfl rfl rfl rfl rfl rfl ?_) | refine qs rfl (qz tab 5 rfl rfl rfl rfl rfl rfl ?_)))
    refine TC.condP rfl (fun h0 => ?_) (fun h0 => ?_)
    · simp only at h2 h3
      rw [← h2, if_pos h0]
      refine TC.draw [] mixed 6 rfl [_,_] (_::L) rot3 ?_
      refine DO.pure tab (by repeat (first | exact Calm.ret | refine Calm.then ?_ | refine Calm.block ?_ | assumption)) (by kernel_rfl) [0, 2] (by kernel_rfl) rfl ?_
      refine DO.fork 1 [3] (by kernel_rfl) ⟨⟨_, rfl, rfl, rfl, ?_⟩, ⟨_, rfl, rfl, rfl, ?_⟩, trivial⟩
      · refine OT.loadL tab 1 rfl rfl rfl rfl rfl rfl ?_
        refine ⟨Mem.le_refl _, _, List.Perm.refl _, ?_⟩
        refine DO.run 3 rfl rfl (by kernel_rfl) rfl ?_
        refine OT.storeL0 tab 2 rfl rfl rfl rfl rfl rfl rfl rfl ?_
        refine ⟨Mem.le_refl _, _, List.Perm.refl _, ?_⟩
        refine DO.pure tab (by repeat (first | exact Calm.ret | refine Calm.then ?_ | refine Calm.block ?_ | assumption)) (by kernel_rfl) [4] (by kernel_rfl) rfl ?_
        refine DO.run 5 rfl rfl (by kernel_rfl) rfl ?_
        refine OT.storeL tab 2 rfl rfl rfl rfl rfl rfl rfl rfl ?_
        refine ⟨Mem.le_refl _, _, List.Perm.refl _, ?_⟩
        refine DO.nil (by kernel_rfl) ?_
        refine thenQ_n ?_
        repeat (first | (first|refine q1 ?_|refine q2 ?_|refine q3 ?_|refine q4 tab rfl rfl ?_|refine q5 ?_|refine q6 ?_|refine q7 ?_|refine q8 ?_|refine q9 ?_|refine q10 ?_|refine q11 ?_|refine q12 rfl ?_|refine q13 ?_|refine q14 ?_|refine q15 ?_|refine q16 rfl ?_|refine q17 rfl ?_) | (first | refine qs rfl (ql tab 0 rfl rfl rfl rfl rfl rfl ?_) | refine qs rfl (qz tab 0 rfl rfl rfl rfl rfl rfl ?_) | refine qs rfl (ql tab 1 rfl rfl rfl rfl rfl rfl ?_) | refine qs rfl (qz tab 1 rfl rfl rfl rfl rfl rfl ?_) | refine qs rfl (ql tab 2 rfl rfl rfl rfl rfl rfl ?_) | refine qs rfl (qz tab 2 rfl rfl rfl rfl rfl rfl ?_) | refine qs rfl (ql tab 3 rfl rfl rfl rfl rfl rfl ?_) | refine qs rfl (qz tab 3 rfl rfl rfl rfl rfl rfl ?_) | refine qs rfl (ql tab 4 rfl rfl rfl rfl rfl rfl ?_) | refine qs rfl (qz tab 4 rfl rfl rfl rfl rfl rfl ?_) | refine qs rfl (ql tab 5 rfl rfl rfl rfl rfl rfl ?_) | refine qs rfl (qz tab 5 rfl rfl rfl rfl rfl rfl ?_)))
        (first | refine TO.step rfl (OT.storeL tab 0 rfl rfl rfl rfl rfl rfl rfl rfl ?_) | refine TO.step rfl (OT.storeL0 tab 0 rfl rfl rfl rfl rfl rfl rfl rfl ?_) | refine TO.step rfl (OT.storeL tab 1 rfl rfl rfl rfl rfl rfl rfl rfl ?_) | refine TO.step rfl (OT.storeL0 tab 1 rfl rfl rfl rfl rfl rfl rfl rfl ?_) | refine TO.step rfl (OT.storeL tab 2 rfl rfl rfl rfl rfl rfl rfl rfl ?_) | refine TO.step rfl (OT.storeL0 tab 2 rfl rfl rfl rfl rfl rfl rfl rfl ?_) | refine TO.step rfl (OT.storeL tab 3 rfl rfl rfl rfl rfl rfl rfl rfl ?_) | refine TO.step rfl (OT.storeL0 tab 3 rfl rfl rfl rfl rfl rfl rfl rfl ?_) | refine TO.step rfl (OT.storeL tab 4 rfl rfl rfl rfl rfl rfl rfl rfl ?_) | refine TO.step rfl (OT.storeL0 tab 4 rfl rfl rfl rfl rfl rfl rfl rfl ?_) | refine TO.step rfl (OT.storeL tab 5 rfl rfl rfl rfl rfl rfl rfl rfl ?_) | refine TO.step rfl (OT.storeL0 tab 5 rfl rfl rfl rfl rfl rfl rfl rfl ?_))
        repeat (first|refine q1 ?_|refine q2 ?_|refine q3 ?_|refine q4 tab rfl rfl ?_|refine q5 ?_|refine q6 ?_|refine q7 ?_|refine q8 ?_|refine q9 ?_|refine q10 ?_|refine q11 ?_|refine q12 rfl ?_|refine q13 ?_|refine q14 ?_|refine q15 ?_|refine q16 rfl ?_|refine q17 rfl ?_)
        exact retQ_ret_c1 tab 0 rfl rfl rfl rfl (by repeat (first | exact List.Sublist.refl _ | exact List.sublist_append_left _ _ | refine List.Sublist.cons_cons _ ?_ | refine List.Sublist.cons _ ?_)) ⟨Mem.le_refl _, rfl, ⟨4, n, u, ⟨none, 0, 0⟩⟩, rfl, by rw [h3, hu]; exact TreeRep.leaf _ _ _ _⟩
      · refine OT.storeL0 tab 2 rfl rfl rfl rfl rfl rfl rfl rfl ?_
        refine ⟨Mem.le_refl _, _, List.Perm.refl _, ?_⟩
        refine DO.run 1 rfl rfl (by kernel_rfl) rfl ?_
        refine OT.loadL tab 1 rfl rfl rfl rfl rfl rfl ?_
        refine ⟨Mem.le_refl _, _, List.Perm.refl _, ?_⟩
        refine DO.pure tab (by repeat (first | exact Calm.ret | refine Calm.then ?_ | refine Calm.block ?_ | assumption)) (by kernel_rfl) [4] (by kernel_rfl) rfl ?_
        refine DO.run 5 rfl rfl (by kernel_rfl) rfl ?_
        refine OT.storeL tab 2 rfl rfl rfl rfl rfl rfl rfl rfl ?_
        refine ⟨Mem.le_refl _, _, List.Perm.refl _, ?_⟩
        refine DO.nil (by kernel_rfl) ?_
        refine thenQ_n ?_
        repeat (first | (first|refine q1 ?_|refine q2 ?_|refine q3 ?_|refine q4 tab rfl rfl ?_|refine q5 ?_|refine q6 ?_|refine q7 ?_|refine q8 ?_|refine q9 ?_|refine q10 ?_|refine q11 ?_|refine q12 rfl ?_|refine q13 ?_|refine q14 ?_|refine q15 ?_|refine q16 rfl ?_|refine q17 rfl ?_) | (first | refine qs rfl (ql tab 0 rfl rfl rfl rfl rfl rfl ?_) | refine qs rfl (qz tab 0 rfl rfl rfl rfl rfl rfl ?_) | refine qs rfl (ql tab 1 rfl rfl rfl rfl rfl rfl ?_) | refine qs rfl (qz tab 1 rfl rfl rfl rfl rfl rfl ?_) | refine qs rfl (ql tab 2 rfl rfl rfl rfl rfl rfl ?_) | refine qs rfl (qz tab 2 rfl rfl rfl rfl rfl rfl ?_) | refine qs rfl (ql tab 3 rfl rfl rfl rfl rfl rfl ?_) | refine qs rfl (qz tab 3 rfl rfl rfl rfl rfl rfl ?_) | refine qs rfl (ql tab 4 rfl rfl rfl rfl rfl rfl ?_) | refine qs rfl (qz tab 4 rfl rfl rfl rfl rfl rfl ?_) | refine qs rfl (ql tab 5 rfl rfl rfl rfl rfl rfl ?_) | refine qs rfl (qz tab 5 rfl rfl rfl rfl rfl rfl ?_)))
        (first | refine TO.step rfl (OT.storeL tab 0 rfl rfl rfl rfl rfl rfl rfl rfl ?_) | refine TO.step rfl (OT.storeL0 tab 0 rfl rfl rfl rfl rfl rfl rfl rfl ?_) | refine TO.step rfl (OT.storeL tab 1 rfl rfl rfl rfl rfl rfl rfl rfl ?_) | refine TO.step rfl (OT.storeL0 tab 1 rfl rfl rfl rfl rfl rfl rfl rfl ?_) | refine TO.step rfl (OT.storeL tab 2 rfl rfl rfl rfl rfl rfl rfl rfl ?_) | refine TO.step rfl (OT.storeL0 tab 2 rfl rfl rfl rfl rfl rfl rfl rfl ?_) | refine TO.step rfl (OT.storeL tab 3 rfl rfl rfl rfl rfl rfl rfl rfl ?_) | refine TO.step rfl (OT.storeL0 tab 3 rfl rfl rfl rfl rfl rfl rfl rfl ?_) | refine TO.step rfl (OT.storeL tab 4 rfl rfl rfl rfl rfl rfl rfl rfl ?_) | refine TO.step rfl (OT.storeL0 tab 4 rfl rfl rfl rfl rfl rfl rfl rfl ?_) | refine TO.step rfl (OT.storeL tab 5 rfl rfl rfl rfl rfl rfl rfl rfl ?_) | refine TO.step rfl (OT.storeL0 tab 5 rfl rfl rfl rfl rfl rfl rfl rfl ?_))
        repeat (first|refine q1 ?_|refine q2 ?_|refine q3 ?_|refine q4 tab rfl rfl ?_|refine q5 ?_|refine q6 ?_|refine q7 ?_|refine q8 ?_|refine q9 ?_|refine q10 ?_|refine q11 ?_|refine q12 rfl ?_|refine q13 ?_|refine q14 ?_|refine q15 ?_|refine q16 rfl ?_|refine q17 rfl ?_)
        exact retQ_ret_c1 tab 0 rfl rfl rfl rfl (by repeat (first | exact List.Sublist.refl _ | exact List.sublist_append_left _ _ | refine List.Sublist.cons_cons _ ?_ | refine List.Sublist.cons _ ?_)) ⟨Mem.le_refl _, rfl, ⟨4, n, u, ⟨none, 0, 0⟩⟩, rfl, by rw [h3, hu]; exact TreeRep.leaf _ _ _ _⟩
    · rw [if_neg (by rw [← h2]; exact h0)]
      repeat (first | (first|refine q1 ?_|refine q2 ?_|refine q3 ?_|refine q4 tab rfl rfl ?_|refine q5 ?_|refine q6 ?_|refine q7 ?_|refine q8 ?_|refine q9 ?_|refine q10 ?_|refine q11 ?_|refine q12 rfl ?_|refine q13 ?_|refine q14 ?_|refine q15 ?_|refine q16 rfl ?_|refine q17 rfl ?_) | (first | refine qs rfl (ql tab 0 rfl rfl rfl rfl rfl rfl ?_) | refine qs rfl (qz tab 0 rfl rfl rfl rfl rfl rfl ?_) | refine qs rfl (ql tab 1 rfl rfl rfl rfl rfl rfl ?_) | refine qs rfl (qz tab 1 rfl rfl rfl rfl rfl rfl ?_) | refine qs rfl (ql tab 2 rfl rfl rfl rfl rfl rfl ?_) | refine qs rfl (qz tab 2 rfl rfl rfl rfl rfl rfl ?_) | refine qs rfl (ql tab 3 rfl rfl rfl rfl rfl rfl ?_) | refine qs rfl (qz tab 3 rfl rfl rfl rfl rfl rfl ?_) | refine qs rfl (ql tab 4 rfl rfl rfl rfl rfl rfl ?_) | refine qs rfl (qz tab 4 rfl rfl rfl rfl rfl rfl ?_) | refine qs rfl (ql tab 5 rfl rfl rfl rfl rfl rfl ?_) | refine qs rfl (qz tab 5 rfl rfl rfl rfl rfl rfl ?_)))
      (first | refine TO.step rfl (OT.storeL tab 0 rfl rfl rfl rfl rfl rfl rfl rfl ?_) | refine TO.step rfl (OT.storeL0 tab 0 rfl rfl rfl rfl rfl rfl rfl rfl ?_) | refine TO.step rfl (OT.storeL tab 1 rfl rfl rfl rfl rfl rfl rfl rfl ?_) | refine TO.step rfl (OT.storeL0 tab 1 rfl rfl rfl rfl rfl rfl rfl rfl ?_) | refine TO.step rfl (OT.storeL tab 2 rfl rfl rfl rfl rfl rfl rfl rfl ?_) | refine TO.step rfl (OT.storeL0 tab 2 rfl rfl rfl rfl rfl rfl rfl rfl ?_) | refine TO.step rfl (OT.storeL tab 3 rfl rfl rfl rfl rfl rfl rfl rfl ?_) | refine TO.step rfl (OT.storeL0 tab 3 rfl rfl rfl rfl rfl rfl rfl rfl ?_) | refine TO.step rfl (OT.storeL tab 4 rfl rfl rfl rfl rfl rfl rfl rfl ?_) | refine TO.step rfl (OT.storeL0 tab 4 rfl rfl rfl rfl rfl rfl rfl rfl ?_) | refine TO.step rfl (OT.storeL tab 5 rfl rfl rfl rfl rfl rfl rfl rfl ?_) | refine TO.step rfl (OT.storeL0 tab 5 rfl rfl rfl rfl rfl rfl rfl rfl ?_))
      repeat (first|refine q1 ?_|refine q2 ?_|refine q3 ?_|refine q4 tab rfl rfl ?_|refine q5 ?_|refine q6 ?_|refine q7 ?_|refine q8 ?_|refine q9 ?_|refine q10 ?_|refine q11 ?_|refine q12 rfl ?_|refine q13 ?_|refine q14 ?_|refine q15 ?_|refine q16 rfl ?_|refine q17 rfl ?_)
      refine retQ_ret_c1 tab 1 rfl rfl rfl rfl (by repeat (first | exact List.Sublist.refl _ | exact List.sublist_append_left _ _ | refine List.Sublist.cons_cons _ ?_ | refine List.Sublist.cons _ ?_)) ⟨Mem.le_refl _, rfl, ⟨basicOf n, [], u, ⟨none, 0, 0⟩⟩, rfl, ?_⟩
      simp only at h2 h3
      rw [← h2, h3, hu]
      exact TreeRep.leaf _ _ _ _
  · have h10 : ¬ a.kind = 10 := by omega
    have h8 : ¬ a.kind = 8 := by omega
    rw [if_neg h10, if_neg h8]
    have h12 : h.kind = 11 ∨ h.kind = 12 := by rw [h1]; exact h11
    obtain ⟨k, n, u, s⟩ := h
    rcases h12 with h12 | h12
    · simp only at h12
      subst h12
      rw [if_pos (show a.kind = 11 from h1.symm)]
      repeat (first|refine q1 ?_|refine q2 ?_|refine q3 ?_|refine q4 tab rfl rfl ?_|refine q5 ?_|refine q6 ?_|refine q7 ?_|refine q8 ?_|refine q9 ?_|refine q10 ?_|refine q11 ?_|refine q12 rfl ?_|refine q13 ?_|refine q14 ?_|refine q15 ?_|refine q16 rfl ?_|refine q17 rfl ?_)
      refine TO.step rfl (OT.box rfl rfl rfl rfl rfl (fun b => ?_))
      repeat (first|refine q1 ?_|refine q2 ?_|refine q3 ?_|refine q4 tab rfl rfl ?_|refine q5 ?_|refine q6 ?_|refine q7 ?_|refine q8 ?_|refine q9 ?_|refine q10 ?_|refine q11 ?_|refine q12 rfl ?_|refine q13 ?_|refine q14 ?_|refine q15 ?_|refine q16 rfl ?_|refine q17 rfl ?_)
      refine TO.step rfl (OT.alloc tab rfl rfl rfl rfl (fun b2 => ?_))
      repeat (first | (first|refine q1 ?_|refine q2 ?_|refine q3 ?_|refine q4 tab rfl rfl ?_|refine q5 ?_|refine q6 ?_|refine q7 ?_|refine q8 ?_|refine q9 ?_|refine q10 ?_|refine q11 ?_|refine q12 rfl ?_|refine q13 ?_|refine q14 ?_|refine q15 ?_|refine q16 rfl ?_|refine q17 rfl ?_) | (first | refine qs rfl (ql tab 0 rfl rfl rfl rfl rfl rfl ?_) | refine qs rfl (qz tab 0 rfl rfl rfl rfl rfl rfl ?_) | refine qs rfl (ql tab 1 rfl rfl rfl rfl rfl rfl ?_) | refine qs rfl (qz tab 1 rfl rfl rfl rfl rfl rfl ?_) | refine qs rfl (ql tab 2 rfl rfl rfl rfl rfl rfl ?_) | refine qs rfl (qz tab 2 rfl rfl rfl rfl rfl rfl ?_) | refine qs rfl (ql tab 3 rfl rfl rfl rfl rfl rfl ?_) | refine qs rfl (qz tab 3 rfl rfl rfl rfl rfl rfl ?_) | refine qs rfl (ql tab 4 rfl rfl rfl rfl rfl rfl ?_) | refine qs rfl (qz tab 4 rfl rfl rfl rfl rfl rfl ?_) | refine qs rfl (ql tab 5 rfl rfl rfl rfl rfl rfl ?_) | refine qs rfl (qz tab 5 rfl rfl rfl rfl rfl rfl ?_)))
      refine TO.step rfl (OT.alloc tab rfl rfl rfl rfl (fun b3 => ?_))
      repeat (first|refine q1 ?_|refine q2 ?_|refine q3 ?_|refine q4 tab rfl rfl ?_|refine q5 ?_|refine q6 ?_|refine q7 ?_|refine q8 ?_|refine q9 ?_|refine q10 ?_|refine q11 ?_|refine q12 rfl ?_|refine q13 ?_|refine q14 ?_|refine q15 ?_|refine q16 rfl ?_|refine q17 rfl ?_)
      (first | refine TO.step rfl (OT.storeL tab 0 rfl rfl rfl rfl rfl rfl rfl rfl ?_) | refine TO.step rfl (OT.storeL0 tab 0 rfl rfl rfl rfl rfl rfl rfl rfl ?_) | refine TO.step rfl (OT.storeL tab 1 rfl rfl rfl rfl rfl rfl rfl rfl ?_) | refine TO.step rfl (OT.storeL0 tab 1 rfl rfl rfl rfl rfl rfl rfl rfl ?_) | refine TO.step rfl (OT.storeL tab 2 rfl rfl rfl rfl rfl rfl rfl rfl ?_) | refine TO.step rfl (OT.storeL0 tab 2 rfl rfl rfl rfl rfl rfl rfl rfl ?_) | refine TO.step rfl (OT.storeL tab 3 rfl rfl rfl rfl rfl rfl rfl rfl ?_) | refine TO.step rfl (OT.storeL0 tab 3 rfl rfl rfl rfl rfl rfl rfl rfl ?_) | refine TO.step rfl (OT.storeL tab 4 rfl rfl rfl rfl rfl rfl rfl rfl ?_) | refine TO.step rfl (OT.storeL0 tab 4 rfl rfl rfl rfl rfl rfl rfl rfl ?_) | refine TO.step rfl (OT.storeL tab 5 rfl rfl rfl rfl rfl rfl rfl rfl ?_) | refine TO.step rfl (OT.storeL0 tab 5 rfl rfl rfl rfl rfl rfl rfl rfl ?_))
      repeat (first | (first|refine q1 ?_|refine q2 ?_|refine q3 ?_|refine q4 tab rfl rfl ?_|refine q5 ?_|refine q6 ?_|refine q7 ?_|refine q8 ?_|refine q9 ?_|refine q10 ?_|refine q11 ?_|refine q12 rfl ?_|refine q13 ?_|refine q14 ?_|refine q15 ?_|refine q16 rfl ?_|refine q17 rfl ?_) | (first | refine qs rfl (ql tab 0 rfl rfl rfl rfl rfl rfl ?_) | refine qs rfl (qz tab 0 rfl rfl rfl rfl rfl rfl ?_) | refine qs rfl (ql tab 1 rfl rfl rfl rfl rfl rfl ?_) | refine qs rfl (qz tab 1 rfl rfl rfl rfl rfl rfl ?_) | refine qs rfl (ql tab 2 rfl rfl rfl rfl rfl rfl ?_) | refine qs rfl (qz tab 2 rfl rfl rfl rfl rfl rfl ?_) | refine qs rfl (ql tab 3 rfl rfl rfl rfl rfl rfl ?_) | refine qs rfl (qz tab 3 rfl rfl rfl rfl rfl rfl ?_) | refine qs rfl (ql tab 4 rfl rfl rfl rfl rfl rfl ?_) | refine qs rfl (qz tab 4 rfl rfl rfl rfl rfl rfl ?_) | refine qs rfl (ql tab 5 rfl rfl rfl rfl rfl rfl ?_) | refine qs rfl (qz tab 5 rfl rfl rfl rfl rfl rfl ?_)))
      (first | refine TO.step rfl (OT.storeL tab 0 rfl rfl rfl rfl rfl rfl rfl rfl ?_) | refine TO.step rfl (OT.storeL0 tab 0 rfl rfl rfl rfl rfl rfl rfl rfl ?_) | refine TO.step rfl (OT.storeL tab 1 rfl rfl rfl rfl rfl rfl rfl rfl ?_) | refine TO.step rfl (OT.storeL0 tab 1 rfl rfl rfl rfl rfl rfl rfl rfl ?_) | refine TO.step rfl (OT.storeL tab 2 rfl rfl rfl rfl rfl rfl rfl rfl ?_) | refine TO.step rfl (OT.storeL0 tab 2 rfl rfl rfl rfl rfl rfl rfl rfl ?_) | refine TO.step rfl (OT.storeL tab 3 rfl rfl rfl rfl rfl rfl rfl rfl ?_) | refine TO.step rfl (OT.storeL0 tab 3 rfl rfl rfl rfl rfl rfl rfl rfl ?_) | refine TO.step rfl (OT.storeL tab 4 rfl rfl rfl rfl rfl rfl rfl rfl ?_) | refine TO.step rfl (OT.storeL0 tab 4 rfl rfl rfl rfl rfl rfl rfl rfl ?_) | refine TO.step rfl (OT.storeL tab 5 rfl rfl rfl rfl rfl rfl rfl rfl ?_) | refine TO.step rfl (OT.storeL0 tab 5 rfl rfl rfl rfl rfl rfl rfl rfl ?_))
      repeat (first | (first|refine q1 ?_|refine q2 ?_|refine q3 ?_|refine q4 tab rfl rfl ?_|refine q5 ?_|refine q6 ?_|refine q7 ?_|refine q8 ?_|refine q9 ?_|refine q10 ?_|refine q11 ?_|refine q12 rfl ?_|refine q13 ?_|refine q14 ?_|refine q15 ?_|refine q16 rfl ?_|refine q17 rfl ?_) | (first | refine qs rfl (ql tab 0 rfl rfl rfl rfl rfl rfl ?_) | refine qs rfl (qz tab 0 rfl rfl rfl rfl rfl rfl ?_) | refine qs rfl (ql tab 1 rfl rfl rfl rfl rfl rfl ?_) | refine qs rfl (qz tab 1 rfl rfl rfl rfl rfl rfl ?_) | refine qs rfl (ql tab 2 rfl rfl rfl rfl rfl rfl ?_) | refine qs rfl (qz tab 2 rfl rfl rfl rfl rfl rfl ?_) | refine qs rfl (ql tab 3 rfl rfl rfl rfl rfl rfl ?_) | refine qs rfl (qz tab 3 rfl rfl rfl rfl rfl rfl ?_) | refine qs rfl (ql tab 4 rfl rfl rfl rfl rfl rfl ?_) | refine qs rfl (qz tab 4 rfl rfl rfl rfl rfl rfl ?_) | refine qs rfl (ql tab 5 rfl rfl rfl rfl rfl rfl ?_) | refine qs rfl (qz tab 5 rfl rfl rfl rfl rfl rfl ?_)))
      refine TC.grow0 (size := 4) ?_
      refine TC.loopK (ι := Grow) [1, 2, 3, 40, 41] rfl (fun g => [(42, .int .i64 (g.k : Int))]) (fun g => g.m) (fun g => tok g.s 4 :: .cells b3 0 [.int .i64 5, strV [], .int .i64 u, g.s.v] :: .cells b2 0 (treeC ⟨0, [], 0, ⟨none, 0, 0⟩⟩) :: .cells b 0 (treeC ⟨11, n, u, s⟩) :: L) (fun g => g.k ≤ a.kids.length ∧ SlRep rTree g.m g.s ((a.kids.take g.k).map Tree.ofT) ∧ Own g.s ∧ m ≤ g.m) (fun g => a.kids.length - g.k) ⟨0, ⟨none, 0, 0⟩, m⟩ (by repeat (first | exact trivial | refine And.intro rfl ?_)) rfl (by repeat (first | exact List.Sublist.refl _ | exact List.sublist_append_left _ _ | refine List.Sublist.cons_cons _ ?_ | refine List.Sublist.cons _ ?_)) ⟨Nat.zero_le _, SlRep.nil _ _, Own.nil, Mem.le_refl _⟩ ?_
      rintro ⟨k, t, m1⟩ ⟨hk, ht, hown, hm1⟩
      simp only at hk ht hown hm1 ⊢
      have h41 := h4.mono hm1
      simp only at hl hsm
      repeat (first|refine q1 ?_|refine q2 ?_|refine q3 ?_|refine q4 tab rfl rfl ?_|refine q5 ?_|refine q6 ?_|refine q7 ?_|refine q8 ?_|refine q9 ?_|refine q10 ?_|refine q11 ?_|refine q12 rfl ?_|refine q13 ?_|refine q14 ?_|refine q15 ?_|refine q16 rfl ?_|refine q17 rfl ?_)
      refine TC.condP rfl (fun hlt' => ?_) (fun hlt' => ?_)
      · have hlt : k < a.kids.length := by omega
        have hx : a.kids[k]? = some a.kids[k] := by simp [hlt]
        have hmem := List.getElem_mem hlt
        repeat (first|refine q1 ?_|refine q2 ?_|refine q3 ?_|refine q4 tab rfl rfl ?_|refine q5 ?_|refine q6 ?_|refine q7 ?_|refine q8 ?_|refine q9 ?_|refine q10 ?_|refine q11 ?_|refine q12 rfl ?_|refine q13 ?_|refine q14 ?_|refine q15 ?_|refine q16 rfl ?_|refine q17 rfl ?_)
        refine TO.step rfl (OT.index tab rTree k h41 rfl rfl rfl rfl rfl (by first | rfl | omega) rfl hx ?_)
        rintro b' i' h' hrd hA
        (first | refine TO.step rfl (OT.loadA tab hA rfl rfl rfl rfl rfl ?_) | refine TO.step rfl (OT.loadA0 tab hA rfl rfl rfl rfl rfl ?_))
        repeat (first|refine q1 ?_|refine q2 ?_|refine q3 ?_|refine q4 tab rfl rfl ?_|refine q5 ?_|refine q6 ?_|refine q7 ?_|refine q8 ?_|refine q9 ?_|refine q10 ?_|refine q11 ?_|refine q12 rfl ?_|refine q13 ?_|refine q14 ?_|refine q15 ?_|refine q16 rfl ?_|refine q17 rfl ?_)
        refine TO.step rfl (OT.alloc tab rfl rfl rfl rfl (fun b5 => ?_))
        repeat (first|refine q1 ?_|refine q2 ?_|refine q3 ?_|refine q4 tab rfl rfl ?_|refine q5 ?_|refine q6 ?_|refine q7 ?_|refine q8 ?_|refine q9 ?_|refine q10 ?_|refine q11 ?_|refine q12 rfl ?_|refine q13 ?_|refine q14 ?_|refine q15 ?_|refine q16 rfl ?_|refine q17 rfl ?_)
        (first | refine TO.step rfl (OT.storeL tab 0 rfl rfl rfl rfl rfl rfl rfl rfl ?_) | refine TO.step rfl (OT.storeL0 tab 0 rfl rfl rfl rfl rfl rfl rfl rfl ?_) | refine TO.step rfl (OT.storeL tab 1 rfl rfl rfl rfl rfl rfl rfl rfl ?_) | refine TO.step rfl (OT.storeL0 tab 1 rfl rfl rfl rfl rfl rfl rfl rfl ?_) | refine TO.step rfl (OT.storeL tab 2 rfl rfl rfl rfl rfl rfl rfl rfl ?_) | refine TO.step rfl (OT.storeL0 tab 2 rfl rfl rfl rfl rfl rfl rfl rfl ?_) | refine TO.step rfl (OT.storeL tab 3 rfl rfl rfl rfl rfl rfl rfl rfl ?_) | refine TO.step rfl (OT.storeL0 tab 3 rfl rfl rfl rfl rfl rfl rfl rfl ?_) | refine TO.step rfl (OT.storeL tab 4 rfl rfl rfl rfl rfl rfl rfl rfl ?_) | refine TO.step rfl (OT.storeL0 tab 4 rfl rfl rfl rfl rfl rfl rfl rfl ?_) | refine TO.step rfl (OT.storeL tab 5 rfl rfl rfl rfl rfl rfl rfl rfl ?_) | refine TO.step rfl (OT.storeL0 tab 5 rfl rfl rfl rfl rfl rfl rfl rfl ?_))
        repeat (first|refine q1 ?_|refine q2 ?_|refine q3 ?_|refine q4 tab rfl rfl ?_|refine q5 ?_|refine q6 ?_|refine q7 ?_|refine q8 ?_|refine q9 ?_|refine q10 ?_|refine q11 ?_|refine q12 rfl ?_|refine q13 ?_|refine q14 ?_|refine q15 ?_|refine q16 rfl ?_|refine q17 rfl ?_)
        generalize hcx : a.kids[k] = c at *
        refine TC.perm (List.Perm.swap _ _ _) ?_
        refine TC.draw [7] mixed 8 rfl (_::_::_::_::L) [tok t 4] perm_last ?_
        refine DO.pure tab (by repeat (first | exact Calm.ret | refine Calm.then ?_ | refine Calm.block ?_ | assumption)) (by kernel_rfl) [0] (by kernel_rfl) rfl ?_
        (first | refine DO.loadL tab 1 0 (by repeat (first | exact Calm.ret | refine Calm.then ?_ | refine Calm.block ?_ | assumption)) (by kernel_rfl) (by kernel_rfl) rfl rfl rfl rfl rfl rfl rfl rfl ?_ | refine DO.loadL tab 1 1 (by repeat (first | exact Calm.ret | refine Calm.then ?_ | refine Calm.block ?_ | assumption)) (by kernel_rfl) (by kernel_rfl) rfl rfl rfl rfl rfl rfl rfl rfl ?_ | refine DO.loadL tab 1 2 (by repeat (first | exact Calm.ret | refine Calm.then ?_ | refine Calm.block ?_ | assumption)) (by kernel_rfl) (by kernel_rfl) rfl rfl rfl rfl rfl rfl rfl rfl ?_ | refine DO.loadL tab 1 3 (by repeat (first | exact Calm.ret | refine Calm.then ?_ | refine Calm.block ?_ | assumption)) (by kernel_rfl) (by kernel_rfl) rfl rfl rfl rfl rfl rfl rfl rfl ?_ | refine DO.loadL (k := 0) tab 1 0 (by repeat (first | exact Calm.ret | refine Calm.then ?_ | refine Calm.block ?_ | assumption)) (by kernel_rfl) (by kernel_rfl) rfl rfl rfl rfl rfl rfl rfl rfl ?_ | refine DO.loadL (k := 0) tab 1 1 (by repeat (first | exact Calm.ret | refine Calm.then ?_ | refine Calm.block ?_ | assumption)) (by kernel_rfl) (by kernel_rfl) rfl rfl rfl rfl rfl rfl rfl rfl ?_ | refine DO.loadL (k := 0) tab 1 2 (by repeat (first | exact Calm.ret | refine Calm.then ?_ | refine Calm.block ?_ | assumption)) (by kernel_rfl) (by kernel_rfl) rfl rfl rfl rfl rfl rfl rfl rfl ?_ | refine DO.loadL (k := 0) tab 1 3 (by repeat (first | exact Calm.ret | refine Calm.then ?_ | refine Calm.block ?_ | assumption)) (by kernel_rfl) (by kernel_rfl) rfl rfl rfl rfl rfl rfl rfl rfl ?_)
        (first | refine DO.loadL tab 2 0 (by repeat (first | exact Calm.ret | refine Calm.then ?_ | refine Calm.block ?_ | assumption)) (by kernel_rfl) (by kernel_rfl) rfl rfl rfl rfl rfl rfl rfl rfl ?_ | refine DO.loadL tab 2 1 (by repeat (first | exact Calm.ret | refine Calm.then ?_ | refine Calm.block ?_ | assumption)) (by kernel_rfl) (by kernel_rfl) rfl rfl rfl rfl rfl rfl rfl rfl ?_ | refine DO.loadL tab 2 2 (by repeat (first | exact Calm.ret | refine Calm.then ?_ | refine Calm.block ?_ | assumption)) (by kernel_rfl) (by kernel_rfl) rfl rfl rfl rfl rfl rfl rfl rfl ?_ | refine DO.loadL tab 2 3 (by repeat (first | exact Calm.ret | refine Calm.then ?_ | refine Calm.block ?_ | assumption)) (by kernel_rfl) (by kernel_rfl) rfl rfl rfl rfl rfl rfl rfl rfl ?_ | refine DO.loadL (k := 0) tab 2 0 (by repeat (first | exact Calm.ret | refine Calm.then ?_ | refine Calm.block ?_ | assumption)) (by kernel_rfl) (by kernel_rfl) rfl rfl rfl rfl rfl rfl rfl rfl ?_ | refine DO.loadL (k := 0) tab 2 1 (by repeat (first | exact Calm.ret | refine Calm.then ?_ | refine Calm.block ?_ | assumption)) (by kernel_rfl) (by kernel_rfl) rfl rfl rfl rfl rfl rfl rfl rfl ?_ | refine DO.loadL (k := 0) tab 2 2 (by repeat (first | exact Calm.ret | refine Calm.then ?_ | refine Calm.block ?_ | assumption)) (by kernel_rfl) (by kernel_rfl) rfl rfl rfl rfl rfl rfl rfl rfl ?_ | refine DO.loadL (k := 0) tab 2 3 (by repeat (first | exact Calm.ret | refine Calm.then ?_ | refine Calm.block ?_ | assumption)) (by kernel_rfl) (by kernel_rfl) rfl rfl rfl rfl rfl rfl rfl rfl ?_)
        refine DO.run 3 rfl rfl (by kernel_rfl) rfl (OT.call rfl rfl rfl rfl rfl rfl goes36 ((ih c hmem (hkn c hmem) _ _ h' (rTree_iff.1 hrd) (Nat.le_trans (Nat.le_of_lt (bulk_kid hmem)) hB)).x ?_))
        rintro _ m2 _ ⟨hm2, rfl, ht2, rfl, hrt⟩; refine ⟨hm2, _, List.Perm.refl _, ?_⟩
        refine DO.run 4 rfl rfl (by kernel_rfl) rfl ?_
        refine OT.lit tab rfl rfl rfl rfl (fun bl => ?_); refine ⟨Mem.le_refl _, _, perm_mid, ?_⟩
        refine DO.run 5 rfl rfl (by kernel_rfl) rfl ?_
        refine OT.perm List.perm_append_comm (OT.append1 tab rTree 0 (hd' := ht2) (a := c.ofT) (ht.mono hm2) hown (rTree_iff.2 hrt) rfl rfl rfl rfl rfl rfl rfl (by simp only [rTree, mkR, List.length_map, List.length_take]; omega) (fun t' m3 hm3 ht' hown' => ?_)); refine ⟨hm3, _, perm_last, ?_⟩
        refine DO.pure tab (by repeat (first | exact Calm.ret | refine Calm.then ?_ | refine Calm.block ?_ | assumption)) (by kernel_rfl) [6] (by kernel_rfl) rfl ?_
        refine DO.tail ?_
        refine DOt.run 7 rfl rfl (by kernel_rfl) rfl ?_
        refine OT.storeL tab 1 rfl rfl rfl rfl rfl rfl rfl rfl ?_
        refine DOt.nil (by kernel_rfl) ?_
        rotate_left 1
        repeat (first|refine q1 ?_|refine q2 ?_|refine q3 ?_|refine q4 tab rfl rfl ?_|refine q5 ?_|refine q6 ?_|refine q7 ?_|refine q8 ?_|refine q9 ?_|refine q10 ?_|refine q11 ?_|refine q12 rfl ?_|refine q13 ?_|refine q14 ?_|refine q15 ?_|refine q16 rfl ?_|refine q17 rfl ?_)
        refine TO.perm perm_f4 ?_
        refine TO.step rfl (OT.arith (r' := ((k + 1 : Nat) : Int)) rfl rfl rfl rfl rfl rfl rfl (by omega) ?_)
        repeat (first|refine q1 ?_|refine q2 ?_|refine q3 ?_|refine q4 tab rfl rfl ?_|refine q5 ?_|refine q6 ?_|refine q7 ?_|refine q8 ?_|refine q9 ?_|refine q10 ?_|refine q11 ?_|refine q12 rfl ?_|refine q13 ?_|refine q14 ?_|refine q15 ?_|refine q16 rfl ?_|refine q17 rfl ?_)
        refine ⟨⟨k + 1, t', m3⟩, (by repeat (first | exact trivial | refine And.intro rfl ?_)), (by repeat (first | exact trivial | refine And.intro rfl ?_)), rfl, rfl, (by repeat (first | exact List.Sublist.refl _ | exact List.sublist_append_left _ _ | refine List.Sublist.cons_cons _ ?_ | refine List.Sublist.cons _ ?_)), ⟨by simp only; omega, ?_, hown', Mem.le_trans hm1 (Mem.le_trans hm2 hm3)⟩, by simp only; omega⟩
        simp only
        rw [List.take_succ_eq_append_getElem hlt, hcx, List.map_append]
        exact ht'
      · repeat (first | (first|refine q1 ?_|refine q2 ?_|refine q3 ?_|refine q4 tab rfl rfl ?_|refine q5 ?_|refine q6 ?_|refine q7 ?_|refine q8 ?_|refine q9 ?_|refine q10 ?_|refine q11 ?_|refine q12 rfl ?_|refine q13 ?_|refine q14 ?_|refine q15 ?_|refine q16 rfl ?_|refine q17 rfl ?_) | (first | refine qs rfl (ql tab 0 rfl rfl rfl rfl rfl rfl ?_) | refine qs rfl (qz tab 0 rfl rfl rfl rfl rfl rfl ?_) | refine qs rfl (ql tab 1 rfl rfl rfl rfl rfl rfl ?_) | refine qs rfl (qz tab 1 rfl rfl rfl rfl rfl rfl ?_) | refine qs rfl (ql tab 2 rfl rfl rfl rfl rfl rfl ?_) | refine qs rfl (qz tab 2 rfl rfl rfl rfl rfl rfl ?_) | refine qs rfl (ql tab 3 rfl rfl rfl rfl rfl rfl ?_) | refine qs rfl (qz tab 3 rfl rfl rfl rfl rfl rfl ?_) | refine qs rfl (ql tab 4 rfl rfl rfl rfl rfl rfl ?_) | refine qs rfl (qz tab 4 rfl rfl rfl rfl rfl rfl ?_) | refine qs rfl (ql tab 5 rfl rfl rfl rfl rfl rfl ?_) | refine qs rfl (qz tab 5 rfl rfl rfl rfl rfl rfl ?_)))
        (first | refine TO.step rfl (OT.storeL tab 0 rfl rfl rfl rfl rfl rfl rfl rfl ?_) | refine TO.step rfl (OT.storeL0 tab 0 rfl rfl rfl rfl rfl rfl rfl rfl ?_) | refine TO.step rfl (OT.storeL tab 1 rfl rfl rfl rfl rfl rfl rfl rfl ?_) | refine TO.step rfl (OT.storeL0 tab 1 rfl rfl rfl rfl rfl rfl rfl rfl ?_) | refine TO.step rfl (OT.storeL tab 2 rfl rfl rfl rfl rfl rfl rfl rfl ?_) | refine TO.step rfl (OT.storeL0 tab 2 rfl rfl rfl rfl rfl rfl rfl rfl ?_) | refine TO.step rfl (OT.storeL tab 3 rfl rfl rfl rfl rfl rfl rfl rfl ?_) | refine TO.step rfl (OT.storeL0 tab 3 rfl rfl rfl rfl rfl rfl rfl rfl ?_) | refine TO.step rfl (OT.storeL tab 4 rfl rfl rfl rfl rfl rfl rfl rfl ?_) | refine TO.step rfl (OT.storeL0 tab 4 rfl rfl rfl rfl rfl rfl rfl rfl ?_) | refine TO.step rfl (OT.storeL tab 5 rfl rfl rfl rfl rfl rfl rfl rfl ?_) | refine TO.step rfl (OT.storeL0 tab 5 rfl rfl rfl rfl rfl rfl rfl rfl ?_))
        repeat (first|refine q1 ?_|refine q2 ?_|refine q3 ?_|refine q4 tab rfl rfl ?_|refine q5 ?_|refine q6 ?_|refine q7 ?_|refine q8 ?_|refine q9 ?_|refine q10 ?_|refine q11 ?_|refine q12 rfl ?_|refine q13 ?_|refine q14 ?_|refine q15 ?_|refine q16 rfl ?_|refine q17 rfl ?_)
        refine retQ_ret_c1 tab 2 rfl rfl rfl rfl (by repeat (first | exact List.Sublist.refl _ | exact List.sublist_append_left _ _ | refine List.Sublist.cons_cons _ ?_ | refine List.Sublist.cons _ ?_)) ⟨hm1, rfl, ⟨_, [], u, t⟩, rfl, rfl, rfl, h3, ?_⟩
        rw [List.take_of_length_le (by omega)] at ht
        exact ht
    · simp only at h12
      subst h12
      rw [if_neg (show ¬ a.kind = 11 from fun e => by rw [e] at h1; cases h1), if_pos (show a.kind = 12 from h1.symm)]
      repeat (first|refine q1 ?_|refine q2 ?_|refine q3 ?_|refine q4 tab rfl rfl ?_|refine q5 ?_|refine q6 ?_|refine q7 ?_|refine q8 ?_|refine q9 ?_|refine q10 ?_|refine q11 ?_|refine q12 rfl ?_|refine q13 ?_|refine q14 ?_|refine q15 ?_|refine q16 rfl ?_|refine q17 rfl ?_)
      refine TO.step rfl (OT.box rfl rfl rfl rfl rfl (fun b => ?_))
      repeat (first|refine q1 ?_|refine q2 ?_|refine q3 ?_|refine q4 tab rfl rfl ?_|refine q5 ?_|refine q6 ?_|refine q7 ?_|refine q8 ?_|refine q9 ?_|refine q10 ?_|refine q11 ?_|refine q12 rfl ?_|refine q13 ?_|refine q14 ?_|refine q15 ?_|refine q16 rfl ?_|refine q17 rfl ?_)
      refine TO.step rfl (OT.alloc tab rfl rfl rfl rfl (fun b2 => ?_))
      repeat (first | (first|refine q1 ?_|refine q2 ?_|refine q3 ?_|refine q4 tab rfl rfl ?_|refine q5 ?_|refine q6 ?_|refine q7 ?_|refine q8 ?_|refine q9 ?_|refine q10 ?_|refine q11 ?_|refine q12 rfl ?_|refine q13 ?_|refine q14 ?_|refine q15 ?_|refine q16 rfl ?_|refine q17 rfl ?_) | (first | refine qs rfl (ql tab 0 rfl rfl rfl rfl rfl rfl ?_) | refine qs rfl (qz tab 0 rfl rfl rfl rfl rfl rfl ?_) | refine qs rfl (ql tab 1 rfl rfl rfl rfl rfl rfl ?_) | refine qs rfl (qz tab 1 rfl rfl rfl rfl rfl rfl ?_) | refine qs rfl (ql tab 2 rfl rfl rfl rfl rfl rfl ?_) | refine qs rfl (qz tab 2 rfl rfl rfl rfl rfl rfl ?_) | refine qs rfl (ql tab 3 rfl rfl rfl rfl rfl rfl ?_) | refine qs rfl (qz tab 3 rfl rfl rfl rfl rfl rfl ?_) | refine qs rfl (ql tab 4 rfl rfl rfl rfl rfl rfl ?_) | refine qs rfl (qz tab 4 rfl rfl rfl rfl rfl rfl ?_) | refine qs rfl (ql tab 5 rfl rfl rfl rfl rfl rfl ?_) | refine qs rfl (qz tab 5 rfl rfl rfl rfl rfl rfl ?_)))
      refine TO.step rfl (OT.alloc tab rfl rfl rfl rfl (fun b3 => ?_))
      repeat (first|refine q1 ?_|refine q2 ?_|refine q3 ?_|refine q4 tab rfl rfl ?_|refine q5 ?_|refine q6 ?_|refine q7 ?_|refine q8 ?_|refine q9 ?_|refine q10 ?_|refine q11 ?_|refine q12 rfl ?_|refine q13 ?_|refine q14 ?_|refine q15 ?_|refine q16 rfl ?_|refine q17 rfl ?_)
      (first | refine TO.step rfl (OT.storeL tab 0 rfl rfl rfl rfl rfl rfl rfl rfl ?_) | refine TO.step rfl (OT.storeL0 tab 0 rfl rfl rfl rfl rfl rfl rfl rfl ?_) | refine TO.step rfl (OT.storeL tab 1 rfl rfl rfl rfl rfl rfl rfl rfl ?_) | refine TO.step rfl (OT.storeL0 tab 1 rfl rfl rfl rfl rfl rfl rfl rfl ?_) | refine TO.step rfl (OT.storeL tab 2 rfl rfl rfl rfl rfl rfl rfl rfl ?_) | refine TO.step rfl (OT.storeL0 tab 2 rfl rfl rfl rfl rfl rfl rfl rfl ?_) | refine TO.step rfl (OT.storeL tab 3 rfl rfl rfl rfl rfl rfl rfl rfl ?_) | refine TO.step rfl (OT.storeL0 tab 3 rfl rfl rfl rfl rfl rfl rfl rfl ?_) | refine TO.step rfl (OT.storeL tab 4 rfl rfl rfl rfl rfl rfl rfl rfl ?_) | refine TO.step rfl (OT.storeL0 tab 4 rfl rfl rfl rfl rfl rfl rfl rfl ?_) | refine TO.step rfl (OT.storeL tab 5 rfl rfl rfl rfl rfl rfl rfl rfl ?_) | refine TO.step rfl (OT.storeL0 tab 5 rfl rfl rfl rfl rfl rfl rfl rfl ?_))
      repeat (first | (first|refine q1 ?_|refine q2 ?_|refine q3 ?_|refine q4 tab rfl rfl ?_|refine q5 ?_|refine q6 ?_|refine q7 ?_|refine q8 ?_|refine q9 ?_|refine q10 ?_|refine q11 ?_|refine q12 rfl ?_|refine q13 ?_|refine q14 ?_|refine q15 ?_|refine q16 rfl ?_|refine q17 rfl ?_) | (first | refine qs rfl (ql tab 0 rfl rfl rfl rfl rfl rfl ?_) | refine qs rfl (qz tab 0 rfl rfl rfl rfl rfl rfl ?_) | refine qs rfl (ql tab 1 rfl rfl rfl rfl rfl rfl ?_) | refine qs rfl (qz tab 1 rfl rfl rfl rfl rfl rfl ?_) | refine qs rfl (ql tab 2 rfl rfl rfl rfl rfl rfl ?_) | refine qs rfl (qz tab 2 rfl rfl rfl rfl rfl rfl ?_) | refine qs rfl (ql tab 3 rfl rfl rfl rfl rfl rfl ?_) | refine qs rfl (qz tab 3 rfl rfl rfl rfl rfl rfl ?_) | refine qs rfl (ql tab 4 rfl rfl rfl rfl rfl rfl ?_) | refine qs rfl (qz tab 4 rfl rfl rfl rfl rfl rfl ?_) | refine qs rfl (ql tab 5 rfl rfl rfl rfl rfl rfl ?_) | refine qs rfl (qz tab 5 rfl rfl rfl rfl rfl rfl ?_)))
      (first | refine TO.step rfl (OT.storeL tab 0 rfl rfl rfl rfl rfl rfl rfl rfl ?_) | refine TO.step rfl (OT.storeL0 tab 0 rfl rfl rfl rfl rfl rfl rfl rfl ?_) | refine TO.step rfl (OT.storeL tab 1 rfl rfl rfl rfl rfl rfl rfl rfl ?_) | refine TO.step rfl (OT.storeL0 tab 1 rfl rfl rfl rfl rfl rfl rfl rfl ?_) | refine TO.step rfl (OT.storeL tab 2 rfl rfl rfl rfl rfl rfl rfl rfl ?_) | refine TO.step rfl (OT.storeL0 tab 2 rfl rfl rfl rfl rfl rfl rfl rfl ?_) | refine TO.step rfl (OT.storeL tab 3 rfl rfl rfl rfl rfl rfl rfl rfl ?_) | refine TO.step rfl (OT.storeL0 tab 3 rfl rfl rfl rfl rfl rfl rfl rfl ?_) | refine TO.step rfl (OT.storeL tab 4 rfl rfl rfl rfl rfl rfl rfl rfl ?_) | refine TO.step rfl (OT.storeL0 tab 4 rfl rfl rfl rfl rfl rfl rfl rfl ?_) | refine TO.step rfl (OT.storeL tab 5 rfl rfl rfl rfl rfl rfl rfl rfl ?_) | refine TO.step rfl (OT.storeL0 tab 5 rfl rfl rfl rfl rfl rfl rfl rfl ?_))
      repeat (first | (first|refine q1 ?_|refine q2 ?_|refine q3 ?_|refine q4 tab rfl rfl ?_|refine q5 ?_|refine q6 ?_|refine q7 ?_|refine q8 ?_|refine q9 ?_|refine q10 ?_|refine q11 ?_|refine q12 rfl ?_|refine q13 ?_|refine q14 ?_|refine q15 ?_|refine q16 rfl ?_|refine q17 rfl ?_) | (first | refine qs rfl (ql tab 0 rfl rfl rfl rfl rfl rfl ?_) | refine qs rfl (qz tab 0 rfl rfl rfl rfl rfl rfl ?_) | refine qs rfl (ql tab 1 rfl rfl rfl rfl rfl rfl ?_) | refine qs rfl (qz tab 1 rfl rfl rfl rfl rfl rfl ?_) | refine qs rfl (ql tab 2 rfl rfl rfl rfl rfl rfl ?_) | refine qs rfl (qz tab 2 rfl rfl rfl rfl rfl rfl ?_) | refine qs rfl (ql tab 3 rfl rfl rfl rfl rfl rfl ?_) | refine qs rfl (qz tab 3 rfl rfl rfl rfl rfl rfl ?_) | refine qs rfl (ql tab 4 rfl rfl rfl rfl rfl rfl ?_) | refine qs rfl (qz tab 4 rfl rfl rfl rfl rfl rfl ?_) | refine qs rfl (ql tab 5 rfl rfl rfl rfl rfl rfl ?_) | refine qs rfl (qz tab 5 rfl rfl rfl rfl rfl rfl ?_)))
      refine TC.grow0 (size := 4) ?_
      refine TC.loopK (ι := Grow) [1, 2, 3, 40, 41] rfl (fun g => [(42, .int .i64 (g.k : Int))]) (fun g => g.m) (fun g => tok g.s 4 :: .cells b3 0 [.int .i64 6, strV [], .int .i64 u, g.s.v] :: .cells b2 0 (treeC ⟨0, [], 0, ⟨none, 0, 0⟩⟩) :: .cells b 0 (treeC ⟨12, n, u, s⟩) :: L) (fun g => g.k ≤ a.kids.length ∧ SlRep rTree g.m g.s ((a.kids.take g.k).map Tree.ofT) ∧ Own g.s ∧ m ≤ g.m) (fun g => a.kids.length - g.k) ⟨0, ⟨none, 0, 0⟩, m⟩ (by repeat (first | exact trivial | refine And.intro rfl ?_)) rfl (by repeat (first | exact List.Sublist.refl _ | exact List.sublist_append_left _ _ | refine List.Sublist.cons_cons _ ?_ | refine List.Sublist.cons _ ?_)) ⟨Nat.zero_le _, SlRep.nil _ _, Own.nil, Mem.le_refl _⟩ ?_
      rintro ⟨k, t, m1⟩ ⟨hk, ht, hown, hm1⟩
      simp only at hk ht hown hm1 ⊢
      have h41 := h4.mono hm1
      simp only at hl hsm
      repeat (first|refine q1 ?_|refine q2 ?_|refine q3 ?_|refine q4 tab rfl rfl ?_|refine q5 ?_|refine q6 ?_|refine q7 ?_|refine q8 ?_|refine q9 ?_|refine q10 ?_|refine q11 ?_|refine q12 rfl ?_|refine q13 ?_|refine q14 ?_|refine q15 ?_|refine q16 rfl ?_|refine q17 rfl ?_)
      refine TC.condP rfl (fun hlt' => ?_) (fun hlt' => ?_)
      · have hlt : k < a.kids.length := by omega
        have hx : a.kids[k]? = some a.kids[k] := by simp [hlt]
        have hmem := List.getElem_mem hlt
        repeat (first|refine q1 ?_|refine q2 ?_|refine q3 ?_|refine q4 tab rfl rfl ?_|refine q5 ?_|refine q6 ?_|refine q7 ?_|refine q8 ?_|refine q9 ?_|refine q10 ?_|refine q11 ?_|refine q12 rfl ?_|refine q13 ?_|refine q14 ?_|refine q15 ?_|refine q16 rfl ?_|refine q17 rfl ?_)
        refine TO.step rfl (OT.index tab rTree k h41 rfl rfl rfl rfl rfl (by first | rfl | omega) rfl hx ?_)
        rintro b' i' h' hrd hA
        (first | refine TO.step rfl (OT.loadA tab hA rfl rfl rfl rfl rfl ?_) | refine TO.step rfl (OT.loadA0 tab hA rfl rfl rfl rfl rfl ?_))
        repeat (first|refine q1 ?_|refine q2 ?_|refine q3 ?_|refine q4 tab rfl rfl ?_|refine q5 ?_|refine q6 ?_|refine q7 ?_|refine q8 ?_|refine q9 ?_|refine q10 ?_|refine q11 ?_|refine q12 rfl ?_|refine q13 ?_|refine q14 ?_|refine q15 ?_|refine q16 rfl ?_|refine q17 rfl ?_)
        refine TO.step rfl (OT.alloc tab rfl rfl rfl rfl (fun b5 => ?_))
        repeat (first|refine q1 ?_|refine q2 ?_|refine q3 ?_|refine q4 tab rfl rfl ?_|refine q5 ?_|refine q6 ?_|refine q7 ?_|refine q8 ?_|refine q9 ?_|refine q10 ?_|refine q11 ?_|refine q12 rfl ?_|refine q13 ?_|refine q14 ?_|refine q15 ?_|refine q16 rfl ?_|refine q17 rfl ?_)
        (first | refine TO.step rfl (OT.storeL tab 0 rfl rfl rfl rfl rfl rfl rfl rfl ?_) | refine TO.step rfl (OT.storeL0 tab 0 rfl rfl rfl rfl rfl rfl rfl rfl ?_) | refine TO.step rfl (OT.storeL tab 1 rfl rfl rfl rfl rfl rfl rfl rfl ?_) | refine TO.step rfl (OT.storeL0 tab 1 rfl rfl rfl rfl rfl rfl rfl rfl ?_) | refine TO.step rfl (OT.storeL tab 2 rfl rfl rfl rfl rfl rfl rfl rfl ?_) | refine TO.step rfl (OT.storeL0 tab 2 rfl rfl rfl rfl rfl rfl rfl rfl ?_) | refine TO.step rfl (OT.storeL tab 3 rfl rfl rfl rfl rfl rfl rfl rfl ?_) | refine TO.step rfl (OT.storeL0 tab 3 rfl rfl rfl rfl rfl rfl rfl rfl ?_) | refine TO.step rfl (OT.storeL tab 4 rfl rfl rfl rfl rfl rfl rfl rfl ?_) | refine TO.step rfl (OT.storeL0 tab 4 rfl rfl rfl rfl rfl rfl rfl rfl ?_) | refine TO.step rfl (OT.storeL tab 5 rfl rfl rfl rfl rfl rfl rfl rfl ?_) | refine TO.step rfl (OT.storeL0 tab 5 rfl rfl rfl rfl rfl rfl rfl rfl ?_))
        repeat (first|refine q1 ?_|refine q2 ?_|refine q3 ?_|refine q4 tab rfl rfl ?_|refine q5 ?_|refine q6 ?_|refine q7 ?_|refine q8 ?_|refine q9 ?_|refine q10 ?_|refine q11 ?_|refine q12 rfl ?_|refine q13 ?_|refine q14 ?_|refine q15 ?_|refine q16 rfl ?_|refine q17 rfl ?_)
        generalize hcx : a.kids[k] = c at *
        refine TC.perm (List.Perm.swap _ _ _) ?_
        refine TC.draw [7] mixed 8 rfl (_::_::_::_::L) [tok t 4] perm_last ?_
        refine DO.pure tab (by repeat (first | exact Calm.ret | refine Calm.then ?_ | refine Calm.block ?_ | assumption)) (by kernel_rfl) [0] (by kernel_rfl) rfl ?_
        (first | refine DO.loadL tab 1 0 (by repeat (first | exact Calm.ret | refine Calm.then ?_ | refine Calm.block ?_ | assumption)) (by kernel_rfl) (by kernel_rfl) rfl rfl rfl rfl rfl rfl rfl rfl ?_ | refine DO.loadL tab 1 1 (by repeat (first | exact Calm.ret | refine Calm.then ?_ | refine Calm.block ?_ | assumption)) (by kernel_rfl) (by kernel_rfl) rfl rfl rfl rfl rfl rfl rfl rfl ?_ | refine DO.loadL tab 1 2 (by repeat (first | exact Calm.ret | refine Calm.then ?_ | refine Calm.block ?_ | assumption)) (by kernel_rfl) (by kernel_rfl) rfl rfl rfl rfl rfl rfl rfl rfl ?_ | refine DO.loadL tab 1 3 (by repeat (first | exact Calm.ret | refine Calm.then ?_ | refine Calm.block ?_ | assumption)) (by kernel_rfl) (by kernel_rfl) rfl rfl rfl rfl rfl rfl rfl rfl ?_ | refine DO.loadL (k := 0) tab 1 0 (by repeat (first | exact Calm.ret | refine Calm.then ?_ | refine Calm.block ?_ | assumption)) (by kernel_rfl) (by kernel_rfl) rfl rfl rfl rfl rfl rfl rfl rfl ?_ | refine DO.loadL (k := 0) tab 1 1 (by repeat (first | exact Calm.ret | refine Calm.then ?_ | refine Calm.block ?_ | assumption)) (by kernel_rfl) (by kernel_rfl) rfl rfl rfl rfl rfl rfl rfl rfl ?_ | refine DO.loadL (k := 0) tab 1 2 (by repeat (first | exact Calm.ret | refine Calm.then ?_ | refine Calm.block ?_ | assumption)) (by kernel_rfl) (by kernel_rfl) rfl rfl rfl rfl rfl rfl rfl rfl ?_ | refine DO.loadL (k := 0) tab 1 3 (by repeat (first | exact Calm.ret | refine Calm.then ?_ | refine Calm.block ?_ | assumption)) (by kernel_rfl) (by kernel_rfl) rfl rfl rfl rfl rfl rfl rfl rfl ?_)
        (first | refine DO.loadL tab 2 0 (by repeat (first | exact Calm.ret | refine Calm.then ?_ | refine Calm.block ?_ | assumption)) (by kernel_rfl) (by kernel_rfl) rfl rfl rfl rfl rfl rfl rfl rfl ?_ | refine DO.loadL tab 2 1 (by repeat (first | exact Calm.ret | refine Calm.then ?_ | refine Calm.block ?_ | assumption)) (by kernel_rfl) (by kernel_rfl) rfl rfl rfl rfl rfl rfl rfl rfl ?_ | refine DO.loadL tab 2 2 (by repeat (first | exact Calm.ret | refine Calm.then ?_ | refine Calm.block ?_ | assumption)) (by kernel_rfl) (by kernel_rfl) rfl rfl rfl rfl rfl rfl rfl rfl ?_ | refine DO.loadL tab 2 3 (by repeat (first | exact Calm.ret | refine Calm.then ?_ | refine Calm.block ?_ | assumption)) (by kernel_rfl) (by kernel_rfl) rfl rfl rfl rfl rfl rfl rfl rfl ?_ | refine DO.loadL (k := 0) tab 2 0 (by repeat (first | exact Calm.ret | refine Calm.then ?_ | refine Calm.block ?_ | assumption)) (by kernel_rfl) (by kernel_rfl) rfl rfl rfl rfl rfl rfl rfl rfl ?_ | refine DO.loadL (k := 0) tab 2 1 (by repeat (first | exact Calm.ret | refine Calm.then ?_ | refine Calm.block ?_ | assumption)) (by kernel_rfl) (by kernel_rfl) rfl rfl rfl rfl rfl rfl rfl rfl ?_ | refine DO.loadL (k := 0) tab 2 2 (by repeat (first | exact Calm.ret | refine Calm.then ?_ | refine Calm.block ?_ | assumption)) (by kernel_rfl) (by kernel_rfl) rfl rfl rfl rfl rfl rfl rfl rfl ?_ | refine DO.loadL (k := 0) tab 2 3 (by repeat (first | exact Calm.ret | refine Calm.then ?_ | refine Calm.block ?_ | assumption)) (by kernel_rfl) (by kernel_rfl) rfl rfl rfl rfl rfl rfl rfl rfl ?_)
        refine DO.run 3 rfl rfl (by kernel_rfl) rfl (OT.call rfl rfl rfl rfl rfl rfl goes36 ((ih c hmem (hkn c hmem) _ _ h' (rTree_iff.1 hrd) (Nat.le_trans (Nat.le_of_lt (bulk_kid hmem)) hB)).x ?_))
        rintro _ m2 _ ⟨hm2, rfl, ht2, rfl, hrt⟩; refine ⟨hm2, _, List.Perm.refl _, ?_⟩
        refine DO.run 4 rfl rfl (by kernel_rfl) rfl ?_
        refine OT.lit tab rfl rfl rfl rfl (fun bl => ?_); refine ⟨Mem.le_refl _, _, perm_mid, ?_⟩
        refine DO.run 5 rfl rfl (by kernel_rfl) rfl ?_
        refine OT.perm List.perm_append_comm (OT.append1 tab rTree 0 (hd' := ht2) (a := c.ofT) (ht.mono hm2) hown (rTree_iff.2 hrt) rfl rfl rfl rfl rfl rfl rfl (by simp only [rTree, mkR, List.length_map, List.length_take]; omega) (fun t' m3 hm3 ht' hown' => ?_)); refine ⟨hm3, _, perm_last, ?_⟩
        refine DO.pure tab (by repeat (first | exact Calm.ret | refine Calm.then ?_ | refine Calm.block ?_ | assumption)) (by kernel_rfl) [6] (by kernel_rfl) rfl ?_
        refine DO.tail ?_
        refine DOt.run 7 rfl rfl (by kernel_rfl) rfl ?_
        refine OT.storeL tab 1 rfl rfl rfl rfl rfl rfl rfl rfl ?_
        refine DOt.nil (by kernel_rfl) ?_
        rotate_left 1
        repeat (first|refine q1 ?_|refine q2 ?_|refine q3 ?_|refine q4 tab rfl rfl ?_|refine q5 ?_|refine q6 ?_|refine q7 ?_|refine q8 ?_|refine q9 ?_|refine q10 ?_|refine q11 ?_|refine q12 rfl ?_|refine q13 ?_|refine q14 ?_|refine q15 ?_|refine q16 rfl ?_|refine q17 rfl ?_)
        refine TO.perm perm_f4 ?_
        refine TO.step rfl (OT.arith (r' := ((k + 1 : Nat) : Int)) rfl rfl rfl rfl rfl rfl rfl (by omega) ?_)
        repeat (first|refine q1 ?_|refine q2 ?_|refine q3 ?_|refine q4 tab rfl rfl ?_|refine q5 ?_|refine q6 ?_|refine q7 ?_|refine q8 ?_|refine q9 ?_|refine q10 ?_|refine q11 ?_|refine q12 rfl ?_|refine q13 ?_|refine q14 ?_|refine q15 ?_|refine q16 rfl ?_|refine q17 rfl ?_)
        refine ⟨⟨k + 1, t', m3⟩, (by repeat (first | exact trivial | refine And.intro rfl ?_)), (by repeat (first | exact trivial | refine And.intro rfl ?_)), rfl, rfl, (by repeat (first | exact List.Sublist.refl _ | exact List.sublist_append_left _ _ | refine List.Sublist.cons_cons _ ?_ | refine List.Sublist.cons _ ?_)), ⟨by simp only; omega, ?_, hown', Mem.le_trans hm1 (Mem.le_trans hm2 hm3)⟩, by simp only; omega⟩
        simp only
        rw [List.take_succ_eq_append_getElem hlt, hcx, List.map_append]
        exact ht'
      · repeat (first | (first|refine q1 ?_|refine q2 ?_|refine q3 ?_|refine q4 tab rfl rfl ?_|refine q5 ?_|refine q6 ?_|refine q7 ?_|refine q8 ?_|refine q9 ?_|refine q10 ?_|refine q11 ?_|refine q12 rfl ?_|refine q13 ?_|refine q14 ?_|refine q15 ?_|refine q16 rfl ?_|refine q17 rfl ?_) | (first | refine qs rfl (ql tab 0 rfl rfl rfl rfl rfl rfl ?_) | refine qs rfl (qz tab 0 rfl rfl rfl rfl rfl rfl ?_) | refine qs rfl (ql tab 1 rfl rfl rfl rfl rfl rfl ?_) | refine qs rfl (qz tab 1 rfl rfl rfl rfl rfl rfl ?_) | refine qs rfl (ql tab 2 rfl rfl rfl rfl rfl rfl ?_) | refine qs rfl (qz tab 2 rfl rfl rfl rfl rfl rfl ?_) | refine qs rfl (ql tab 3 rfl rfl rfl rfl rfl rfl ?_) | refine qs rfl (qz tab 3 rfl rfl rfl rfl rfl rfl ?_) | refine qs rfl (ql tab 4 rfl rfl rfl rfl rfl rfl ?_) | refine qs rfl (qz tab 4 rfl rfl rfl rfl rfl rfl ?_) | refine qs rfl (ql tab 5 rfl rfl rfl rfl rfl rfl ?_) | refine qs rfl (qz tab 5 rfl rfl rfl rfl rfl rfl ?_)))
        (first | refine TO.step rfl (OT.storeL tab 0 rfl rfl rfl rfl rfl rfl rfl rfl ?_) | refine TO.step rfl (OT.storeL0 tab 0 rfl rfl rfl rfl rfl rfl rfl rfl ?_) | refine TO.step rfl (OT.storeL tab 1 rfl rfl rfl rfl rfl rfl rfl rfl ?_) | refine TO.step rfl (OT.storeL0 tab 1 rfl rfl rfl rfl rfl rfl rfl rfl ?_) | refine TO.step rfl (OT.storeL tab 2 rfl rfl rfl rfl rfl rfl rfl rfl ?_) | refine TO.step rfl (OT.storeL0 tab 2 rfl rfl rfl rfl rfl rfl rfl rfl ?_) | refine TO.step rfl (OT.storeL tab 3 rfl rfl rfl rfl rfl rfl rfl rfl ?_) | refine TO.step rfl (OT.storeL0 tab 3 rfl rfl rfl rfl rfl rfl rfl rfl ?_) | refine TO.step rfl (OT.storeL tab 4 rfl rfl rfl rfl rfl rfl rfl rfl ?_) | refine TO.step rfl (OT.storeL0 tab 4 rfl rfl rfl rfl rfl rfl rfl rfl ?_) | refine TO.step rfl (OT.storeL tab 5 rfl rfl rfl rfl rfl rfl rfl rfl ?_) | refine TO.step rfl (OT.storeL0 tab 5 rfl rfl rfl rfl rfl rfl rfl rfl ?_))
        repeat (first|refine q1 ?_|refine q2 ?_|refine q3 ?_|refine q4 tab rfl rfl ?_|refine q5 ?_|refine q6 ?_|refine q7 ?_|refine q8 ?_|refine q9 ?_|refine q10 ?_|refine q11 ?_|refine q12 rfl ?_|refine q13 ?_|refine q14 ?_|refine q15 ?_|refine q16 rfl ?_|refine q17 rfl ?_)
        refine retQ_ret_c1 tab 2 rfl rfl rfl rfl (by repeat (first | exact List.Sublist.refl _ | exact List.sublist_append_left _ _ | refine List.Sublist.cons_cons _ ?_ | refine List.Sublist.cons _ ?_)) ⟨hm1, rfl, ⟨_, [], u, t⟩, rfl, rfl, rfl, h3, ?_⟩
        rw [List.take_of_length_le (by omega)] at ht
        exact ht
  · have h10 : ¬ a.kind = 10 := by omega
    have h8 : ¬ a.kind = 8 := by omega
    rw [if_neg h10, if_neg h8, if_neg (by omega), if_neg (by omega)]
    have h12 : h.kind = 13 ∨ h.kind = 7 := by rw [h1]; exact h13
    obtain ⟨k, n, u, s⟩ := h
    rcases h12 with h12 | h12
    · simp only at h12
      subst h12
      repeat (first|refine q1 ?_|refine q2 ?_|refine q3 ?_|refine q4 tab rfl rfl ?_|refine q5 ?_|refine q6 ?_|refine q7 ?_|refine q8 ?_|refine q9 ?_|refine q10 ?_|refine q11 ?_|refine q12 rfl ?_|refine q13 ?_|refine q14 ?_|refine q15 ?_|refine q16 rfl ?_|refine q17 rfl ?_)
      refine TO.step rfl (OT.box rfl rfl rfl rfl rfl (fun b => ?_))
      repeat (first|refine q1 ?_|refine q2 ?_|refine q3 ?_|refine q4 tab rfl rfl ?_|refine q5 ?_|refine q6 ?_|refine q7 ?_|refine q8 ?_|refine q9 ?_|refine q10 ?_|refine q11 ?_|refine q12 rfl ?_|refine q13 ?_|refine q14 ?_|refine q15 ?_|refine q16 rfl ?_|refine q17 rfl ?_)
      refine TO.step rfl (OT.alloc tab rfl rfl rfl rfl (fun b2 => ?_))
      repeat (first | (first|refine q1 ?_|refine q2 ?_|refine q3 ?_|refine q4 tab rfl rfl ?_|refine q5 ?_|refine q6 ?_|refine q7 ?_|refine q8 ?_|refine q9 ?_|refine q10 ?_|refine q11 ?_|refine q12 rfl ?_|refine q13 ?_|refine q14 ?_|refine q15 ?_|refine q16 rfl ?_|refine q17 rfl ?_) | (first | refine qs rfl (ql tab 0 rfl rfl rfl rfl rfl rfl ?_) | refine qs rfl (qz tab 0 rfl rfl rfl rfl rfl rfl ?_) | refine qs rfl (ql tab 1 rfl rfl rfl rfl rfl rfl ?_) | refine qs rfl (qz tab 1 rfl rfl rfl rfl rfl rfl ?_) | refine qs rfl (ql tab 2 rfl rfl rfl rfl rfl rfl ?_) | refine qs rfl (qz tab 2 rfl rfl rfl rfl rfl rfl ?_) | refine qs rfl (ql tab 3 rfl rfl rfl rfl rfl rfl ?_) | refine qs rfl (qz tab 3 rfl rfl rfl rfl rfl rfl ?_) | refine qs rfl (ql tab 4 rfl rfl rfl rfl rfl rfl ?_) | refine qs rfl (qz tab 4 rfl rfl rfl rfl rfl rfl ?_) | refine qs rfl (ql tab 5 rfl rfl rfl rfl rfl rfl ?_) | refine qs rfl (qz tab 5 rfl rfl rfl rfl rfl rfl ?_)))
      refine TO.step rfl (OT.alloc tab rfl rfl rfl rfl (fun b3 => ?_))
      repeat (first|refine q1 ?_|refine q2 ?_|refine q3 ?_|refine q4 tab rfl rfl ?_|refine q5 ?_|refine q6 ?_|refine q7 ?_|refine q8 ?_|refine q9 ?_|refine q10 ?_|refine q11 ?_|refine q12 rfl ?_|refine q13 ?_|refine q14 ?_|refine q15 ?_|refine q16 rfl ?_|refine q17 rfl ?_)
      (first | refine TO.step rfl (OT.storeL tab 0 rfl rfl rfl rfl rfl rfl rfl rfl ?_) | refine TO.step rfl (OT.storeL0 tab 0 rfl rfl rfl rfl rfl rfl rfl rfl ?_) | refine TO.step rfl (OT.storeL tab 1 rfl rfl rfl rfl rfl rfl rfl rfl ?_) | refine TO.step rfl (OT.storeL0 tab 1 rfl rfl rfl rfl rfl rfl rfl rfl ?_) | refine TO.step rfl (OT.storeL tab 2 rfl rfl rfl rfl rfl rfl rfl rfl ?_) | refine TO.step rfl (OT.storeL0 tab 2 rfl rfl rfl rfl rfl rfl rfl rfl ?_) | refine TO.step rfl (OT.storeL tab 3 rfl rfl rfl rfl rfl rfl rfl rfl ?_) | refine TO.step rfl (OT.storeL0 tab 3 rfl rfl rfl rfl rfl rfl rfl rfl ?_) | refine TO.step rfl (OT.storeL tab 4 rfl rfl rfl rfl rfl rfl rfl rfl ?_) | refine TO.step rfl (OT.storeL0 tab 4 rfl rfl rfl rfl rfl rfl rfl rfl ?_) | refine TO.step rfl (OT.storeL tab 5 rfl rfl rfl rfl rfl rfl rfl rfl ?_) | refine TO.step rfl (OT.storeL0 tab 5 rfl rfl rfl rfl rfl rfl rfl rfl ?_))
      repeat (first | (first|refine q1 ?_|refine q2 ?_|refine q3 ?_|refine q4 tab rfl rfl ?_|refine q5 ?_|refine q6 ?_|refine q7 ?_|refine q8 ?_|refine q9 ?_|refine q10 ?_|refine q11 ?_|refine q12 rfl ?_|refine q13 ?_|refine q14 ?_|refine q15 ?_|refine q16 rfl ?_|refine q17 rfl ?_) | (first | refine qs rfl (ql tab 0 rfl rfl rfl rfl rfl rfl ?_) | refine qs rfl (qz tab 0 rfl rfl rfl rfl rfl rfl ?_) | refine qs rfl (ql tab 1 rfl rfl rfl rfl rfl rfl ?_) | refine qs rfl (qz tab 1 rfl rfl rfl rfl rfl rfl ?_) | refine qs rfl (ql tab 2 rfl rfl rfl rfl rfl rfl ?_) | refine qs rfl (qz tab 2 rfl rfl rfl rfl rfl rfl ?_) | refine qs rfl (ql tab 3 rfl rfl rfl rfl rfl rfl ?_) | refine qs rfl (qz tab 3 rfl rfl rfl rfl rfl rfl ?_) | refine qs rfl (ql tab 4 rfl rfl rfl rfl rfl rfl ?_) | refine qs rfl (qz tab 4 rfl rfl rfl rfl rfl rfl ?_) | refine qs rfl (ql tab 5 rfl rfl rfl rfl rfl rfl ?_) | refine qs rfl (qz tab 5 rfl rfl rfl rfl rfl rfl ?_)))
      (first | refine TO.step rfl (OT.storeL tab 0 rfl rfl rfl rfl rfl rfl rfl rfl ?_) | refine TO.step rfl (OT.storeL0 tab 0 rfl rfl rfl rfl rfl rfl rfl rfl ?_) | refine TO.step rfl (OT.storeL tab 1 rfl rfl rfl rfl rfl rfl rfl rfl ?_) | refine TO.step rfl (OT.storeL0 tab 1 rfl rfl rfl rfl rfl rfl rfl rfl ?_) | refine TO.step rfl (OT.storeL tab 2 rfl rfl rfl rfl rfl rfl rfl rfl ?_) | refine TO.step rfl (OT.storeL0 tab 2 rfl rfl rfl rfl rfl rfl rfl rfl ?_) | refine TO.step rfl (OT.storeL tab 3 rfl rfl rfl rfl rfl rfl rfl rfl ?_) | refine TO.step rfl (OT.storeL0 tab 3 rfl rfl rfl rfl rfl rfl rfl rfl ?_) | refine TO.step rfl (OT.storeL tab 4 rfl rfl rfl rfl rfl rfl rfl rfl ?_) | refine TO.step rfl (OT.storeL0 tab 4 rfl rfl rfl rfl rfl rfl rfl rfl ?_) | refine TO.step rfl (OT.storeL tab 5 rfl rfl rfl rfl rfl rfl rfl rfl ?_) | refine TO.step rfl (OT.storeL0 tab 5 rfl rfl rfl rfl rfl rfl rfl rfl ?_))
      repeat (first | (first|refine q1 ?_|refine q2 ?_|refine q3 ?_|refine q4 tab rfl rfl ?_|refine q5 ?_|refine q6 ?_|refine q7 ?_|refine q8 ?_|refine q9 ?_|refine q10 ?_|refine q11 ?_|refine q12 rfl ?_|refine q13 ?_|refine q14 ?_|refine q15 ?_|refine q16 rfl ?_|refine q17 rfl ?_) | (first | refine qs rfl (ql tab 0 rfl rfl rfl rfl rfl rfl ?_) | refine qs rfl (qz tab 0 rfl rfl rfl rfl rfl rfl ?_) | refine qs rfl (ql tab 1 rfl rfl rfl rfl rfl rfl ?_) | refine qs rfl (qz tab 1 rfl rfl rfl rfl rfl rfl ?_) | refine qs rfl (ql tab 2 rfl rfl rfl rfl rfl rfl ?_) | refine qs rfl (qz tab 2 rfl rfl rfl rfl rfl rfl ?_) | refine qs rfl (ql tab 3 rfl rfl rfl rfl rfl rfl ?_) | refine qs rfl (qz tab 3 rfl rfl rfl rfl rfl rfl ?_) | refine qs rfl (ql tab 4 rfl rfl rfl rfl rfl rfl ?_) | refine qs rfl (qz tab 4 rfl rfl rfl rfl rfl rfl ?_) | refine qs rfl (ql tab 5 rfl rfl rfl rfl rfl rfl ?_) | refine qs rfl (qz tab 5 rfl rfl rfl rfl rfl rfl ?_)))
      refine TC.grow0 (size := 4) ?_
      refine TC.loopK (ι := Grow) [1, 2, 3, 40, 41] rfl (fun g => [(42, .int .i64 (g.k : Int))]) (fun g => g.m) (fun g => tok g.s 4 :: .cells b3 0 [.int .i64 7, strV [], .int .i64 u, g.s.v] :: .cells b2 0 (treeC ⟨0, [], 0, ⟨none, 0, 0⟩⟩) :: .cells b 0 (treeC ⟨13, n, u, s⟩) :: L) (fun g => g.k ≤ a.kids.length ∧ SlRep rTree g.m g.s ((a.kids.take g.k).map Tree.ofT) ∧ Own g.s ∧ m ≤ g.m) (fun g => a.kids.length - g.k) ⟨0, ⟨none, 0, 0⟩, m⟩ (by repeat (first | exact trivial | refine And.intro rfl ?_)) rfl (by repeat (first | exact List.Sublist.refl _ | exact List.sublist_append_left _ _ | refine List.Sublist.cons_cons _ ?_ | refine List.Sublist.cons _ ?_)) ⟨Nat.zero_le _, SlRep.nil _ _, Own.nil, Mem.le_refl _⟩ ?_
      rintro ⟨k, t, m1⟩ ⟨hk, ht, hown, hm1⟩
      simp only at hk ht hown hm1 ⊢
      have h41 := h4.mono hm1
      simp only at hl hsm
      repeat (first|refine q1 ?_|refine q2 ?_|refine q3 ?_|refine q4 tab rfl rfl ?_|refine q5 ?_|refine q6 ?_|refine q7 ?_|refine q8 ?_|refine q9 ?_|refine q10 ?_|refine q11 ?_|refine q12 rfl ?_|refine q13 ?_|refine q14 ?_|refine q15 ?_|refine q16 rfl ?_|refine q17 rfl ?_)
      refine TC.condP rfl (fun hlt' => ?_) (fun hlt' => ?_)
      · have hlt : k < a.kids.length := by omega
        have hx : a.kids[k]? = some a.kids[k] := by simp [hlt]
        have hmem := List.getElem_mem hlt
        repeat (first|refine q1 ?_|refine q2 ?_|refine q3 ?_|refine q4 tab rfl rfl ?_|refine q5 ?_|refine q6 ?_|refine q7 ?_|refine q8 ?_|refine q9 ?_|refine q10 ?_|refine q11 ?_|refine q12 rfl ?_|refine q13 ?_|refine q14 ?_|refine q15 ?_|refine q16 rfl ?_|refine q17 rfl ?_)
        refine TO.step rfl (OT.index tab rTree k h41 rfl rfl rfl rfl rfl (by first | rfl | omega) rfl hx ?_)
        rintro b' i' h' hrd hA
        (first | refine TO.step rfl (OT.loadA tab hA rfl rfl rfl rfl rfl ?_) | refine TO.step rfl (OT.loadA0 tab hA rfl rfl rfl rfl rfl ?_))
        repeat (first|refine q1 ?_|refine q2 ?_|refine q3 ?_|refine q4 tab rfl rfl ?_|refine q5 ?_|refine q6 ?_|refine q7 ?_|refine q8 ?_|refine q9 ?_|refine q10 ?_|refine q11 ?_|refine q12 rfl ?_|refine q13 ?_|refine q14 ?_|refine q15 ?_|refine q16 rfl ?_|refine q17 rfl ?_)
        refine TO.step rfl (OT.alloc tab rfl rfl rfl rfl (fun b5 => ?_))
        repeat (first|refine q1 ?_|refine q2 ?_|refine q3 ?_|refine q4 tab rfl rfl ?_|refine q5 ?_|refine q6 ?_|refine q7 ?_|refine q8 ?_|refine q9 ?_|refine q10 ?_|refine q11 ?_|refine q12 rfl ?_|refine q13 ?_|refine q14 ?_|refine q15 ?_|refine q16 rfl ?_|refine q17 rfl ?_)
        (first | refine TO.step rfl (OT.storeL tab 0 rfl rfl rfl rfl rfl rfl rfl rfl ?_) | refine TO.step rfl (OT.storeL0 tab 0 rfl rfl rfl rfl rfl rfl rfl rfl ?_) | refine TO.step rfl (OT.storeL tab 1 rfl rfl rfl rfl rfl rfl rfl rfl ?_) | refine TO.step rfl (OT.storeL0 tab 1 rfl rfl rfl rfl rfl rfl rfl rfl ?_) | refine TO.step rfl (OT.storeL tab 2 rfl rfl rfl rfl rfl rfl rfl rfl ?_) | refine TO.step rfl (OT.storeL0 tab 2 rfl rfl rfl rfl rfl rfl rfl rfl ?_) | refine TO.step rfl (OT.storeL tab 3 rfl rfl rfl rfl rfl rfl rfl rfl ?_) | refine TO.step rfl (OT.storeL0 tab 3 rfl rfl rfl rfl rfl rfl rfl rfl ?_) | refine TO.step rfl (OT.storeL tab 4 rfl rfl rfl rfl rfl rfl rfl rfl ?_) | refine TO.step rfl (OT.storeL0 tab 4 rfl rfl rfl rfl rfl rfl rfl rfl ?_) | refine TO.step rfl (OT.storeL tab 5 rfl rfl rfl rfl rfl rfl rfl rfl ?_) | refine TO.step rfl (OT.storeL0 tab 5 rfl rfl rfl rfl rfl rfl rfl rfl ?_))
        repeat (first|refine q1 ?_|refine q2 ?_|refine q3 ?_|refine q4 tab rfl rfl ?_|refine q5 ?_|refine q6 ?_|refine q7 ?_|refine q8 ?_|refine q9 ?_|refine q10 ?_|refine q11 ?_|refine q12 rfl ?_|refine q13 ?_|refine q14 ?_|refine q15 ?_|refine q16 rfl ?_|refine q17 rfl ?_)
        generalize hcx : a.kids[k] = c at *
        refine TC.perm (List.Perm.swap _ _ _) ?_
        refine TC.draw [7] mixed 8 rfl (_::_::_::_::L) [tok t 4] perm_last ?_
        refine DO.pure tab (by repeat (first | exact Calm.ret | refine Calm.then ?_ | refine Calm.block ?_ | assumption)) (by kernel_rfl) [0] (by kernel_rfl) rfl ?_
        (first | refine DO.loadL tab 1 0 (by repeat (first | exact Calm.ret | refine Calm.then ?_ | refine Calm.block ?_ | assumption)) (by kernel_rfl) (by kernel_rfl) rfl rfl rfl rfl rfl rfl rfl rfl ?_ | refine DO.loadL tab 1 1 (by repeat (first | exact Calm.ret | refine Calm.then ?_ | refine Calm.block ?_ | assumption)) (by kernel_rfl) (by kernel_rfl) rfl rfl rfl rfl rfl rfl rfl rfl ?_ | refine DO.loadL tab 1 2 (by repeat (first | exact Calm.ret | refine Calm.then ?_ | refine Calm.block ?_ | assumption)) (by kernel_rfl) (by kernel_rfl) rfl rfl rfl rfl rfl rfl rfl rfl ?_ | refine DO.loadL tab 1 3 (by repeat (first | exact Calm.ret | refine Calm.then ?_ | refine Calm.block ?_ | assumption)) (by kernel_rfl) (by kernel_rfl) rfl rfl rfl rfl rfl rfl rfl rfl ?_ | refine DO.loadL (k := 0) tab 1 0 (by repeat (first | exact Calm.ret | refine Calm.then ?_ | refine Calm.block ?_ | assumption)) (by kernel_rfl) (by kernel_rfl) rfl rfl rfl rfl rfl rfl rfl rfl ?_ | refine DO.loadL (k := 0) tab 1 1 (by repeat (first | exact Calm.ret | refine Calm.then ?_ | refine Calm.block ?_ | assumption)) (by kernel_rfl) (by kernel_rfl) rfl rfl rfl rfl rfl rfl rfl rfl ?_ | refine DO.loadL (k := 0) tab 1 2 (by repeat (first | exact Calm.ret | refine Calm.then ?_ | refine Calm.block ?_ | assumption)) (by kernel_rfl) (by kernel_rfl) rfl rfl rfl rfl rfl rfl rfl rfl ?_ | refine DO.loadL (k := 0) tab 1 3 (by repeat (first | exact Calm.ret | refine Calm.then ?_ | refine Calm.block ?_ | assumption)) (by kernel_rfl) (by kernel_rfl) rfl rfl rfl rfl rfl rfl rfl rfl ?_)
        (first | refine DO.loadL tab 2 0 (by repeat (first | exact Calm.ret | refine Calm.then ?_ | refine Calm.block ?_ | assumption)) (by kernel_rfl) (by kernel_rfl) rfl rfl rfl rfl rfl rfl rfl rfl ?_ | refine DO.loadL tab 2 1 (by repeat (first | exact Calm.ret | refine Calm.then ?_ | refine Calm.block ?_ | assumption)) (by kernel_rfl) (by kernel_rfl) rfl rfl rfl rfl rfl rfl rfl rfl ?_ | refine DO.loadL tab 2 2 (by repeat (first | exact Calm.ret | refine Calm.then ?_ | refine Calm.block ?_ | assumption)) (by kernel_rfl) (by kernel_rfl) rfl rfl rfl rfl rfl rfl rfl rfl ?_ | refine DO.loadL tab 2 3 (by repeat (first | exact Calm.ret | refine Calm.then ?_ | refine Calm.block ?_ | assumption)) (by kernel_rfl) (by kernel_rfl) rfl rfl rfl rfl rfl rfl rfl rfl ?_ | refine DO.loadL (k := 0) tab 2 0 (by repeat (first | exact Calm.ret | refine Calm.then ?_ | refine Calm.block ?_ | assumption)) (by kernel_rfl) (by kernel_rfl) rfl rfl rfl rfl rfl rfl rfl rfl ?_ | refine DO.loadL (k := 0) tab 2 1 (by repeat (first | exact Calm.ret | refine Calm.then ?_ | refine Calm.block ?_ | assumption)) (by kernel_rfl) (by kernel_rfl) rfl rfl rfl rfl rfl rfl rfl rfl ?_ | refine DO.loadL (k := 0) tab 2 2 (by repeat (first | exact Calm.ret | refine Calm.then ?_ | refine Calm.block ?_ | assumption)) (by kernel_rfl) (by kernel_rfl) rfl rfl rfl rfl rfl rfl rfl rfl ?_ | refine DO.loadL (k := 0) tab 2 3 (by repeat (first | exact Calm.ret | refine Calm.then ?_ | refine Calm.block ?_ | assumption)) (by kernel_rfl) (by kernel_rfl) rfl rfl rfl rfl rfl rfl rfl rfl ?_)
        refine DO.run 3 rfl rfl (by kernel_rfl) rfl (OT.call rfl rfl rfl rfl rfl rfl goes36 ((ih c hmem (hkn c hmem) _ _ h' (rTree_iff.1 hrd) (Nat.le_trans (Nat.le_of_lt (bulk_kid hmem)) hB)).x ?_))
        rintro _ m2 _ ⟨hm2, rfl, ht2, rfl, hrt⟩; refine ⟨hm2, _, List.Perm.refl _, ?_⟩
        refine DO.run 4 rfl rfl (by kernel_rfl) rfl ?_
        refine OT.lit tab rfl rfl rfl rfl (fun bl => ?_); refine ⟨Mem.le_refl _, _, perm_mid, ?_⟩
        refine DO.run 5 rfl rfl (by kernel_rfl) rfl ?_
        refine OT.perm List.perm_append_comm (OT.append1 tab rTree 0 (hd' := ht2) (a := c.ofT) (ht.mono hm2) hown (rTree_iff.2 hrt) rfl rfl rfl rfl rfl rfl rfl (by simp only [rTree, mkR, List.length_map, List.length_take]; omega) (fun t' m3 hm3 ht' hown' => ?_)); refine ⟨hm3, _, perm_last, ?_⟩
        refine DO.pure tab (by repeat (first | exact Calm.ret | refine Calm.then ?_ | refine Calm.block ?_ | assumption)) (by kernel_rfl) [6] (by kernel_rfl) rfl ?_
        refine DO.tail ?_
        refine DOt.run 7 rfl rfl (by kernel_rfl) rfl ?_
        refine OT.storeL tab 1 rfl rfl rfl rfl rfl rfl rfl rfl ?_
        refine DOt.nil (by kernel_rfl) ?_
        rotate_left 1
        repeat (first|refine q1 ?_|refine q2 ?_|refine q3 ?_|refine q4 tab rfl rfl ?_|refine q5 ?_|refine q6 ?_|refine q7 ?_|refine q8 ?_|refine q9 ?_|refine q10 ?_|refine q11 ?_|refine q12 rfl ?_|refine q13 ?_|refine q14 ?_|refine q15 ?_|refine q16 rfl ?_|refine q17 rfl ?_)
        refine TO.perm perm_f4 ?_
        refine TO.step rfl (OT.arith (r' := ((k + 1 : Nat) : Int)) rfl rfl rfl rfl rfl rfl rfl (by omega) ?_)
        repeat (first|refine q1 ?_|refine q2 ?_|refine q3 ?_|refine q4 tab rfl rfl ?_|refine q5 ?_|refine q6 ?_|refine q7 ?_|refine q8 ?_|refine q9 ?_|refine q10 ?_|refine q11 ?_|refine q12 rfl ?_|refine q13 ?_|refine q14 ?_|refine q15 ?_|refine q16 rfl ?_|refine q17 rfl ?_)
        refine ⟨⟨k + 1, t', m3⟩, (by repeat (first | exact trivial | refine And.intro rfl ?_)), (by repeat (first | exact trivial | refine And.intro rfl ?_)), rfl, rfl, (by repeat (first | exact List.Sublist.refl _ | exact List.sublist_append_left _ _ | refine List.Sublist.cons_cons _ ?_ | refine List.Sublist.cons _ ?_)), ⟨by simp only; omega, ?_, hown', Mem.le_trans hm1 (Mem.le_trans hm2 hm3)⟩, by simp only; omega⟩
        simp only
        rw [List.take_succ_eq_append_getElem hlt, hcx, List.map_append]
        exact ht'
      · repeat (first | (first|refine q1 ?_|refine q2 ?_|refine q3 ?_|refine q4 tab rfl rfl ?_|refine q5 ?_|refine q6 ?_|refine q7 ?_|refine q8 ?_|refine q9 ?_|refine q10 ?_|refine q11 ?_|refine q12 rfl ?_|refine q13 ?_|refine q14 ?_|refine q15 ?_|refine q16 rfl ?_|refine q17 rfl ?_) | (first | refine qs rfl (ql tab 0 rfl rfl rfl rfl rfl rfl ?_) | refine qs rfl (qz tab 0 rfl rfl rfl rfl rfl rfl ?_) | refine qs rfl (ql tab 1 rfl rfl rfl rfl rfl rfl ?_) | refine qs rfl (qz tab 1 rfl rfl rfl rfl rfl rfl ?_) | refine qs rfl (ql tab 2 rfl rfl rfl rfl rfl rfl ?_) | refine qs rfl (qz tab 2 rfl rfl rfl rfl rfl rfl ?_) | refine qs rfl (ql tab 3 rfl rfl rfl rfl rfl rfl ?_) | refine qs rfl (qz tab 3 rfl rfl rfl rfl rfl rfl ?_) | refine qs rfl (ql tab 4 rfl rfl rfl rfl rfl rfl ?_) | refine qs rfl (qz tab 4 rfl rfl rfl rfl rfl rfl ?_) | refine qs rfl (ql tab 5 rfl rfl rfl rfl rfl rfl ?_) | refine qs rfl (qz tab 5 rfl rfl rfl rfl rfl rfl ?_)))
        (first | refine TO.step rfl (OT.storeL tab 0 rfl rfl rfl rfl rfl rfl rfl rfl ?_) | refine TO.step rfl (OT.storeL0 tab 0 rfl rfl rfl rfl rfl rfl rfl rfl ?_) | refine TO.step rfl (OT.storeL tab 1 rfl rfl rfl rfl rfl rfl rfl rfl ?_) | refine TO.step rfl (OT.storeL0 tab 1 rfl rfl rfl rfl rfl rfl rfl rfl ?_) | refine TO.step rfl (OT.storeL tab 2 rfl rfl rfl rfl rfl rfl rfl rfl ?_) | refine TO.step rfl (OT.storeL0 tab 2 rfl rfl rfl rfl rfl rfl rfl rfl ?_) | refine TO.step rfl (OT.storeL tab 3 rfl rfl rfl rfl rfl rfl rfl rfl ?_) | refine TO.step rfl (OT.storeL0 tab 3 rfl rfl rfl rfl rfl rfl rfl rfl ?_) | refine TO.step rfl (OT.storeL tab 4 rfl rfl rfl rfl rfl rfl rfl rfl ?_) | refine TO.step rfl (OT.storeL0 tab 4 rfl rfl rfl rfl rfl rfl rfl rfl ?_) | refine TO.step rfl (OT.storeL tab 5 rfl rfl rfl rfl rfl rfl rfl rfl ?_) | refine TO.step rfl (OT.storeL0 tab 5 rfl rfl rfl rfl rfl rfl rfl rfl ?_))
        repeat (first|refine q1 ?_|refine q2 ?_|refine q3 ?_|refine q4 tab rfl rfl ?_|refine q5 ?_|refine q6 ?_|refine q7 ?_|refine q8 ?_|refine q9 ?_|refine q10 ?_|refine q11 ?_|refine q12 rfl ?_|refine q13 ?_|refine q14 ?_|refine q15 ?_|refine q16 rfl ?_|refine q17 rfl ?_)
        refine retQ_ret_c1 tab 2 rfl rfl rfl rfl (by repeat (first | exact List.Sublist.refl _ | exact List.sublist_append_left _ _ | refine List.Sublist.cons_cons _ ?_ | refine List.Sublist.cons _ ?_)) ⟨hm1, rfl, ⟨_, [], u, t⟩, rfl, rfl, rfl, h3, ?_⟩
        rw [List.take_of_length_le (by omega)] at ht
        exact ht
    · simp only at h12
      subst h12
      repeat (first|refine q1 ?_|refine q2 ?_|refine q3 ?_|refine q4 tab rfl rfl ?_|refine q5 ?_|refine q6 ?_|refine q7 ?_|refine q8 ?_|refine q9 ?_|refine q10 ?_|refine q11 ?_|refine q12 rfl ?_|refine q13 ?_|refine q14 ?_|refine q15 ?_|refine q16 rfl ?_|refine q17 rfl ?_)
      refine TO.step rfl (OT.box rfl rfl rfl rfl rfl (fun b => ?_))
      repeat (first|refine q1 ?_|refine q2 ?_|refine q3 ?_|refine q4 tab rfl rfl ?_|refine q5 ?_|refine q6 ?_|refine q7 ?_|refine q8 ?_|refine q9 ?_|refine q10 ?_|refine q11 ?_|refine q12 rfl ?_|refine q13 ?_|refine q14 ?_|refine q15 ?_|refine q16 rfl ?_|refine q17 rfl ?_)
      refine TO.step rfl (OT.alloc tab rfl rfl rfl rfl (fun b2 => ?_))
      repeat (first | (first|refine q1 ?_|refine q2 ?_|refine q3 ?_|refine q4 tab rfl rfl ?_|refine q5 ?_|refine q6 ?_|refine q7 ?_|refine q8 ?_|refine q9 ?_|refine q10 ?_|refine q11 ?_|refine q12 rfl ?_|refine q13 ?_|refine q14 ?_|refine q15 ?_|refine q16 rfl ?_|refine q17 rfl ?_) | (first | refine qs rfl (ql tab 0 rfl rfl rfl rfl rfl rfl ?_) | refine qs rfl (qz tab 0 rfl rfl rfl rfl rfl rfl ?_) | refine qs rfl (ql tab 1 rfl rfl rfl rfl rfl rfl ?_) | refine qs rfl (qz tab 1 rfl rfl rfl rfl rfl rfl ?_) | refine qs rfl (ql tab 2 rfl rfl rfl rfl rfl rfl ?_) | refine qs rfl (qz tab 2 rfl rfl rfl rfl rfl rfl ?_) | refine qs rfl (ql tab 3 rfl rfl rfl rfl rfl rfl ?_) | refine qs rfl (qz tab 3 rfl rfl rfl rfl rfl rfl ?_) | refine qs rfl (ql tab 4 rfl rfl rfl rfl rfl rfl ?_) | refine qs rfl (qz tab 4 rfl rfl rfl rfl rfl rfl ?_) | refine qs rfl (ql tab 5 rfl rfl rfl rfl rfl rfl ?_) | refine qs rfl (qz tab 5 rfl rfl rfl rfl rfl rfl ?_)))
      refine TO.step rfl (OT.alloc tab rfl rfl rfl rfl (fun b3 => ?_))
      repeat (first|refine q1 ?_|refine q2 ?_|refine q3 ?_|refine q4 tab rfl rfl ?_|refine q5 ?_|refine q6 ?_|refine q7 ?_|refine q8 ?_|refine q9 ?_|refine q10 ?_|refine q11 ?_|refine q12 rfl ?_|refine q13 ?_|refine q14 ?_|refine q15 ?_|refine q16 rfl ?_|refine q17 rfl ?_)
      (first | refine TO.step rfl (OT.storeL tab 0 rfl rfl rfl rfl rfl rfl rfl rfl ?_) | refine TO.step rfl (OT.storeL0 tab 0 rfl rfl rfl rfl rfl rfl rfl rfl ?_) | refine TO.step rfl (OT.storeL tab 1 rfl rfl rfl rfl rfl rfl rfl rfl ?_) | refine TO.step rfl (OT.storeL0 tab 1 rfl rfl rfl rfl rfl rfl rfl rfl ?_) | refine TO.step rfl (OT.storeL tab 2 rfl rfl rfl rfl rfl rfl rfl rfl ?_) | refine TO.step rfl (OT.storeL0 tab 2 rfl rfl rfl rfl rfl rfl rfl rfl ?_) | refine TO.step rfl (OT.storeL tab 3 rfl rfl rfl rfl rfl rfl rfl rfl ?_) | refine TO.step rfl (OT.storeL0 tab 3 rfl rfl rfl rfl rfl rfl rfl rfl ?_) | refine TO.step rfl (OT.storeL tab 4 rfl rfl rfl rfl rfl rfl rfl rfl ?_) | refine TO.step rfl (OT.storeL0 tab 4 rfl rfl rfl rfl rfl rfl rfl rfl ?_) | refine TO.step rfl (OT.storeL tab 5 rfl rfl rfl rfl rfl rfl rfl rfl ?_) | refine TO.step rfl (OT.storeL0 tab 5 rfl rfl rfl rfl rfl rfl rfl rfl ?_))
      repeat (first | (first|refine q1 ?_|refine q2 ?_|refine q3 ?_|refine q4 tab rfl rfl ?_|refine q5 ?_|refine q6 ?_|refine q7 ?_|refine q8 ?_|refine q9 ?_|refine q10 ?_|refine q11 ?_|refine q12 rfl ?_|refine q13 ?_|refine q14 ?_|refine q15 ?_|refine q16 rfl ?_|refine q17 rfl ?_) | (first | refine qs rfl (ql tab 0 rfl rfl rfl rfl rfl rfl ?_) | refine qs rfl (qz tab 0 rfl rfl rfl rfl rfl rfl ?_) | refine qs rfl (ql tab 1 rfl rfl rfl rfl rfl rfl ?_) | refine qs rfl (qz tab 1 rfl rfl rfl rfl rfl rfl ?_) | refine qs rfl (ql tab 2 rfl rfl rfl rfl rfl rfl ?_) | refine qs rfl (qz tab 2 rfl rfl rfl rfl rfl rfl ?_) | refine qs rfl (ql tab 3 rfl rfl rfl rfl rfl rfl ?_) | refine qs rfl (qz tab 3 rfl rfl rfl rfl rfl rfl ?_) | refine qs rfl (ql tab 4 rfl rfl rfl rfl rfl rfl ?_) | refine qs rfl (qz tab 4 rfl rfl rfl rfl rfl rfl ?_) | refine qs rfl (ql tab 5 rfl rfl rfl rfl rfl rfl ?_) | refine qs rfl (qz tab 5 rfl rfl rfl rfl rfl rfl ?_)))
      (first | refine TO.step rfl (OT.storeL tab 0 rfl rfl rfl rfl rfl rfl rfl rfl ?_) | refine TO.step rfl (OT.storeL0 tab 0 rfl rfl rfl rfl rfl rfl rfl rfl ?_) | refine TO.step rfl (OT.storeL tab 1 rfl rfl rfl rfl rfl rfl rfl rfl ?_) | refine TO.step rfl (OT.storeL0 tab 1 rfl rfl rfl rfl rfl rfl rfl rfl ?_) | refine TO.step rfl (OT.storeL tab 2 rfl rfl rfl rfl rfl rfl rfl rfl ?_) | refine TO.step rfl (OT.storeL0 tab 2 rfl rfl rfl rfl rfl rfl rfl rfl ?_) | refine TO.step rfl (OT.storeL tab 3 rfl rfl rfl rfl rfl rfl rfl rfl ?_) | refine TO.step rfl (OT.storeL0 tab 3 rfl rfl rfl rfl rfl rfl rfl rfl ?_) | refine TO.step rfl (OT.storeL tab 4 rfl rfl rfl rfl rfl rfl rfl rfl ?_) | refine TO.step rfl (OT.storeL0 tab 4 rfl rfl rfl rfl rfl rfl rfl rfl ?_) | refine TO.step rfl (OT.storeL tab 5 rfl rfl rfl rfl rfl rfl rfl rfl ?_) | refine TO.step rfl (OT.storeL0 tab 5 rfl rfl rfl rfl rfl rfl rfl rfl ?_))
      repeat (first | (first|refine q1 ?_|refine q2 ?_|refine q3 ?_|refine q4 tab rfl rfl ?_|refine q5 ?_|refine q6 ?_|refine q7 ?_|refine q8 ?_|refine q9 ?_|refine q10 ?_|refine q11 ?_|refine q12 rfl ?_|refine q13 ?_|refine q14 ?_|refine q15 ?_|refine q16 rfl ?_|refine q17 rfl ?_) | (first | refine qs rfl (ql tab 0 rfl rfl rfl rfl rfl rfl ?_) | refine qs rfl (qz tab 0 rfl rfl rfl rfl rfl rfl ?_) | refine qs rfl (ql tab 1 rfl rfl rfl rfl rfl rfl ?_) | refine qs rfl (qz tab 1 rfl rfl rfl rfl rfl rfl ?_) | refine qs rfl (ql tab 2 rfl rfl rfl rfl rfl rfl ?_) | refine qs rfl (qz tab 2 rfl rfl rfl rfl rfl rfl ?_) | refine qs rfl (ql tab 3 rfl rfl rfl rfl rfl rfl ?_) | refine qs rfl (qz tab 3 rfl rfl rfl rfl rfl rfl ?_) | refine qs rfl (ql tab 4 rfl rfl rfl rfl rfl rfl ?_) | refine qs rfl (qz tab 4 rfl rfl rfl rfl rfl rfl ?_) | refine qs rfl (ql tab 5 rfl rfl rfl rfl rfl rfl ?_) | refine qs rfl (qz tab 5 rfl rfl rfl rfl rfl rfl ?_)))
      refine TC.grow0 (size := 4) ?_
      refine TC.loopK (ι := Grow) [1, 2, 3, 40, 41] rfl (fun g => [(42, .int .i64 (g.k : Int))]) (fun g => g.m) (fun g => tok g.s 4 :: .cells b3 0 [.int .i64 7, strV [], .int .i64 u, g.s.v] :: .cells b2 0 (treeC ⟨0, [], 0, ⟨none, 0, 0⟩⟩) :: .cells b 0 (treeC ⟨7, n, u, s⟩) :: L) (fun g => g.k ≤ a.kids.length ∧ SlRep rTree g.m g.s ((a.kids.take g.k).map Tree.ofT) ∧ Own g.s ∧ m ≤ g.m) (fun g => a.kids.length - g.k) ⟨0, ⟨none, 0, 0⟩, m⟩ (by repeat (first | exact trivial | refine And.intro rfl ?_)) rfl (by repeat (first | exact List.Sublist.refl _ | exact List.sublist_append_left _ _ | refine List.Sublist.cons_cons _ ?_ | refine List.Sublist.cons _ ?_)) ⟨Nat.zero_le _, SlRep.nil _ _, Own.nil, Mem.le_refl _⟩ ?_
      rintro ⟨k, t, m1⟩ ⟨hk, ht, hown, hm1⟩
      simp only at hk ht hown hm1 ⊢
      have h41 := h4.mono hm1
      simp only at hl hsm
      repeat (first|refine q1 ?_|refine q2 ?_|refine q3 ?_|refine q4 tab rfl rfl ?_|refine q5 ?_|refine q6 ?_|refine q7 ?_|refine q8 ?_|refine q9 ?_|refine q10 ?_|refine q11 ?_|refine q12 rfl ?_|refine q13 ?_|refine q14 ?_|refine q15 ?_|refine q16 rfl ?_|refine q17 rfl ?_)
      refine TC.condP rfl (fun hlt' => ?_) (fun hlt' => ?_)
      · have hlt : k < a.kids.length := by omega
        have hx : a.kids[k]? = some a.kids[k] := by simp [hlt]
        have hmem := List.getElem_mem hlt
        repeat (first|refine q1 ?_|refine q2 ?_|refine q3 ?_|refine q4 tab rfl rfl ?_|refine q5 ?_|refine q6 ?_|refine q7 ?_|refine q8 ?_|refine q9 ?_|refine q10 ?_|refine q11 ?_|refine q12 rfl ?_|refine q13 ?_|refine q14 ?_|refine q15 ?_|refine q16 rfl ?_|refine q17 rfl ?_)
        refine TO.step rfl (OT.index tab rTree k h41 rfl rfl rfl rfl rfl (by first | rfl | omega) rfl hx ?_)
        rintro b' i' h' hrd hA
        (first | refine TO.step rfl (OT.loadA tab hA rfl rfl rfl rfl rfl ?_) | refine TO.step rfl (OT.loadA0 tab hA rfl rfl rfl rfl rfl ?_))
        repeat (first|refine q1 ?_|refine q2 ?_|refine q3 ?_|refine q4 tab rfl rfl ?_|refine q5 ?_|refine q6 ?_|refine q7 ?_|refine q8 ?_|refine q9 ?_|refine q10 ?_|refine q11 ?_|refine q12 rfl ?_|refine q13 ?_|refine q14 ?_|refine q15 ?_|refine q16 rfl ?_|refine q17 rfl ?_)
        refine TO.step rfl (OT.alloc tab rfl rfl rfl rfl (fun b5 => ?_))
        repeat (first|refine q1 ?_|refine q2 ?_|refine q3 ?_|refine q4 tab rfl rfl ?_|refine q5 ?_|refine q6 ?_|refine q7 ?_|refine q8 ?_|refine q9 ?_|refine q10 ?_|refine q11 ?_|refine q12 rfl ?_|refine q13 ?_|refine q14 ?_|refine q15 ?_|refine q16 rfl ?_|refine q17 rfl ?_)
        (first | refine TO.step rfl (OT.storeL tab 0 rfl rfl rfl rfl rfl rfl rfl rfl ?_) | refine TO.step rfl (OT.storeL0 tab 0 rfl rfl rfl rfl rfl rfl rfl rfl ?_) | refine TO.step rfl (OT.storeL tab 1 rfl rfl rfl rfl rfl rfl rfl rfl ?_) | refine TO.step rfl (OT.storeL0 tab 1 rfl rfl rfl rfl rfl rfl rfl rfl ?_) | refine TO.step rfl (OT.storeL tab 2 rfl rfl rfl rfl rfl rfl rfl rfl ?_) | refine TO.step rfl (OT.storeL0 tab 2 rfl rfl rfl rfl rfl rfl rfl rfl ?_) | refine TO.step rfl (OT.storeL tab 3 rfl rfl rfl rfl rfl rfl rfl rfl ?_) | refine TO.step rfl (OT.storeL0 tab 3 rfl rfl rfl rfl rfl rfl rfl rfl ?_) | refine TO.step rfl (OT.storeL tab 4 rfl rfl rfl rfl rfl rfl rfl rfl ?_) | refine TO.step rfl (OT.storeL0 tab 4 rfl rfl rfl rfl rfl rfl rfl rfl ?_) | refine TO.step rfl (OT.storeL tab 5 rfl rfl rfl rfl rfl rfl rfl rfl ?_) | refine TO.step rfl (OT.storeL0 tab 5 rfl rfl rfl rfl rfl rfl rfl rfl ?_))
        repeat (first|refine q1 ?_|refine q2 ?_|refine q3 ?_|refine q4 tab rfl rfl ?_|refine q5 ?_|refine q6 ?_|refine q7 ?_|refine q8 ?_|refine q9 ?_|refine q10 ?_|refine q11 ?_|refine q12 rfl ?_|refine q13 ?_|refine q14 ?_|refine q15 ?_|refine q16 rfl ?_|refine q17 rfl ?_)
        generalize hcx : a.kids[k] = c at *
        refine TC.perm (List.Perm.swap _ _ _) ?_
        refine TC.draw [7] mixed 8 rfl (_::_::_::_::L) [tok t 4] perm_last ?_
        refine DO.pure tab (by repeat (first | exact Calm.ret | refine Calm.then ?_ | refine Calm.block ?_ | assumption)) (by kernel_rfl) [0] (by kernel_rfl) rfl ?_
        (first | refine DO.loadL tab 1 0 (by repeat (first | exact Calm.ret | refine Calm.then ?_ | refine Calm.block ?_ | assumption)) (by kernel_rfl) (by kernel_rfl) rfl rfl rfl rfl rfl rfl rfl rfl ?_ | refine DO.loadL tab 1 1 (by repeat (first | exact Calm.ret | refine Calm.then ?_ | refine Calm.block ?_ | assumption)) (by kernel_rfl) (by kernel_rfl) rfl rfl rfl rfl rfl rfl rfl rfl ?_ | refine DO.loadL tab 1 2 (by repeat (first | exact Calm.ret | refine Calm.then ?_ | refine Calm.block ?_ | assumption)) (by kernel_rfl) (by kernel_rfl) rfl rfl rfl rfl rfl rfl rfl rfl ?_ | refine DO.loadL tab 1 3 (by repeat (first | exact Calm.ret | refine Calm.then ?_ | refine Calm.block ?_ | assumption)) (by kernel_rfl) (by kernel_rfl) rfl rfl rfl rfl rfl rfl rfl rfl ?_ | refine DO.loadL (k := 0) tab 1 0 (by repeat (first | exact Calm.ret | refine Calm.then ?_ | refine Calm.block ?_ | assumption)) (by kernel_rfl) (by kernel_rfl) rfl rfl rfl rfl rfl rfl rfl rfl ?_ | refine DO.loadL (k := 0) tab 1 1 (by repeat (first | exact Calm.ret | refine Calm.then ?_ | refine Calm.block ?_ | assumption)) (by kernel_rfl) (by kernel_rfl) rfl rfl rfl rfl rfl rfl rfl rfl ?_ | refine DO.loadL (k := 0) tab 1 2 (by repeat (first | exact Calm.ret | refine Calm.then ?_ | refine Calm.block ?_ | assumption)) (by kernel_rfl) (by kernel_rfl) rfl rfl rfl rfl rfl rfl rfl rfl ?_ | refine DO.loadL (k := 0) tab 1 3 (by repeat (first | exact Calm.ret | refine Calm.then ?_ | refine Calm.block ?_ | assumption)) (by kernel_rfl) (by kernel_rfl) rfl rfl rfl rfl rfl rfl rfl rfl ?_)
        (first | refine DO.loadL tab 2 0 (by repeat (first | exact Calm.ret | refine Calm.then ?_ | refine Calm.block ?_ | assumption)) (by kernel_rfl) (by kernel_rfl) rfl rfl rfl rfl rfl rfl rfl rfl ?_ | refine DO.loadL tab 2 1 (by repeat (first | exact Calm.ret | refine Calm.then ?_ | refine Calm.block ?_ | assumption)) (by kernel_rfl) (by kernel_rfl) rfl rfl rfl rfl rfl rfl rfl rfl ?_ | refine DO.loadL tab 2 2 (by repeat (first | exact Calm.ret | refine Calm.then ?_ | refine Calm.block ?_ | assumption)) (by kernel_rfl) (by kernel_rfl) rfl rfl rfl rfl rfl rfl rfl rfl ?_ | refine DO.loadL tab 2 3 (by repeat (first | exact Calm.ret | refine Calm.then ?_ | refine Calm.block ?_ | assumption)) (by kernel_rfl) (by kernel_rfl) rfl rfl rfl rfl rfl rfl rfl rfl ?_ | refine DO.loadL (k := 0) tab 2 0 (by repeat (first | exact Calm.ret | refine Calm.then ?_ | refine Calm.block ?_ | assumption)) (by kernel_rfl) (by kernel_rfl) rfl rfl rfl rfl rfl rfl rfl rfl ?_ | refine DO.loadL (k := 0) tab 2 1 (by repeat (first | exact Calm.ret | refine Calm.then ?_ | refine Calm.block ?_ | assumption)) (by kernel_rfl) (by kernel_rfl) rfl rfl rfl rfl rfl rfl rfl rfl ?_ | refine DO.loadL (k := 0) tab 2 2 (by repeat (first | exact Calm.ret | refine Calm.then ?_ | refine Calm.block ?_ | assumption)) (by kernel_rfl) (by kernel_rfl) rfl rfl rfl rfl rfl rfl rfl rfl ?_ | refine DO.loadL (k := 0) tab 2 3 (by repeat (first | exact Calm.ret | refine Calm.then ?_ | refine Calm.block ?_ | assumption)) (by kernel_rfl) (by kernel_rfl) rfl rfl rfl rfl rfl rfl rfl rfl ?_)
        refine DO.run 3 rfl rfl (by kernel_rfl) rfl (OT.call rfl rfl rfl rfl rfl rfl goes36 ((ih c hmem (hkn c hmem) _ _ h' (rTree_iff.1 hrd) (Nat.le_trans (Nat.le_of_lt (bulk_kid hmem)) hB)).x ?_))
        rintro _ m2 _ ⟨hm2, rfl, ht2, rfl, hrt⟩; refine ⟨hm2, _, List.Perm.refl _, ?_⟩
        refine DO.run 4 rfl rfl (by kernel_rfl) rfl ?_
        refine OT.lit tab rfl rfl rfl rfl (fun bl => ?_); refine ⟨Mem.le_refl _, _, perm_mid, ?_⟩
        refine DO.run 5 rfl rfl (by kernel_rfl) rfl ?_
        refine OT.perm List.perm_append_comm (OT.append1 tab rTree 0 (hd' := ht2) (a := c.ofT) (ht.mono hm2) hown (rTree_iff.2 hrt) rfl rfl rfl rfl rfl rfl rfl (by simp only [rTree, mkR, List.length_map, List.length_take]; omega) (fun t' m3 hm3 ht' hown' => ?_)); refine ⟨hm3, _, perm_last, ?_⟩
        refine DO.pure tab (by repeat (first | exact Calm.ret | refine Calm.then ?_ | refine Calm.block ?_ | assumption)) (by kernel_rfl) [6] (by kernel_rfl) rfl ?_
        refine DO.tail ?_
        refine DOt.run 7 rfl rfl (by kernel_rfl) rfl ?_
        refine OT.storeL tab 1 rfl rfl rfl rfl rfl rfl rfl rfl ?_
        refine DOt.nil (by kernel_rfl) ?_
        rotate_left 1
        repeat (first|refine q1 ?_|refine q2 ?_|refine q3 ?_|refine q4 tab rfl rfl ?_|refine q5 ?_|refine q6 ?_|refine q7 ?_|refine q8 ?_|refine q9 ?_|refine q10 ?_|refine q11 ?_|refine q12 rfl ?_|refine q13 ?_|refine q14 ?_|refine q15 ?_|refine q16 rfl ?_|refine q17 rfl ?_)
        refine TO.perm perm_f4 ?_
        refine TO.step rfl (OT.arith (r' := ((k + 1 : Nat) : Int)) rfl rfl rfl rfl rfl rfl rfl (by omega) ?_)
        repeat (first|refine q1 ?_|refine q2 ?_|refine q3 ?_|refine q4 tab rfl rfl ?_|refine q5 ?_|refine q6 ?_|refine q7 ?_|refine q8 ?_|refine q9 ?_|refine q10 ?_|refine q11 ?_|refine q12 rfl ?_|refine q13 ?_|refine q14 ?_|refine q15 ?_|refine q16 rfl ?_|refine q17 rfl ?_)
        refine ⟨⟨k + 1, t', m3⟩, (by repeat (first | exact trivial | refine And.intro rfl ?_)), (by repeat (first | exact trivial | refine And.intro rfl ?_)), rfl, rfl, (by repeat (first | exact List.Sublist.refl _ | exact List.sublist_append_left _ _ | refine List.Sublist.cons_cons _ ?_ | refine List.Sublist.cons _ ?_)), ⟨by simp only; omega, ?_, hown', Mem.le_trans hm1 (Mem.le_trans hm2 hm3)⟩, by simp only; omega⟩
        simp only
        rw [List.take_succ_eq_append_getElem hlt, hcx, List.map_append]
        exact ht'
      · repeat (first | (first|refine q1 ?_|refine q2 ?_|refine q3 ?_|refine q4 tab rfl rfl ?_|refine q5 ?_|refine q6 ?_|refine q7 ?_|refine q8 ?_|refine q9 ?_|refine q10 ?_|refine q11 ?_|refine q12 rfl ?_|refine q13 ?_|refine q14 ?_|refine q15 ?_|refine q16 rfl ?_|refine q17 rfl ?_) | (first | refine qs rfl (ql tab 0 rfl rfl rfl rfl rfl rfl ?_) | refine qs rfl (qz tab 0 rfl rfl rfl rfl rfl rfl ?_) | refine qs rfl (ql tab 1 rfl rfl rfl rfl rfl rfl ?_) | refine qs rfl (qz tab 1 rfl rfl rfl rfl rfl rfl ?_) | refine qs rfl (ql tab 2 rfl rfl rfl rfl rfl rfl ?_) | refine qs rfl (qz tab 2 rfl rfl rfl rfl rfl rfl ?_) | refine qs rfl (ql tab 3 rfl rfl rfl rfl rfl rfl ?_) | refine qs rfl (qz tab 3 rfl rfl rfl rfl rfl rfl ?_) | refine qs rfl (ql tab 4 rfl rfl rfl rfl rfl rfl ?_) | refine qs rfl (qz tab 4 rfl rfl rfl rfl rfl rfl ?_) | refine qs rfl (ql tab 5 rfl rfl rfl rfl rfl rfl ?_) | refine qs rfl (qz tab 5 rfl rfl rfl rfl rfl rfl ?_)))
        (first | refine TO.step rfl (OT.storeL tab 0 rfl rfl rfl rfl rfl rfl rfl rfl ?_) | refine TO.step rfl (OT.storeL0 tab 0 rfl rfl rfl rfl rfl rfl rfl rfl ?_) | refine TO.step rfl (OT.storeL tab 1 rfl rfl rfl rfl rfl rfl rfl rfl ?_) | refine TO.step rfl (OT.storeL0 tab 1 rfl rfl rfl rfl rfl rfl rfl rfl ?_) | refine TO.step rfl (OT.storeL tab 2 rfl rfl rfl rfl rfl rfl rfl rfl ?_) | refine TO.step rfl (OT.storeL0 tab 2 rfl rfl rfl rfl rfl rfl rfl rfl ?_) | refine TO.step rfl (OT.storeL tab 3 rfl rfl rfl rfl rfl rfl rfl rfl ?_) | refine TO.step rfl (OT.storeL0 tab 3 rfl rfl rfl rfl rfl rfl rfl rfl ?_) | refine TO.step rfl (OT.storeL tab 4 rfl rfl rfl rfl rfl rfl rfl rfl ?_) | refine TO.step rfl (OT.storeL0 tab 4 rfl rfl rfl rfl rfl rfl rfl rfl ?_) | refine TO.step rfl (OT.storeL tab 5 rfl rfl rfl rfl rfl rfl rfl rfl ?_) | refine TO.step rfl (OT.storeL0 tab 5 rfl rfl rfl rfl rfl rfl rfl rfl ?_))
        repeat (first|refine q1 ?_|refine q2 ?_|refine q3 ?_|refine q4 tab rfl rfl ?_|refine q5 ?_|refine q6 ?_|refine q7 ?_|refine q8 ?_|refine q9 ?_|refine q10 ?_|refine q11 ?_|refine q12 rfl ?_|refine q13 ?_|refine q14 ?_|refine q15 ?_|refine q16 rfl ?_|refine q17 rfl ?_)
        refine retQ_ret_c1 tab 2 rfl rfl rfl rfl (by repeat (first | exact List.Sublist.refl _ | exact List.sublist_append_left _ _ | refine List.Sublist.cons_cons _ ?_ | refine List.Sublist.cons _ ?_)) ⟨hm1, rfl, ⟨_, [], u, t⟩, rfl, rfl, rfl, h3, ?_⟩
        rw [List.take_of_length_le (by omega)] at ht
        exact ht
  · rw [if_neg (by omega), if_pos h8, hks]
    have hmem : k ∈ a.kids := by rw [hks]; simp
    obtain ⟨k', n, u, s⟩ := h
    obtain rfl : k' = 8 := h1.trans h8
    have hx : a.kids[0]? = some k := by rw [hks]; rfl
    repeat (first|refine q1 ?_|refine q2 ?_|refine q3 ?_|refine q4 tab rfl rfl ?_|refine q5 ?_|refine q6 ?_|refine q7 ?_|refine q8 ?_|refine q9 ?_|refine q10 ?_|refine q11 ?_|refine q12 rfl ?_|refine q13 ?_|refine q14 ?_|refine q15 ?_|refine q16 rfl ?_|refine q17 rfl ?_)
    refine TO.step rfl (OT.box rfl rfl rfl rfl rfl (fun b => ?_))
    repeat (first|refine q1 ?_|refine q2 ?_|refine q3 ?_|refine q4 tab rfl rfl ?_|refine q5 ?_|refine q6 ?_|refine q7 ?_|refine q8 ?_|refine q9 ?_|refine q10 ?_|refine q11 ?_|refine q12 rfl ?_|refine q13 ?_|refine q14 ?_|refine q15 ?_|refine q16 rfl ?_|refine q17 rfl ?_)
    refine TO.step rfl (OT.alloc tab rfl rfl rfl rfl (fun b2 => ?_))
    repeat (first | (first|refine q1 ?_|refine q2 ?_|refine q3 ?_|refine q4 tab rfl rfl ?_|refine q5 ?_|refine q6 ?_|refine q7 ?_|refine q8 ?_|refine q9 ?_|refine q10 ?_|refine q11 ?_|refine q12 rfl ?_|refine q13 ?_|refine q14 ?_|refine q15 ?_|refine q16 rfl ?_|refine q17 rfl ?_) | (first | refine qs rfl (ql tab 0 rfl rfl rfl rfl rfl rfl ?_) | refine qs rfl (qz tab 0 rfl rfl rfl rfl rfl rfl ?_) | refine qs rfl (ql tab 1 rfl rfl rfl rfl rfl rfl ?_) | refine qs rfl (qz tab 1 rfl rfl rfl rfl rfl rfl ?_) | refine qs rfl (ql tab 2 rfl rfl rfl rfl rfl rfl ?_) | refine qs rfl (qz tab 2 rfl rfl rfl rfl rfl rfl ?_) | refine qs rfl (ql tab 3 rfl rfl rfl rfl rfl rfl ?_) | refine qs rfl (qz tab 3 rfl rfl rfl rfl rfl rfl ?_) | refine qs rfl (ql tab 4 rfl rfl rfl rfl rfl rfl ?_) | refine qs rfl (qz tab 4 rfl rfl rfl rfl rfl rfl ?_) | refine qs rfl (ql tab 5 rfl rfl rfl rfl rfl rfl ?_) | refine qs rfl (qz tab 5 rfl rfl rfl rfl rfl rfl ?_)))
    refine TO.step rfl (OT.alloc tab rfl rfl rfl rfl (fun b3 => ?_))
    repeat (first|refine q1 ?_|refine q2 ?_|refine q3 ?_|refine q4 tab rfl rfl ?_|refine q5 ?_|refine q6 ?_|refine q7 ?_|refine q8 ?_|refine q9 ?_|refine q10 ?_|refine q11 ?_|refine q12 rfl ?_|refine q13 ?_|refine q14 ?_|refine q15 ?_|refine q16 rfl ?_|refine q17 rfl ?_)
    (first | refine TO.step rfl (OT.storeL tab 0 rfl rfl rfl rfl rfl rfl rfl rfl ?_) | refine TO.step rfl (OT.storeL0 tab 0 rfl rfl rfl rfl rfl rfl rfl rfl ?_) | refine TO.step rfl (OT.storeL tab 1 rfl rfl rfl rfl rfl rfl rfl rfl ?_) | refine TO.step rfl (OT.storeL0 tab 1 rfl rfl rfl rfl rfl rfl rfl rfl ?_) | refine TO.step rfl (OT.storeL tab 2 rfl rfl rfl rfl rfl rfl rfl rfl ?_) | refine TO.step rfl (OT.storeL0 tab 2 rfl rfl rfl rfl rfl rfl rfl rfl ?_) | refine TO.step rfl (OT.storeL tab 3 rfl rfl rfl rfl rfl rfl rfl rfl ?_) | refine TO.step rfl (OT.storeL0 tab 3 rfl rfl rfl rfl rfl rfl rfl rfl ?_) | refine TO.step rfl (OT.storeL tab 4 rfl rfl rfl rfl rfl rfl rfl rfl ?_) | refine TO.step rfl (OT.storeL0 tab 4 rfl rfl rfl rfl rfl rfl rfl rfl ?_) | refine TO.step rfl (OT.storeL tab 5 rfl rfl rfl rfl rfl rfl rfl rfl ?_) | refine TO.step rfl (OT.storeL0 tab 5 rfl rfl rfl rfl rfl rfl rfl rfl ?_))
    repeat (first | (first|refine q1 ?_|refine q2 ?_|refine q3 ?_|refine q4 tab rfl rfl ?_|refine q5 ?_|refine q6 ?_|refine q7 ?_|refine q8 ?_|refine q9 ?_|refine q10 ?_|refine q11 ?_|refine q12 rfl ?_|refine q13 ?_|refine q14 ?_|refine q15 ?_|refine q16 rfl ?_|refine q17 rfl ?_) | (first | refine qs rfl (ql tab 0 rfl rfl rfl rfl rfl rfl ?_) | refine qs rfl (qz tab 0 rfl rfl rfl rfl rfl rfl ?_) | refine qs rfl (ql tab 1 rfl rfl rfl rfl rfl rfl ?_) | refine qs rfl (qz tab 1 rfl rfl rfl rfl rfl rfl ?_) | refine qs rfl (ql tab 2 rfl rfl rfl rfl rfl rfl ?_) | refine qs rfl (qz tab 2 rfl rfl rfl rfl rfl rfl ?_) | refine qs rfl (ql tab 3 rfl rfl rfl rfl rfl rfl ?_) | refine qs rfl (qz tab 3 rfl rfl rfl rfl rfl rfl ?_) | refine qs rfl (ql tab 4 rfl rfl rfl rfl rfl rfl ?_) | refine qs rfl (qz tab 4 rfl rfl rfl rfl rfl rfl ?_) | refine qs rfl (ql tab 5 rfl rfl rfl rfl rfl rfl ?_) | refine qs rfl (qz tab 5 rfl rfl rfl rfl rfl rfl ?_)))
    refine TO.step rfl (OT.index tab rTree 0 h4 rfl rfl rfl rfl rfl (by first | rfl | omega) rfl hx ?_)
    rintro b' i' h' hrd hA
    (first | refine TO.step rfl (OT.loadA tab hA rfl rfl rfl rfl rfl ?_) | refine TO.step rfl (OT.loadA0 tab hA rfl rfl rfl rfl rfl ?_))
    repeat (first|refine q1 ?_|refine q2 ?_|refine q3 ?_|refine q4 tab rfl rfl ?_|refine q5 ?_|refine q6 ?_|refine q7 ?_|refine q8 ?_|refine q9 ?_|refine q10 ?_|refine q11 ?_|refine q12 rfl ?_|refine q13 ?_|refine q14 ?_|refine q15 ?_|refine q16 rfl ?_|refine q17 rfl ?_)
    refine TO.step rfl (OT.call rfl rfl rfl rfl rfl rfl goes36 ((ih k hmem hkn _ _ h' (rTree_iff.1 hrd) (Nat.le_trans (Nat.le_of_lt (bulk_kid hmem)) hB)).x ?_));
    rintro _ m2 _ ⟨hm2, rfl, ht2, rfl, hrt⟩
    repeat (first|refine q1 ?_|refine q2 ?_|refine q3 ?_|refine q4 tab rfl rfl ?_|refine q5 ?_|refine q6 ?_|refine q7 ?_|refine q8 ?_|refine q9 ?_|refine q10 ?_|refine q11 ?_|refine q12 rfl ?_|refine q13 ?_|refine q14 ?_|refine q15 ?_|refine q16 rfl ?_|refine q17 rfl ?_)
    (first | refine TO.step rfl (OT.storeL tab 0 rfl rfl rfl rfl rfl rfl rfl rfl ?_) | refine TO.step rfl (OT.storeL0 tab 0 rfl rfl rfl rfl rfl rfl rfl rfl ?_) | refine TO.step rfl (OT.storeL tab 1 rfl rfl rfl rfl rfl rfl rfl rfl ?_) | refine TO.step rfl (OT.storeL0 tab 1 rfl rfl rfl rfl rfl rfl rfl rfl ?_) | refine TO.step rfl (OT.storeL tab 2 rfl rfl rfl rfl rfl rfl rfl rfl ?_) | refine TO.step rfl (OT.storeL0 tab 2 rfl rfl rfl rfl rfl rfl rfl rfl ?_) | refine TO.step rfl (OT.storeL tab 3 rfl rfl rfl rfl rfl rfl rfl rfl ?_) | refine TO.step rfl (OT.storeL0 tab 3 rfl rfl rfl rfl rfl rfl rfl rfl ?_) | refine TO.step rfl (OT.storeL tab 4 rfl rfl rfl rfl rfl rfl rfl rfl ?_) | refine TO.step rfl (OT.storeL0 tab 4 rfl rfl rfl rfl rfl rfl rfl rfl ?_) | refine TO.step rfl (OT.storeL tab 5 rfl rfl rfl rfl rfl rfl rfl rfl ?_) | refine TO.step rfl (OT.storeL0 tab 5 rfl rfl rfl rfl rfl rfl rfl rfl ?_))
    repeat (first|refine q1 ?_|refine q2 ?_|refine q3 ?_|refine q4 tab rfl rfl ?_|refine q5 ?_|refine q6 ?_|refine q7 ?_|refine q8 ?_|refine q9 ?_|refine q10 ?_|refine q11 ?_|refine q12 rfl ?_|refine q13 ?_|refine q14 ?_|refine q15 ?_|refine q16 rfl ?_|refine q17 rfl ?_)
    exact retQ_ret_c1 tab 1 rfl rfl rfl rfl (by repeat (first | exact List.Sublist.refl _ | exact List.sublist_append_left _ _ | refine List.Sublist.cons_cons _ ?_ | refine List.Sublist.cons _ ?_)) ⟨hm2, rfl, ht2, rfl, hrt⟩
end Go.Sep
