/-
  Plain laws of the texts of types.
-/
import Derived.Lib.Join
import Derived.Test.YtlpcakplpnpaeaaB5
set_option linter.unusedVariables false
set_option linter.unusedSimpArgs false
namespace Go.Sep
def joinS (xs : List Str) (sep : Str) : Str := Lib.join xs sep
def commaS : Str := [44, 32]
def restS (l : List Str) : Str := if l.length = 0 then [] else if l.length = 1 then [32] ++ l.headD [] else [32, 40] ++ joinS l commaS ++ [41]
mutual
def Tree.show : Tree → Str
  | .mk k n u ks => if k = 1 then [105, 110, 116] else if k = 2 then [98, 111, 111, 108] else if k = 3 then [115, 116, 114, 105, 110, 103] else if k = 8 then [110, 105, 108] else if k = 4 then n
    else if k = 5 then [42] ++ (showL ks).headD [] else if k = 6 then [91, 93] ++ (showL ks).headD []
    else [102, 117, 110, 99, 40] ++ joinS ((showL ks).take u.toNat) commaS ++ [41] ++ restS ((showL ks).drop u.toNat)
def showL : List Tree → List Str
  | [] => []
  | t :: ts => t.show :: showL ts
end
theorem showL_eq : ∀ l : List Tree, showL l = l.map Tree.show
  | [] => rfl
  | t :: ts => by rw [showL, showL_eq ts]; rfl
theorem show_eq (a : Tree) : a.show = if a.kind = 1 then [105, 110, 116] else if a.kind = 2 then [98, 111, 111, 108] else if a.kind = 3 then [115, 116, 114, 105, 110, 103] else if a.kind = 8 then [110, 105, 108] else if a.kind = 4 then a.name
    else if a.kind = 5 then [42] ++ (a.kids.map Tree.show).headD [] else if a.kind = 6 then [91, 93] ++ (a.kids.map Tree.show).headD []
    else [102, 117, 110, 99, 40] ++ joinS ((a.kids.map Tree.show).take a.num.toNat) commaS ++ [41] ++ restS ((a.kids.map Tree.show).drop a.num.toNat) := by
  obtain ⟨k, n, u, ks⟩ := a
  simp only [Tree.kind, Tree.name, Tree.num, Tree.kids]
  rw [Tree.show, showL_eq]
  rfl
theorem joinS_le (l : List Str) : (joinS l commaS).length ≤ Lib.lens l + 2 * l.length := by
  cases l with
  | nil => simp [joinS, Lib.join_nil, Lib.lens]
  | cons x r =>
    unfold joinS
    rw [Lib.join_cons, List.length_append, Lib.joinTail_length]
    simp only [Lib.lens, List.map_cons, List.sum_cons, List.length_cons, commaS, List.length_nil]
    omega
theorem lens_append (l r : List Str) : Lib.lens (l ++ r) = Lib.lens l + Lib.lens r := by simp [Lib.lens]
theorem restS_le (l : List Str) : (restS l).length ≤ Lib.lens l + 2 * l.length + 3 := by
  unfold restS
  split
  · simp
  split
  · rename_i h0 h1
    match l, h1 with
    | [x], _ => simp [Lib.lens]
  · have := joinS_le l
    simp only [List.length_append, List.length_cons, List.length_nil]
    omega
mutual
theorem show_len : ∀ a : Tree, a.show.length + 2 ≤ 16 * a.bulk
  | .mk k n u ks => by
    have ih := showL_len ks
    have hh : ((showL ks).headD []).length ≤ Lib.lens (showL ks) := by
      cases showL ks with
      | nil => simp
      | cons x r => simp [Lib.lens]
    have h1 := joinS_le ((showL ks).take u.toNat)
    have h2 := restS_le ((showL ks).drop u.toNat)
    have h3 := lens_append ((showL ks).take u.toNat) ((showL ks).drop u.toNat)
    have h4 := congrArg List.length (List.take_append_drop u.toNat (showL ks))
    rw [List.take_append_drop] at h3
    rw [List.length_append] at h4
    have h5 : (showL ks).length = ks.length := by rw [showL_eq, List.length_map]
    rw [Tree.show]
    simp only [Tree.bulk]
    repeat' split
    all_goals (try simp only [List.length_append, List.length_cons, List.length_nil]); omega
theorem showL_len : ∀ l : List Tree, Lib.lens (showL l) + 2 * l.length ≤ 16 * bulkL l
  | [] => by simp [showL, Lib.lens, bulkL]
  | t :: ts => by
    have h1 := show_len t
    have h2 := showL_len ts
    simp only [showL, Lib.lens, List.map_cons, List.sum_cons, bulkL, List.length_cons] at *
    omega
end
theorem formed_kinds {a : Tree} (h : a.formed = true) : (∀ k ∈ a.kids, k.formed = true) ∧ ((a.kind = 1 ∨ a.kind = 2 ∨ a.kind = 3 ∨ a.kind = 8 ∨ a.kind = 4) ∨ ((a.kind = 5 ∨ a.kind = 6) ∧ a.kids.length = 1) ∨ (a.kind = 7 ∧ 0 ≤ a.num ∧ a.num ≤ (a.kids.length : Int))) := by
  rw [formed_eq, Bool.and_eq_true, Bool.and_eq_true] at h
  obtain ⟨h1, h2, h3⟩ := h
  refine ⟨fun k hk => ?_, ?_⟩
  · rw [formedL_eq, List.all_eq_true] at h1
    have := h1 k hk
    rw [Bool.and_eq_true] at this
    exact this.2
  · unfold kindB at h3
    split at h3
    · left; omega
    split at h3
    · left; omega
    split at h3
    · exact .inr (.inl ⟨by assumption, of_decide_eq_true h3⟩)
    split at h3
    · simp only [Bool.and_eq_true, decide_eq_true_eq] at h3
      exact .inr (.inr ⟨by assumption, h3.1, h3.2⟩)
    · cases h3
end Go.Sep

/-
  The text of a type: the walks of Show and show.
-/
set_option linter.unusedVariables false
set_option linter.unusedSimpArgs false
namespace Go.Sep
open Go.Proofs Go.RowKit
attribute [local irreducible] TC TO OT TCallX TCall DO DOt thenQ blockQ retQ At

theorem St.below {m : Mem} {w w' : World} {L : List Item} (h : St m w L) (hb : Below w.heap.size w w') : St m w' L := by
  have hc : ∀ (b i : Nat) (v : Value), w.cell? ⟨b, i, none⟩ = some v → w'.cell? ⟨b, i, none⟩ = some v ∧ w'.frozen? ⟨b, i, none⟩ = w.frozen? ⟨b, i, none⟩ := fun b i v hv => by
    have hlt := World.block_lt_of_cell? _ _ hv
    have e := hb.block b hlt
    exact ⟨by rw [World.cell?_of_block e]; exact hv, World.frozen?_of_block e⟩
  refine ⟨hb.os.trans h.os, hb.tape.trans h.tape, hb.output.trans h.output, Nat.le_trans h.size hb.size, fun b hlt => (hb.block b (Nat.lt_of_lt_of_le hlt h.size)).trans (h.pin b hlt), fun b i v hv => (hc b i v (h.c b i v hv)).1, fun b x hx => ?_, fun x hx => ?_, h.free, h.disj⟩
  · obtain ⟨h1, h2⟩ := h.o b x hx
    have hlt : b < w.heap.size := (Array.getElem?_eq_some_iff.1 h1).1
    exact ⟨(hb.block b hlt).trans h1, h2⟩
  · have hi := h.items x hx
    cases x with
    | cells b off vs =>
      intro j v hj
      obtain ⟨h1, h2⟩ := hi j v hj
      obtain ⟨h3, h4⟩ := hc _ _ _ h1
      exact ⟨h3, h4.trans h2⟩
    | room b off n =>
      intro j hj
      obtain ⟨v, h1, h2⟩ := hi j hj
      obtain ⟨h3, h4⟩ := hc _ _ _ h1
      exact ⟨v, h3, h4.trans h2⟩
    | obj b o =>
      obtain ⟨h1, h2⟩ := hi
      have hlt : b < w.heap.size := (Array.getElem?_eq_some_iff.1 h1).1
      exact ⟨(hb.block b hlt).trans h1, h2⟩

theorem all2_eq {m : Mem} : ∀ {hs l : List Str}, All2 (rStr.rep m) hs l → hs = l
  | [], [], _ => rfl
  | h :: hs, a :: l, hh => by rw [show h = a from hh.1, all2_eq hh.2]
  | [], _ :: _, hh => hh.elim
  | _ :: _, [], hh => hh.elim
theorem encs_str : ∀ xs : List Str, encs rStr xs = xs.map strV
  | [] => rfl
  | x :: xs => by rw [List.map_cons, ← encs_str xs]; rfl

theorem join_law (m : Mem) (L : List Item) (s : Sl) (xs : List Str) (hs : SlRep rStr m s xs) (sep : Str) (hlen : (joinS xs sep).length ≤ 140737488355328) :
    TCall Try.prog 80 ⟨[s.v, strV sep]⟩ m L (Ret (strV (joinS xs sep)) m L) := by
  unfold TCall TCallX
  intro w hw
  obtain ⟨hs', h1, h2⟩ := hs.cells
  have hl := hs.len
  have hsm := hs.small rfl
  have hcap := hs.cap
  rcases h2 with ⟨h0, _⟩ | ⟨b, o, ha, hA⟩
  · obtain ⟨a, n, c⟩ := s
    subst h0
    obtain rfl : n = 0 := hl
    refine (Try.strings_Join_none a c ⟨⟨sep⟩⟩ w).mono fun e w' ⟨he, hww⟩ => ?_
    subst he; subst hww
    exact ⟨m, L, hw, rfl, rfl, rfl⟩
  · by_cases hx0 : xs = []
    · obtain ⟨a, n, c⟩ := s
      subst hx0
      obtain rfl : n = 0 := hl
      refine (Try.strings_Join_none a c ⟨⟨sep⟩⟩ w).mono fun e w' ⟨he, hww⟩ => ?_
      subst he; subst hww
      exact ⟨m, L, hw, rfl, rfl, rfl⟩
    have hxs : hs' = xs := all2_eq h1
    subst hxs
    obtain ⟨a, n, c⟩ := s
    simp only at ha hl hcap
    subst ha
    have hmm : (hs'.map fun s => (⟨⟨s⟩⟩ : ByteArray)).map (fun x => x.data.toList) = hs' := by rw [List.map_map]; exact List.map_id _
    have hcells : ∀ (j : Nat) (x : ByteArray), (hs'.map fun s => (⟨⟨s⟩⟩ : ByteArray))[j]? = some x → w.cell? ⟨b, o + j, none⟩ = some (.string x) := fun j x hj => by
      rw [List.getElem?_map] at hj
      cases hq : hs'[j]? with
      | none => rw [hq] at hj; cases hj
      | some y =>
        rw [hq] at hj
        simp only [Option.map_some, Option.some.injEq] at hj
        subst hj
        exact hw.at_cells hA j _ (by rw [encs_str, List.getElem?_map, hq]; rfl)
    have hlt : b < w.heap.size := by
      have hpos : 0 < hs'.length := List.length_pos_iff.2 hx0
      have h3 := hcells 0 ⟨⟨hs'[0]⟩⟩ (by rw [List.getElem?_map, List.getElem?_eq_getElem hpos]; rfl)
      exact World.block_lt_of_cell? _ _ h3
    have hJ := Try.strings_Join b o c (hs'.map fun s => (⟨⟨s⟩⟩ : ByteArray)) ⟨⟨sep⟩⟩ w hcells hlt (by rw [List.length_map]; omega) (by rw [List.length_map]; omega) (by rw [hmm]; exact hlen)
    rw [List.length_map, ← hl, hmm] at hJ
    refine hJ.mono fun e w' ⟨he, hww⟩ => ?_
    subst he
    exact ⟨m, L, hw.below hww, rfl, rfl, rfl⟩

theorem commaS_len : commaS.length = 2 := rfl
theorem row_step (l : List Str) (k : Nat) (h : k < l.length) : joinS (l.take (k + 1)) commaS = (if 0 < k then joinS (l.take k) commaS ++ commaS else joinS (l.take k) commaS) ++ l[k] := by
  cases l with
  | nil => cases h
  | cons x r =>
    cases k with
    | zero => simp [joinS, Lib.join_cons, Lib.joinTail, Lib.join_nil]
    | succ k =>
      rw [if_pos (by omega)]
      have hk : k < r.length := by simpa using h
      unfold joinS
      rw [List.take_succ_cons, List.take_succ_cons, Lib.join_cons, Lib.join_cons, Lib.joinTail_take_succ _ _ _ r[k] (by simp [hk])]
      simp [List.append_assoc]

theorem lens_take (l : List Str) (k : Nat) : Lib.lens (l.take k) ≤ Lib.lens l := Lib.lens_take_le l k
theorem joinS_take (l : List Str) (k : Nat) : (joinS (l.take k) commaS).length ≤ Lib.lens l + 2 * l.length := by
  have h1 := joinS_le (l.take k)
  have h2 := lens_take l k
  have h3 : (l.take k).length ≤ l.length := by rw [List.length_take]; omega
  omega

set_option maxHeartbeats 1600000 in
theorem row_ref (m : Mem) (L : List Item) (s : Sl) (l : List Tree) (hs : SlRep rTree m s l) (hB : Lib.lens (l.map Tree.show) + 2 * l.length ≤ 16777216)
    (hp : ∀ a ∈ l, ∀ (m : Mem) (L : List Item) (h : HTree), TreeRep m h a → TCall Try.prog 44 ⟨[treeV h]⟩ m L (Ret (strV a.show) m L)) :
    TCall Try.prog 81 ⟨[s.v]⟩ m L (Ret (strV (joinS (l.map Tree.show) commaS)) m L) := by
  have hl := hs.len
  have hsm := hs.small rfl
  unfold TCall
  refine TCallX.enter Try.func81 rfl 23 rfl ?_
  repeat (first|refine q1 ?_|refine q2 ?_|refine q3 ?_|refine q4 tab rfl rfl ?_|refine q5 ?_|refine q6 ?_)
  refine TC.loopK (ι := Nat) [0] rfl (fun k => [(4, .int .i64 (k : Int)), (3, strV (joinS ((l.map Tree.show).take k) commaS))]) (fun _ => m) (fun _ => L) (fun k => k ≤ l.length) (fun k => l.length - k) 0 (by repeat (first|exact trivial|refine And.intro rfl ?_)) rfl (by repeat (exact List.Sublist.refl _)) (Nat.zero_le _) ?_
  rintro k hk
  repeat (first|refine q1 ?_|refine q3 ?_|refine q4 tab rfl rfl ?_|refine q5 ?_|refine q6 ?_)
  refine TC.condP rfl (fun hlt' => ?_) (fun hlt' => ?_)
  · have hlt : k < l.length := by omega
    have hx : l[k]? = some l[k] := by simp [hlt]
    have hmem := List.getElem_mem hlt
    have hst := row_step (l.map Tree.show) k (by rw [List.length_map]; exact hlt)
    have hj := joinS_take (l.map Tree.show) k
    have hj2 := joinS_take (l.map Tree.show) (k + 1)
    rw [List.length_map] at hj hj2
    rw [List.getElem_map] at hst
    repeat (first|refine q1 ?_|refine q2 ?_|refine q3 ?_|refine q4 tab rfl rfl ?_|refine q5 ?_|refine q6 ?_|refine q13 ?_)
    refine TC.condP rfl (fun h0 => ?_) (fun h0 => ?_)
    · have h0' : 0 < k := by omega
      rw [if_pos h0'] at hst
      repeat (first|refine q3 ?_|refine q4 tab rfl rfl ?_)
      refine TO.step rfl (OT.concat rfl rfl rfl rfl rfl (by (try simp only [List.length_append, List.length_cons, List.length_nil]); omega) ?_)
      repeat (first|refine q3 ?_|refine q4 tab rfl rfl ?_|refine q5 ?_|refine q6 ?_)
      refine TO.step rfl (OT.index tab rTree k hs rfl rfl rfl rfl rfl (by first | rfl | omega) rfl hx ?_)
      rintro b' i' h' hrd hA
      (refine TO.step rfl (OT.loadA0 tab hA rfl rfl rfl rfl rfl ?_))
      skip
      refine TO.step rfl (OT.call rfl rfl rfl rfl rfl rfl goes44 ((hp _ hmem _ _ h' (rTree_iff.1 hrd)).x ?_));
      rintro _ _ _ ⟨rfl, rfl, rfl⟩
      have hcl := congrArg List.length hst
      simp only [List.length_append, commaS_len] at hcl
      refine TO.step rfl (OT.concat rfl rfl rfl rfl rfl (by (try simp only [List.length_append, List.length_cons, List.length_nil]); omega) ?_)
      repeat (first|refine q3 ?_|refine q4 tab rfl rfl ?_|refine q5 ?_|refine q6 ?_|refine q7 ?_)
      refine TO.step rfl (OT.arith (r' := ((k + 1 : Nat) : Int)) rfl rfl rfl rfl rfl rfl rfl (by omega) ?_)
      repeat (first|refine q4 tab rfl rfl ?_|refine q5 ?_|refine q6 ?_)
      exact ⟨k + 1, by simp only [hst]; exact (by repeat (first|exact trivial|refine And.intro rfl ?_)), (by repeat (first|exact trivial|refine And.intro rfl ?_)), rfl, rfl, (by repeat (exact List.Sublist.refl _)), by omega, by omega⟩
    · have h0' : ¬ 0 < k := by omega
      rw [if_neg h0'] at hst
      repeat (first|refine q3 ?_|refine q4 tab rfl rfl ?_|refine q6 ?_|refine q13 ?_)
      refine TO.step rfl (OT.index tab rTree k hs rfl rfl rfl rfl rfl (by first | rfl | omega) rfl hx ?_)
      rintro b' i' h' hrd hA
      (refine TO.step rfl (OT.loadA0 tab hA rfl rfl rfl rfl rfl ?_))
      skip
      refine TO.step rfl (OT.call rfl rfl rfl rfl rfl rfl goes44 ((hp _ hmem _ _ h' (rTree_iff.1 hrd)).x ?_));
      rintro _ _ _ ⟨rfl, rfl, rfl⟩
      have hcl := congrArg List.length hst
      simp only [List.length_append, commaS_len] at hcl
      refine TO.step rfl (OT.concat rfl rfl rfl rfl rfl (by (try simp only [List.length_append, List.length_cons, List.length_nil]); omega) ?_)
      repeat (first|refine q3 ?_|refine q4 tab rfl rfl ?_|refine q5 ?_|refine q6 ?_|refine q7 ?_)
      refine TO.step rfl (OT.arith (r' := ((k + 1 : Nat) : Int)) rfl rfl rfl rfl rfl rfl rfl (by omega) ?_)
      repeat (first|refine q4 tab rfl rfl ?_|refine q5 ?_|refine q6 ?_)
      exact ⟨k + 1, by simp only [hst]; exact (by repeat (first|exact trivial|refine And.intro rfl ?_)), (by repeat (first|exact trivial|refine And.intro rfl ?_)), rfl, rfl, (by repeat (exact List.Sublist.refl _)), by omega, by omega⟩
  · repeat (first|refine q1 ?_|refine q3 ?_|refine q4 tab rfl rfl ?_|refine q5 ?_|refine q6 ?_|refine q10 ?_|refine q11 ?_|refine q14 ?_|refine q15 ?_)
    refine retQ_ret rfl (by repeat (exact List.Sublist.refl _)) ⟨rfl, rfl, ?_⟩
    rw [List.take_of_length_le (by rw [List.length_map]; omega)]
end Go.Sep

/-
  The text of a type: the walks of the reference's show, of Show, and of both Texts.
-/
set_option linter.unusedVariables false
set_option linter.unusedSimpArgs false
namespace Go.Sep
open Go.Proofs Go.RowKit
attribute [local irreducible] TC TO OT TCallX TCall DO DOt thenQ blockQ retQ At

theorem headD_show {l : List Tree} (h : 0 < l.length) : (l.map Tree.show).headD [] = l[0].show := by
  cases l with
  | nil => cases h
  | cons x r => rfl
theorem map_take_drop (l : List Tree) (k : Nat) : (l.take k).map Tree.show = (l.map Tree.show).take k ∧ (l.drop k).map Tree.show = (l.map Tree.show).drop k := by
  exact ⟨List.map_take .., List.map_drop ..⟩

set_option maxHeartbeats 6400000 in
theorem show_ref (a : Tree) : ∀ (hf : a.formed = true) (m : Mem) (L : List Item) (h : HTree) (hr : TreeRep m h a) (hB : a.bulk ≤ 1048576), TCall Try.prog 44 ⟨[treeV h]⟩ m L (Ret (strV a.show) m L) := by
  induction a using Tree.ind with
  | h a ih =>
  intro hf m L h hr hB
  obtain ⟨h1, h2, h3, h4⟩ := hr
  have hl := h4.len
  have hsm := h4.small rfl
  obtain ⟨hkf, hkinds⟩ := formed_kinds hf
  have hsl := showL_len a.kids
  have hkb : bulkL a.kids < a.bulk := by obtain ⟨_, _, _, ks⟩ := a; simp only [Tree.bulk, Tree.kids]; omega
  rw [showL_eq] at hsl
  obtain ⟨q, n, u, s⟩ := h
  simp only at h1 h2 h3 h4 hl
  rw [show_eq]
  unfold TCall
  refine TCallX.enter Try.func44 rfl 73 rfl ?_
  rcases hkinds with hA | ⟨hC, hlen⟩ | ⟨hD, hn0, hn1⟩
  · rcases hA with hA | hA | hA | hA | hA
    · obtain rfl : q = 1 := h1.trans hA
      rw [if_pos hA]
      repeat (first|refine q1 ?_|refine q3 ?_)
      refine TO.step rfl (OT.box rfl rfl rfl rfl rfl (fun b => ?_))
      repeat (first|(first|refine q1 ?_|refine q2 ?_|refine q3 ?_|refine q4 tab rfl rfl ?_|refine q5 ?_|refine q6 ?_|refine q8 ?_|refine q9 ?_|refine q15 ?_|refine q16 rfl ?_)|(refine qs rfl (ql tab 0 rfl rfl rfl rfl rfl rfl ?_)))
      refine retQ_ret rfl (by repeat (first|exact List.Sublist.refl _|refine List.Sublist.cons _ ?_)) ⟨rfl, rfl, ?_⟩
      rfl
    · obtain rfl : q = 2 := h1.trans hA
      rw [if_neg (by omega), if_pos hA]
      repeat (first|refine q1 ?_|refine q3 ?_)
      refine TO.step rfl (OT.box rfl rfl rfl rfl rfl (fun b => ?_))
      repeat (first|(first|refine q1 ?_|refine q2 ?_|refine q3 ?_|refine q4 tab rfl rfl ?_|refine q5 ?_|refine q6 ?_|refine q8 ?_|refine q9 ?_|refine q15 ?_|refine q16 rfl ?_|refine q17 rfl ?_)|(refine qs rfl (ql tab 0 rfl rfl rfl rfl rfl rfl ?_)))
      refine retQ_ret rfl (by repeat (first|exact List.Sublist.refl _|refine List.Sublist.cons _ ?_)) ⟨rfl, rfl, ?_⟩
      rfl
    · obtain rfl : q = 3 := h1.trans hA
      rw [if_neg (by omega), if_neg (by omega), if_pos hA]
      repeat (first|refine q1 ?_|refine q3 ?_)
      refine TO.step rfl (OT.box rfl rfl rfl rfl rfl (fun b => ?_))
      repeat (first|(first|refine q1 ?_|refine q2 ?_|refine q3 ?_|refine q4 tab rfl rfl ?_|refine q5 ?_|refine q6 ?_|refine q8 ?_|refine q9 ?_|refine q15 ?_|refine q16 rfl ?_|refine q17 rfl ?_)|(refine qs rfl (ql tab 0 rfl rfl rfl rfl rfl rfl ?_)))
      refine retQ_ret rfl (by repeat (first|exact List.Sublist.refl _|refine List.Sublist.cons _ ?_)) ⟨rfl, rfl, ?_⟩
      rfl
    · obtain rfl : q = 8 := h1.trans hA
      rw [if_neg (by omega), if_neg (by omega), if_neg (by omega), if_pos hA]
      repeat (first|refine q1 ?_|refine q3 ?_)
      refine TO.step rfl (OT.box rfl rfl rfl rfl rfl (fun b => ?_))
      repeat (first|(first|refine q1 ?_|refine q2 ?_|refine q3 ?_|refine q4 tab rfl rfl ?_|refine q5 ?_|refine q6 ?_|refine q8 ?_|refine q9 ?_|refine q15 ?_|refine q16 rfl ?_|refine q17 rfl ?_)|(refine qs rfl (ql tab 0 rfl rfl rfl rfl rfl rfl ?_)))
      refine retQ_ret rfl (by repeat (first|exact List.Sublist.refl _|refine List.Sublist.cons _ ?_)) ⟨rfl, rfl, ?_⟩
      rfl
    · obtain rfl : q = 4 := h1.trans hA
      rw [if_neg (by omega), if_neg (by omega), if_neg (by omega), if_neg (by omega), if_pos hA, ← h2]
      repeat (first|refine q1 ?_|refine q3 ?_)
      refine TO.step rfl (OT.box rfl rfl rfl rfl rfl (fun b => ?_))
      repeat (first|(first|refine q1 ?_|refine q2 ?_|refine q3 ?_|refine q4 tab rfl rfl ?_|refine q5 ?_|refine q6 ?_|refine q8 ?_|refine q9 ?_|refine q15 ?_|refine q16 rfl ?_|refine q17 rfl ?_)|(refine qs rfl (ql tab 0 rfl rfl rfl rfl rfl rfl ?_)))
      refine retQ_ret rfl (by repeat (first|exact List.Sublist.refl _|refine List.Sublist.cons _ ?_)) ⟨rfl, rfl, ?_⟩
      rfl
  · have hlt : 0 < a.kids.length := by omega
    have hx : a.kids[0]? = some a.kids[0] := by simp [hlt]
    have hmem := List.getElem_mem hlt
    have hhd : (a.kids.map Tree.show).headD [] = a.kids[0].show := headD_show hlt
    have hkl := show_len a.kids[0]
    have hkk := bulk_kid hmem
    rw [hhd, if_neg (by omega), if_neg (by omega), if_neg (by omega), if_neg (by omega), if_neg (by omega)]
    rcases hC with hC | hC
    · obtain rfl : q = 5 := h1.trans hC
      rw [if_pos hC]
      repeat (first|refine q1 ?_|refine q3 ?_)
      refine TO.step rfl (OT.box rfl rfl rfl rfl rfl (fun b => ?_))
      repeat (first|(first|refine q1 ?_|refine q2 ?_|refine q3 ?_|refine q4 tab rfl rfl ?_|refine q5 ?_|refine q6 ?_|refine q16 rfl ?_|refine q17 rfl ?_)|(refine qs rfl (ql tab 0 rfl rfl rfl rfl rfl rfl ?_)))
      refine TO.step rfl (OT.index tab rTree 0 h4 rfl rfl rfl rfl rfl (by first | rfl | omega) rfl hx ?_)
      rintro b' i' h' hrd hA
      (refine TO.step rfl (OT.loadA0 tab hA rfl rfl rfl rfl rfl ?_))
      skip
      refine TO.step rfl (OT.call rfl rfl rfl rfl rfl rfl goes44 ((ih _ hmem (hkf _ hmem) _ _ h' (rTree_iff.1 hrd) (Nat.le_trans (Nat.le_of_lt hkk) hB)).x ?_));
      rintro _ _ _ ⟨rfl, rfl, rfl⟩
      refine TO.step rfl (OT.concat rfl rfl rfl rfl rfl (by simp only [List.length_cons, List.length_nil]; omega) ?_)
      repeat (first|refine q4 tab rfl rfl ?_|refine q5 ?_|refine q6 ?_|refine q8 ?_|refine q9 ?_|refine q15 ?_)
      refine retQ_ret rfl (by repeat (first|exact List.Sublist.refl _|refine List.Sublist.cons _ ?_)) ⟨rfl, rfl, ?_⟩
      rfl
    · obtain rfl : q = 6 := h1.trans hC
      rw [if_neg (by omega), if_pos hC]
      repeat (first|refine q1 ?_|refine q3 ?_)
      refine TO.step rfl (OT.box rfl rfl rfl rfl rfl (fun b => ?_))
      repeat (first|(first|refine q1 ?_|refine q2 ?_|refine q3 ?_|refine q4 tab rfl rfl ?_|refine q5 ?_|refine q6 ?_|refine q16 rfl ?_|refine q17 rfl ?_)|(refine qs rfl (ql tab 0 rfl rfl rfl rfl rfl rfl ?_)))
      refine TO.step rfl (OT.index tab rTree 0 h4 rfl rfl rfl rfl rfl (by first | rfl | omega) rfl hx ?_)
      rintro b' i' h' hrd hA
      (refine TO.step rfl (OT.loadA0 tab hA rfl rfl rfl rfl rfl ?_))
      skip
      refine TO.step rfl (OT.call rfl rfl rfl rfl rfl rfl goes44 ((ih _ hmem (hkf _ hmem) _ _ h' (rTree_iff.1 hrd) (Nat.le_trans (Nat.le_of_lt hkk) hB)).x ?_));
      rintro _ _ _ ⟨rfl, rfl, rfl⟩
      refine TO.step rfl (OT.concat rfl rfl rfl rfl rfl (by simp only [List.length_cons, List.length_nil]; omega) ?_)
      repeat (first|refine q4 tab rfl rfl ?_|refine q5 ?_|refine q6 ?_|refine q8 ?_|refine q9 ?_|refine q15 ?_)
      refine retQ_ret rfl (by repeat (first|exact List.Sublist.refl _|refine List.Sublist.cons _ ?_)) ⟨rfl, rfl, ?_⟩
      rfl
  · obtain rfl : q = 7 := h1.trans hD
    rw [if_neg (by omega), if_neg (by omega), if_neg (by omega), if_neg (by omega), if_neg (by omega), if_neg (by omega), if_neg (by omega)]
    have hnum : u = ((a.num.toNat : Nat) : Int) := by omega
    have hnl : a.num.toNat ≤ a.kids.length := by omega
    obtain ⟨mt, md⟩ := map_take_drop a.kids a.num.toNat
    have htd := lens_append ((a.kids.map Tree.show).take a.num.toNat) ((a.kids.map Tree.show).drop a.num.toNat)
    rw [List.take_append_drop] at htd
    have hj1 := joinS_le ((a.kids.map Tree.show).take a.num.toNat)
    have hj2 := joinS_le ((a.kids.map Tree.show).drop a.num.toNat)
    rw [List.length_take, List.length_map] at hj1
    rw [List.length_drop, List.length_map] at hj2
    repeat (first|refine q1 ?_|refine q3 ?_)
    refine TO.step rfl (OT.box rfl rfl rfl rfl rfl (fun b => ?_))
    repeat (first|(first|refine q1 ?_|refine q2 ?_|refine q3 ?_|refine q4 tab rfl rfl ?_|refine q5 ?_|refine q6 ?_|refine q7 ?_|refine q13 ?_|refine q17 rfl ?_)|(refine qs rfl (ql tab 0 rfl rfl rfl rfl rfl rfl ?_)))
    refine TO.step rfl (OT.cut tab rTree 0 a.num.toNat h4 rfl rfl rfl rfl rfl rfl rfl (.inl ⟨rfl, rfl⟩) (.inr (by rw [← hnum])) (Nat.zero_le _) hnl (fun s1 hs1 => ?_))
    rw [List.drop_zero] at hs1
    skip
    refine TO.step rfl (OT.call rfl rfl rfl rfl rfl rfl goes81 ((row_ref _ _ s1 _ hs1 (by rw [mt, List.length_take]; omega) (fun k hk m L h' hr' => ih k (List.mem_of_mem_take hk) (hkf _ (List.mem_of_mem_take hk)) m L h' hr' (Nat.le_trans (Nat.le_of_lt (bulk_kid (List.mem_of_mem_take hk))) hB))).x ?_));
    rintro _ _ _ ⟨rfl, rfl, rfl⟩
    rw [mt]
    refine TO.step rfl (OT.concat rfl rfl rfl rfl rfl (by simp only [List.length_cons, List.length_nil]; omega) ?_)
    refine TO.step rfl (OT.concat rfl rfl rfl rfl rfl (by simp only [List.length_append, List.length_cons, List.length_nil]; omega) ?_)
    repeat (first|(first|refine q1 ?_|refine q3 ?_|refine q4 tab rfl rfl ?_|refine q5 ?_|refine q6 ?_)|(refine qs rfl (ql tab 0 rfl rfl rfl rfl rfl rfl ?_)))
    refine TO.step rfl (OT.arith (r' := ((a.kids.length - a.num.toNat : Nat) : Int)) rfl rfl rfl rfl rfl rfl (by simp only; omega) (by omega) ?_)
    have hdl : ((a.kids.map Tree.show).drop a.num.toNat).length = a.kids.length - a.num.toNat := by rw [List.length_drop, List.length_map]
    repeat (first|refine q1 ?_|refine q2 ?_|refine q3 ?_|refine q4 tab rfl rfl ?_|refine q5 ?_|refine q6 ?_)
    refine TC.condP rfl (fun e0 => ?_) (fun e0 => ?_)
    · repeat ((first|refine q1 ?_|refine q3 ?_|refine q4 tab rfl rfl ?_|refine q5 ?_|refine q6 ?_|refine q8 ?_|refine q9 ?_|refine q15 ?_))
      refine retQ_ret rfl (by repeat (first|exact List.Sublist.refl _|refine List.Sublist.cons _ ?_)) ⟨rfl, rfl, ?_⟩
      unfold restS
      rw [if_pos (by omega), List.append_nil]
    repeat (first|refine q1 ?_|refine q3 ?_|refine q4 tab rfl rfl ?_|refine q5 ?_|refine q6 ?_)
    refine TC.condP rfl (fun e1 => ?_) (fun e1 => ?_)
    · have hlt : a.num.toNat < a.kids.length := by omega
      have hx : a.kids[a.num.toNat]? = some a.kids[a.num.toNat] := by simp [hlt]
      have hmem := List.getElem_mem hlt
      have hkl := show_len a.kids[a.num.toNat]
      have hkk := bulk_kid hmem
      have hrest : restS ((a.kids.map Tree.show).drop a.num.toNat) = [32] ++ a.kids[a.num.toNat].show := by
        unfold restS
        rw [if_neg (by omega), if_pos (by omega), List.drop_eq_getElem_cons (by rw [List.length_map]; exact hlt), List.headD_cons, List.getElem_map]
      repeat (first|refine q1 ?_|refine q3 ?_|refine q4 tab rfl rfl ?_)
      refine TO.step rfl (OT.concat rfl rfl rfl rfl rfl (by simp only [List.length_append, List.length_cons, List.length_nil]; omega) ?_)
      repeat (first|(refine q4 tab rfl rfl ?_)|(refine qs rfl (ql tab 0 rfl rfl rfl rfl rfl rfl ?_)))
      refine TO.step rfl (OT.index tab rTree a.num.toNat h4 rfl rfl rfl rfl rfl (by simp only; omega) rfl hx ?_)
      rintro b' i' h' hrd hA
      (refine TO.step rfl (OT.loadA0 tab hA rfl rfl rfl rfl rfl ?_))
      skip
      refine TO.step rfl (OT.call rfl rfl rfl rfl rfl rfl goes44 ((ih _ hmem (hkf _ hmem) _ _ h' (rTree_iff.1 hrd) (Nat.le_trans (Nat.le_of_lt hkk) hB)).x ?_));
      rintro _ _ _ ⟨rfl, rfl, rfl⟩
      refine TO.step rfl (OT.concat rfl rfl rfl rfl rfl (by simp only [List.length_append, List.length_cons, List.length_nil]; omega) ?_)
      repeat (first|refine q4 tab rfl rfl ?_|refine q5 ?_|refine q6 ?_|refine q8 ?_|refine q9 ?_|refine q15 ?_)
      refine retQ_ret rfl (by repeat (first|exact List.Sublist.refl _|refine List.Sublist.cons _ ?_)) ⟨rfl, rfl, ?_⟩
      rw [hrest]
      simp only [List.append_assoc]
    · have hrest : restS ((a.kids.map Tree.show).drop a.num.toNat) = [32, 40] ++ joinS ((a.kids.map Tree.show).drop a.num.toNat) commaS ++ [41] := by
        unfold restS
        rw [if_neg (by omega), if_neg (by omega)]
      repeat (first|refine q1 ?_|refine q3 ?_|refine q4 tab rfl rfl ?_|refine q6 ?_|refine q7 ?_|refine q13 ?_)
      refine TO.step rfl (OT.concat rfl rfl rfl rfl rfl (by simp only [List.length_append, List.length_cons, List.length_nil]; omega) ?_)
      repeat (first|(refine q4 tab rfl rfl ?_)|(refine qs rfl (ql tab 0 rfl rfl rfl rfl rfl rfl ?_)))
      refine TO.step rfl (OT.cut tab rTree a.num.toNat s.len h4 rfl rfl rfl rfl rfl rfl rfl (.inr (by rw [← hnum])) (.inl ⟨rfl, rfl⟩) (by omega) (by omega) (fun s2 hs2 => ?_))
      rw [List.take_of_length_le (by omega)] at hs2
      skip
      refine TO.step rfl (OT.call rfl rfl rfl rfl rfl rfl goes81 ((row_ref _ _ s2 _ hs2 (by rw [md, List.length_drop]; omega) (fun k hk m L h' hr' => ih k (List.mem_of_mem_drop hk) (hkf _ (List.mem_of_mem_drop hk)) m L h' hr' (Nat.le_trans (Nat.le_of_lt (bulk_kid (List.mem_of_mem_drop hk))) hB))).x ?_));
      rintro _ _ _ ⟨rfl, rfl, rfl⟩
      rw [md]
      refine TO.step rfl (OT.concat rfl rfl rfl rfl rfl (by simp only [List.length_append, List.length_cons, List.length_nil]; omega) ?_)
      refine TO.step rfl (OT.concat rfl rfl rfl rfl rfl (by simp only [List.length_append, List.length_cons, List.length_nil]; omega) ?_)
      repeat (first|refine q4 tab rfl rfl ?_|refine q5 ?_|refine q6 ?_|refine q15 ?_)
      refine retQ_ret rfl (by repeat (first|exact List.Sublist.refl _|refine List.Sublist.cons _ ?_)) ⟨rfl, rfl, ?_⟩
      rw [hrest]
      simp only [List.append_assoc]
set_option maxHeartbeats 6400000 in
theorem show_law (a : Tree) : ∀ (hf : a.formed = true) (m : Mem) (L : List Item) (h : HTree) (hr : TreeRep m h a) (hB : a.bulk ≤ 1048576), TCall Try.prog 43 ⟨[treeV h]⟩ m L (Ret (strV a.show) m L) := by
  induction a using Tree.ind with
  | h a ih =>
  intro hf m L h hr hB
  obtain ⟨h1, h2, h3, h4⟩ := hr
  have hl := h4.len
  have hsm := h4.small rfl
  obtain ⟨hkf, hkinds⟩ := formed_kinds hf
  have hsl := showL_len a.kids
  have hkb : bulkL a.kids < a.bulk := by obtain ⟨_, _, _, ks⟩ := a; simp only [Tree.bulk, Tree.kids]; omega
  rw [showL_eq] at hsl
  obtain ⟨q, n, u, s⟩ := h
  simp only at h1 h2 h3 h4 hl
  rw [show_eq]
  refine TCall.forget ?_
  unfold TCall
  refine TCallX.enter Try.func43 rfl 81 rfl ?_
  rcases hkinds with hA | ⟨hC, hlen⟩ | ⟨hD, hn0, hn1⟩
  · rcases hA with hA | hA | hA | hA | hA
    · obtain rfl : q = 1 := h1.trans hA
      rw [if_pos hA]
      repeat (first|refine q1 ?_|refine q3 ?_)
      refine TO.step rfl (OT.box rfl rfl rfl rfl rfl (fun b => ?_))
      repeat (first|(first|refine q1 ?_|refine q2 ?_|refine q3 ?_|refine q4 tab rfl rfl ?_|refine q5 ?_|refine q6 ?_|refine q8 ?_|refine q9 ?_|refine q15 ?_|refine q16 rfl ?_)|(refine qs rfl (ql tab 0 rfl rfl rfl rfl rfl rfl ?_)))
      exact retQ_ret rfl (by repeat (first|exact List.Sublist.refl _|refine List.Sublist.cons _ ?_)) ⟨Mem.le_refl _, rfl, rfl⟩
    · obtain rfl : q = 2 := h1.trans hA
      rw [if_neg (by omega), if_pos hA]
      repeat (first|refine q1 ?_|refine q3 ?_)
      refine TO.step rfl (OT.box rfl rfl rfl rfl rfl (fun b => ?_))
      repeat (first|(first|refine q1 ?_|refine q2 ?_|refine q3 ?_|refine q4 tab rfl rfl ?_|refine q5 ?_|refine q6 ?_|refine q8 ?_|refine q9 ?_|refine q15 ?_|refine q16 rfl ?_|refine q17 rfl ?_)|(refine qs rfl (ql tab 0 rfl rfl rfl rfl rfl rfl ?_)))
      exact retQ_ret rfl (by repeat (first|exact List.Sublist.refl _|refine List.Sublist.cons _ ?_)) ⟨Mem.le_refl _, rfl, rfl⟩
    · obtain rfl : q = 3 := h1.trans hA
      rw [if_neg (by omega), if_neg (by omega), if_pos hA]
      repeat (first|refine q1 ?_|refine q3 ?_)
      refine TO.step rfl (OT.box rfl rfl rfl rfl rfl (fun b => ?_))
      repeat (first|(first|refine q1 ?_|refine q2 ?_|refine q3 ?_|refine q4 tab rfl rfl ?_|refine q5 ?_|refine q6 ?_|refine q8 ?_|refine q9 ?_|refine q15 ?_|refine q16 rfl ?_|refine q17 rfl ?_)|(refine qs rfl (ql tab 0 rfl rfl rfl rfl rfl rfl ?_)))
      exact retQ_ret rfl (by repeat (first|exact List.Sublist.refl _|refine List.Sublist.cons _ ?_)) ⟨Mem.le_refl _, rfl, rfl⟩
    · obtain rfl : q = 8 := h1.trans hA
      rw [if_neg (by omega), if_neg (by omega), if_neg (by omega), if_pos hA]
      repeat (first|refine q1 ?_|refine q3 ?_)
      refine TO.step rfl (OT.box rfl rfl rfl rfl rfl (fun b => ?_))
      repeat (first|(first|refine q1 ?_|refine q2 ?_|refine q3 ?_|refine q4 tab rfl rfl ?_|refine q5 ?_|refine q6 ?_|refine q8 ?_|refine q9 ?_|refine q15 ?_|refine q16 rfl ?_|refine q17 rfl ?_)|(refine qs rfl (ql tab 0 rfl rfl rfl rfl rfl rfl ?_)))
      exact retQ_ret rfl (by repeat (first|exact List.Sublist.refl _|refine List.Sublist.cons _ ?_)) ⟨Mem.le_refl _, rfl, rfl⟩
    · obtain rfl : q = 4 := h1.trans hA
      rw [if_neg (by omega), if_neg (by omega), if_neg (by omega), if_neg (by omega), if_pos hA, ← h2]
      repeat (first|refine q1 ?_|refine q3 ?_)
      refine TO.step rfl (OT.box rfl rfl rfl rfl rfl (fun b => ?_))
      repeat (first|(first|refine q1 ?_|refine q2 ?_|refine q3 ?_|refine q4 tab rfl rfl ?_|refine q5 ?_|refine q6 ?_|refine q8 ?_|refine q9 ?_|refine q15 ?_|refine q16 rfl ?_|refine q17 rfl ?_)|(refine qs rfl (ql tab 0 rfl rfl rfl rfl rfl rfl ?_)))
      exact retQ_ret rfl (by repeat (first|exact List.Sublist.refl _|refine List.Sublist.cons _ ?_)) ⟨Mem.le_refl _, rfl, rfl⟩
  · have hlt : 0 < a.kids.length := by omega
    have hx : a.kids[0]? = some a.kids[0] := by simp [hlt]
    have hmem := List.getElem_mem hlt
    have hhd : (a.kids.map Tree.show).headD [] = a.kids[0].show := headD_show hlt
    have hkl := show_len a.kids[0]
    have hkk := bulk_kid hmem
    rw [hhd, if_neg (by omega), if_neg (by omega), if_neg (by omega), if_neg (by omega), if_neg (by omega)]
    rcases hC with hC | hC
    · obtain rfl : q = 5 := h1.trans hC
      rw [if_pos hC]
      repeat (first|refine q1 ?_|refine q3 ?_)
      refine TO.step rfl (OT.box rfl rfl rfl rfl rfl (fun b => ?_))
      repeat (first|(first|refine q1 ?_|refine q2 ?_|refine q3 ?_|refine q4 tab rfl rfl ?_|refine q5 ?_|refine q6 ?_|refine q16 rfl ?_|refine q17 rfl ?_)|(refine qs rfl (ql tab 0 rfl rfl rfl rfl rfl rfl ?_)))
      refine TO.step rfl (OT.index tab rTree 0 h4 rfl rfl rfl rfl rfl (by first | rfl | omega) rfl hx ?_)
      rintro b' i' h' hrd hA
      (refine TO.step rfl (OT.loadA0 tab hA rfl rfl rfl rfl rfl ?_))
      skip
      refine TO.step rfl (OT.call rfl rfl rfl rfl rfl rfl goes43 ((ih _ hmem (hkf _ hmem) _ _ h' (rTree_iff.1 hrd) (Nat.le_trans (Nat.le_of_lt hkk) hB)).x ?_));
      rintro _ _ _ ⟨rfl, rfl, rfl⟩
      refine TO.step rfl (OT.concat rfl rfl rfl rfl rfl (by simp only [List.length_cons, List.length_nil]; omega) ?_)
      repeat (first|refine q4 tab rfl rfl ?_|refine q5 ?_|refine q6 ?_|refine q8 ?_|refine q9 ?_|refine q15 ?_)
      exact retQ_ret rfl (by repeat (first|exact List.Sublist.refl _|refine List.Sublist.cons _ ?_)) ⟨Mem.le_refl _, rfl, rfl⟩
    · obtain rfl : q = 6 := h1.trans hC
      rw [if_neg (by omega), if_pos hC]
      repeat (first|refine q1 ?_|refine q3 ?_)
      refine TO.step rfl (OT.box rfl rfl rfl rfl rfl (fun b => ?_))
      repeat (first|(first|refine q1 ?_|refine q2 ?_|refine q3 ?_|refine q4 tab rfl rfl ?_|refine q5 ?_|refine q6 ?_|refine q16 rfl ?_|refine q17 rfl ?_)|(refine qs rfl (ql tab 0 rfl rfl rfl rfl rfl rfl ?_)))
      refine TO.step rfl (OT.index tab rTree 0 h4 rfl rfl rfl rfl rfl (by first | rfl | omega) rfl hx ?_)
      rintro b' i' h' hrd hA
      (refine TO.step rfl (OT.loadA0 tab hA rfl rfl rfl rfl rfl ?_))
      skip
      refine TO.step rfl (OT.call rfl rfl rfl rfl rfl rfl goes43 ((ih _ hmem (hkf _ hmem) _ _ h' (rTree_iff.1 hrd) (Nat.le_trans (Nat.le_of_lt hkk) hB)).x ?_));
      rintro _ _ _ ⟨rfl, rfl, rfl⟩
      refine TO.step rfl (OT.concat rfl rfl rfl rfl rfl (by simp only [List.length_cons, List.length_nil]; omega) ?_)
      repeat (first|refine q4 tab rfl rfl ?_|refine q5 ?_|refine q6 ?_|refine q8 ?_|refine q9 ?_|refine q15 ?_)
      exact retQ_ret rfl (by repeat (first|exact List.Sublist.refl _|refine List.Sublist.cons _ ?_)) ⟨Mem.le_refl _, rfl, rfl⟩
  · obtain rfl : q = 7 := h1.trans hD
    rw [if_neg (by omega), if_neg (by omega), if_neg (by omega), if_neg (by omega), if_neg (by omega), if_neg (by omega), if_neg (by omega)]
    have hnum : u = ((a.num.toNat : Nat) : Int) := by omega
    have hnl : a.num.toNat ≤ a.kids.length := by omega
    obtain ⟨mt, md⟩ := map_take_drop a.kids a.num.toNat
    have htd := lens_append ((a.kids.map Tree.show).take a.num.toNat) ((a.kids.map Tree.show).drop a.num.toNat)
    rw [List.take_append_drop] at htd
    have hj1 := joinS_le ((a.kids.map Tree.show).take a.num.toNat)
    have hj2 := joinS_le ((a.kids.map Tree.show).drop a.num.toNat)
    rw [List.length_take, List.length_map] at hj1
    rw [List.length_drop, List.length_map] at hj2
    repeat (first|refine q1 ?_|refine q3 ?_)
    refine TO.step rfl (OT.box rfl rfl rfl rfl rfl (fun b => ?_))
    repeat (first|(first|refine q1 ?_|refine q2 ?_|refine q3 ?_|refine q4 tab rfl rfl ?_|refine q5 ?_|refine q6 ?_|refine q7 ?_|refine q13 ?_|refine q17 rfl ?_)|(refine qs rfl (ql tab 0 rfl rfl rfl rfl rfl rfl ?_)))
    refine TC.grow0 (size := 1) ?_
    refine TC.loopK (ι := Grow) [1, 39, 40] rfl (fun g => [(3, g.s.v), (41, .int .i64 (g.k : Int))]) (fun g => g.m) (fun g => tok g.s 1 :: .cells b 0 (treeC ⟨7, n, u, s⟩) :: L) (fun g => g.k ≤ a.kids.length ∧ SlRep rStr g.m g.s ((a.kids.map Tree.show).take g.k) ∧ Own g.s ∧ m ≤ g.m) (fun g => a.kids.length - g.k) ⟨0, ⟨none, 0, 0⟩, m⟩ (by repeat (first|exact trivial|refine And.intro rfl ?_)) rfl (by repeat (exact List.Sublist.refl _)) ⟨Nat.zero_le _, SlRep.nil _ _, Own.nil, Mem.le_refl _⟩ ?_
    rintro ⟨k, t, m1⟩ ⟨hk, ht, hown, hm1⟩
    simp only at hk ht hown hm1 ⊢
    have h41 := h4.mono hm1
    repeat (first|refine q1 ?_|refine q3 ?_|refine q4 tab rfl rfl ?_|refine q5 ?_|refine q6 ?_)
    refine TC.condP rfl (fun hlt' => ?_) (fun hlt' => ?_)
    · have hlt : k < a.kids.length := by omega
      have hx : a.kids[k]? = some a.kids[k] := by simp [hlt]
      have hmem := List.getElem_mem hlt
      repeat (first|refine q1 ?_|refine q2 ?_|refine q3 ?_|refine q6 ?_|refine q13 ?_)
      refine TO.step rfl (OT.index tab rTree k h41 rfl rfl rfl rfl rfl (by first | rfl | omega) rfl hx ?_)
      rintro b' i' h' hrd hA
      (refine TO.step rfl (OT.loadA0 tab hA rfl rfl rfl rfl rfl ?_))
      skip
      refine TO.step rfl (OT.alloc tab rfl rfl rfl rfl (fun b5 => ?_))
      skip
      (refine TO.step rfl (OT.storeL0 tab 0 rfl rfl rfl rfl rfl rfl rfl rfl ?_))
      repeat (first|(first|refine q3 ?_|refine q4 tab rfl rfl ?_|refine q5 ?_|refine q6 ?_)|(refine qs rfl (qz tab 0 rfl rfl rfl rfl rfl rfl ?_)))
      refine TO.step rfl (OT.call rfl rfl rfl rfl rfl rfl goes43 ((ih _ hmem (hkf _ hmem) _ _ h' (rTree_iff.1 hrd) (Nat.le_trans (Nat.le_of_lt (bulk_kid hmem)) hB)).x ?_));
      rintro _ _ _ ⟨rfl, rfl, rfl⟩
      refine TO.step rfl (OT.lit tab rfl rfl rfl rfl (fun bl => ?_))
      refine TO.step rfl (OT.append1 tab rStr 1 (hd' := a.kids[k].show) (a := a.kids[k].show) ht hown rfl rfl rfl rfl rfl rfl rfl rfl (by simp only [rStr, List.length_take, List.length_map]; omega) (fun t' m3 hm3 ht' hown' => ?_))
      repeat (first|refine q3 ?_|refine q4 tab rfl rfl ?_|refine q5 ?_|refine q6 ?_|refine q7 ?_)
      refine TO.step rfl (OT.arith (r' := ((k + 1 : Nat) : Int)) rfl rfl rfl rfl rfl rfl rfl (by omega) ?_)
      repeat (first|refine q4 tab rfl rfl ?_|refine q5 ?_|refine q6 ?_)
      refine ⟨⟨k + 1, t', m3⟩, (by repeat (first|exact trivial|refine And.intro rfl ?_)), (by repeat (first|exact trivial|refine And.intro rfl ?_)), rfl, rfl, (by repeat (first|exact List.Sublist.refl _|refine List.Sublist.cons _ ?_)), ⟨by simp only; omega, ?_, hown', Mem.le_trans hm1 hm3⟩, by simp only; omega⟩
      simp only
      rw [List.take_succ_eq_append_getElem (by rw [List.length_map]; exact hlt), List.getElem_map]
      exact ht'
    rw [List.take_of_length_le (by rw [List.length_map]; omega)] at ht
    have htl := ht.len
    rw [List.length_map] at htl
    repeat (first|(first|refine q1 ?_|refine q3 ?_|refine q4 tab rfl rfl ?_|refine q6 ?_|refine q10 ?_|refine q11 ?_|refine q14 ?_)|(refine qs rfl (ql tab 1 rfl rfl rfl rfl rfl rfl ?_)))
    refine TO.step rfl (OT.cut tab rStr 0 a.num.toNat ht rfl rfl rfl rfl rfl rfl rfl (.inl ⟨rfl, rfl⟩) (.inr (by rw [← hnum])) (Nat.zero_le _) (by rw [List.length_map]; exact hnl) (fun s1 hs1 => ?_))
    rw [List.drop_zero] at hs1
    skip
    refine TO.step rfl (OT.call rfl rfl rfl rfl rfl rfl goes80 ((join_law _ _ s1 _ hs1 commaS (by omega)).x ?_));
    rintro _ _ _ ⟨rfl, rfl, rfl⟩
    refine TO.step rfl (OT.concat rfl rfl rfl rfl rfl (by simp only [List.length_cons, List.length_nil]; omega) ?_)
    refine TO.step rfl (OT.concat rfl rfl rfl rfl rfl (by simp only [List.length_append, List.length_cons, List.length_nil]; omega) ?_)
    repeat (first|(first|refine q1 ?_|refine q3 ?_|refine q4 tab rfl rfl ?_|refine q5 ?_|refine q6 ?_)|(refine qs rfl (ql tab 1 rfl rfl rfl rfl rfl rfl ?_)))
    refine TO.step rfl (OT.cut tab rStr a.num.toNat t.len ht rfl rfl rfl rfl rfl rfl rfl (.inr (by rw [← hnum])) (.inl ⟨rfl, rfl⟩) (by omega) (by rw [List.length_map]; omega) (fun s2 hs2 => ?_))
    rw [List.take_of_length_le (by rw [List.length_map]; omega)] at hs2
    have hdl : ((a.kids.map Tree.show).drop a.num.toNat).length = a.kids.length - a.num.toNat := by rw [List.length_drop, List.length_map]
    have hs2l := hs2.len
    rw [hdl] at hs2l
    repeat (first|refine q1 ?_|refine q2 ?_|refine q3 ?_|refine q4 tab rfl rfl ?_|refine q5 ?_|refine q6 ?_)
    refine TC.condP rfl (fun e0 => ?_) (fun e0 => ?_)
    · repeat ((first|refine q1 ?_|refine q3 ?_|refine q4 tab rfl rfl ?_|refine q5 ?_|refine q6 ?_|refine q9 ?_|refine q15 ?_))
      refine retQ_ret rfl (by repeat (first|exact List.Sublist.refl _|refine List.Sublist.cons _ ?_)) ⟨hm1, rfl, ?_⟩
      unfold restS
      rw [if_pos (by omega), List.append_nil]
    repeat (first|refine q1 ?_|refine q3 ?_|refine q4 tab rfl rfl ?_|refine q5 ?_|refine q6 ?_)
    refine TC.condP rfl (fun e1 => ?_) (fun e1 => ?_)
    · have hlt : a.num.toNat < a.kids.length := by omega
      have hmem := List.getElem_mem hlt
      have hkl := show_len a.kids[a.num.toNat]
      have hkk := bulk_kid hmem
      have hdr : (a.kids.map Tree.show).drop a.num.toNat = a.kids[a.num.toNat].show :: (a.kids.map Tree.show).drop (a.num.toNat + 1) := by
        rw [List.drop_eq_getElem_cons (by rw [List.length_map]; exact hlt), List.getElem_map]
      have hrest : restS ((a.kids.map Tree.show).drop a.num.toNat) = [32] ++ a.kids[a.num.toNat].show := by
        unfold restS
        rw [if_neg (by omega), if_pos (by omega), hdr, List.headD_cons]
      have hx : ((a.kids.map Tree.show).drop a.num.toNat)[0]? = some a.kids[a.num.toNat].show := by rw [hdr]; rfl
      repeat (first|refine q1 ?_|refine q3 ?_|refine q4 tab rfl rfl ?_)
      refine TO.step rfl (OT.concat rfl rfl rfl rfl rfl (by simp only [List.length_append, List.length_cons, List.length_nil]; omega) ?_)
      repeat (refine q4 tab rfl rfl ?_)
      refine TO.step rfl (OT.index tab rStr 0 hs2 rfl rfl rfl rfl rfl rfl rfl hx ?_)
      rintro b' i' s' hs' hA
      obtain rfl : s' = _ := hs'
      (refine TO.step rfl (OT.loadA0 tab hA rfl rfl rfl rfl rfl ?_))
      skip
      refine TO.step rfl (OT.concat rfl rfl rfl rfl rfl (by simp only [List.length_append, List.length_cons, List.length_nil]; omega) ?_)
      repeat (first|refine q4 tab rfl rfl ?_|refine q5 ?_|refine q6 ?_|refine q9 ?_|refine q15 ?_)
      refine retQ_ret rfl (by repeat (first|exact List.Sublist.refl _|refine List.Sublist.cons _ ?_)) ⟨hm1, rfl, ?_⟩
      rw [hrest]
      simp only [List.append_assoc]
    · have hrest : restS ((a.kids.map Tree.show).drop a.num.toNat) = [32, 40] ++ joinS ((a.kids.map Tree.show).drop a.num.toNat) commaS ++ [41] := by
        unfold restS
        rw [if_neg (by omega), if_neg (by omega)]
      repeat (first|refine q1 ?_|refine q3 ?_|refine q4 tab rfl rfl ?_)
      refine TO.step rfl (OT.concat rfl rfl rfl rfl rfl (by simp only [List.length_append, List.length_cons, List.length_nil]; omega) ?_)
      repeat (refine q4 tab rfl rfl ?_)
      refine TO.step rfl (OT.call rfl rfl rfl rfl rfl rfl goes80 ((join_law _ _ s2 _ hs2 commaS (by omega)).x ?_));
      rintro _ _ _ ⟨rfl, rfl, rfl⟩
      refine TO.step rfl (OT.concat rfl rfl rfl rfl rfl (by simp only [List.length_append, List.length_cons, List.length_nil]; omega) ?_)
      refine TO.step rfl (OT.concat rfl rfl rfl rfl rfl (by simp only [List.length_append, List.length_cons, List.length_nil]; omega) ?_)
      repeat (first|refine q4 tab rfl rfl ?_|refine q5 ?_|refine q6 ?_|refine q9 ?_|refine q15 ?_)
      refine retQ_ret rfl (by repeat (first|exact List.Sublist.refl _|refine List.Sublist.cons _ ?_)) ⟨hm1, rfl, ?_⟩
      rw [hrest]
      simp only [List.append_assoc]

def textS (a : Tree) : Str := if a.sound = true then a.show else []
theorem sound_formed {a : Tree} (h : a.sound = true) : a.formed = true := by
  unfold Tree.sound at h
  rw [Bool.and_eq_true] at h
  exact h.2
attribute [local irreducible] Tree.sound

set_option maxHeartbeats 800000 in
theorem text_law (a : Tree) (m : Mem) (L : List Item) (h : HTree) (hr : TreeRep m h a) (hB : a.bulk ≤ 1048576) : TCall Try.prog 16 ⟨[treeV h]⟩ m L (Ret (strV (textS a)) m L) := by
  unfold TCall
  refine TCallX.enter Try.func16 rfl 8 rfl ?_
  repeat (first|refine q1 ?_|refine q3 ?_)
  refine TO.step rfl (OT.box rfl rfl rfl rfl rfl (fun b => ?_))
  repeat (first|(first|refine q1 ?_|refine q3 ?_|refine q4 tab rfl rfl ?_|refine q5 ?_|refine q6 ?_)|(refine qs rfl (qz tab 0 rfl rfl rfl rfl rfl rfl ?_)))
  refine TO.step rfl (OT.call rfl rfl rfl rfl rfl rfl goes40 ((isSound_law a _ _ h hr hB).x ?_));
  rintro _ _ _ ⟨rfl, rfl, rfl⟩
  repeat (first|refine q4 tab rfl rfl ?_|refine q5 ?_|refine q6 ?_)
  refine TC.cond (t := !a.sound) rfl (fun e1 => ?_) (fun e1 => ?_)
  · rw [Bool.not_eq_true'] at e1
    repeat (first|refine q1 ?_|refine q3 ?_|refine q4 tab rfl rfl ?_|refine q5 ?_|refine q6 ?_|refine q8 ?_|refine q15 ?_)
    refine retQ_ret rfl (by repeat (first|exact List.Sublist.refl _|refine List.Sublist.cons _ ?_)) ⟨rfl, rfl, ?_⟩
    rw [textS, e1]; rfl
  · rw [Bool.not_eq_false'] at e1
    repeat (first|(first|refine q1 ?_|refine q3 ?_|refine q6 ?_|refine q13 ?_)|(refine qs rfl (qz tab 0 rfl rfl rfl rfl rfl rfl ?_)))
    refine TO.step rfl (OT.call rfl rfl rfl rfl rfl rfl goes43 ((show_law a (sound_formed e1) _ _ h hr hB).x ?_));
    rintro _ _ _ ⟨rfl, rfl, rfl⟩
    repeat (first|refine q4 tab rfl rfl ?_|refine q5 ?_|refine q6 ?_|refine q15 ?_)
    refine retQ_ret rfl (by repeat (first|exact List.Sublist.refl _|refine List.Sublist.cons _ ?_)) ⟨rfl, rfl, ?_⟩
    rw [textS, e1]; rfl
set_option maxHeartbeats 800000 in
theorem text_ref (a : Tree) (m : Mem) (L : List Item) (h : HTree) (hr : TreeRep m h a) (hB : a.bulk ≤ 1048576) : TCall Try.prog 17 ⟨[treeV h]⟩ m L (Ret (strV (textS a)) m L) := by
  unfold TCall
  refine TCallX.enter Try.func17 rfl 8 rfl ?_
  repeat (first|refine q1 ?_|refine q3 ?_)
  refine TO.step rfl (OT.box rfl rfl rfl rfl rfl (fun b => ?_))
  repeat (first|(first|refine q1 ?_|refine q3 ?_|refine q4 tab rfl rfl ?_|refine q5 ?_|refine q6 ?_)|(refine qs rfl (qz tab 0 rfl rfl rfl rfl rfl rfl ?_)))
  refine TO.step rfl (OT.call rfl rfl rfl rfl rfl rfl goes42 ((isSound_ref a _ _ h hr hB).x ?_));
  rintro _ _ _ ⟨rfl, rfl, rfl⟩
  repeat (first|refine q4 tab rfl rfl ?_|refine q5 ?_|refine q6 ?_)
  refine TC.cond (t := !a.sound) rfl (fun e1 => ?_) (fun e1 => ?_)
  · rw [Bool.not_eq_true'] at e1
    repeat (first|refine q1 ?_|refine q3 ?_|refine q4 tab rfl rfl ?_|refine q5 ?_|refine q6 ?_|refine q8 ?_|refine q15 ?_)
    refine retQ_ret rfl (by repeat (first|exact List.Sublist.refl _|refine List.Sublist.cons _ ?_)) ⟨rfl, rfl, ?_⟩
    rw [textS, e1]; rfl
  · rw [Bool.not_eq_false'] at e1
    repeat (first|(first|refine q1 ?_|refine q3 ?_|refine q6 ?_|refine q13 ?_)|(refine qs rfl (qz tab 0 rfl rfl rfl rfl rfl rfl ?_)))
    refine TO.step rfl (OT.call rfl rfl rfl rfl rfl rfl goes44 ((show_ref a (sound_formed e1) _ _ h hr hB).x ?_));
    rintro _ _ _ ⟨rfl, rfl, rfl⟩
    repeat (first|refine q4 tab rfl rfl ?_|refine q5 ?_|refine q6 ?_|refine q15 ?_)
    refine retQ_ret rfl (by repeat (first|exact List.Sublist.refl _|refine List.Sublist.cons _ ?_)) ⟨rfl, rfl, ?_⟩
    rw [textS, e1]; rfl
end Go.Sep

/-
  The type of a node: the walks of types.of.
-/
set_option linter.unusedVariables false
set_option linter.unusedSimpArgs false
namespace Go.Sep
open Go.Proofs
attribute [local irreducible] TC TO OT TCallX TCall DO DOt thenQ blockQ retQ At

/-- a tree is made -/
def MadeT (m : Mem) (L : List Item) (x : Tree) : Value → Mem → List Item → Prop := Made m L fun r m' => ∃ h : HTree, r = treeV h ∧ TreeRep m' h x
theorem TreeRep.leaf (m : Mem) (k : Int) (n : Str) (u : Int) : TreeRep m ⟨k, n, u, ⟨none, 0, 0⟩⟩ (.mk k n u []) := ⟨rfl, rfl, rfl, SlRep.nil _ _⟩
theorem rot3 {α : Type} {a b c : α} {L : List α} : (a :: b :: c :: L).Perm (b :: c :: a :: L) := (List.Perm.swap b a _).trans ((List.Perm.swap c a _).cons b)
theorem permA {α : Type} {a b c d : α} {L : List α} : (a :: b :: c :: d :: L).Perm (a :: c :: d :: L ++ [b]) := by
  refine List.Perm.cons _ ?_
  exact perm_last

set_option maxHeartbeats 3200000 in
theorem ofN_law (a : Tree) : ∀ (hn : okNode a = true) (m : Mem) (L : List Item) (h : HTree) (hr : TreeRep m h a) (hB : a.bulk ≤ 1048576), TCall Try.prog 36 ⟨[treeV h]⟩ m L (MadeT m L a.ofT) := by
  induction a using Tree.ind with
  | h a ih =>
  intro hn m L h hr hB
  have hr' := hr
  obtain ⟨h1, h2, h3, h4⟩ := hr
  have hl := h4.len
  have hsm := h4.small rfl
  have hbl := bulk_len a.kids
  have hkb : bulkL a.kids < a.bulk := by obtain ⟨_, _, _, ks⟩ := a; simp only [Tree.bulk, Tree.kids]; omega
  rw [ofT_eq]
  unfold TCall
  refine TCallX.enter Try.func36 rfl 55 rfl ?_
  rcases okNode_facts hn with ⟨h10, hu, hks⟩ | ⟨h11, hu, hkn⟩ | ⟨h13, hkn⟩ | ⟨h8, k, hks, hkn⟩
  · rw [if_pos h10]
    obtain ⟨k, n, u, s⟩ := h
    obtain rfl : k = 10 := h1.trans h10
    repeat (first|refine q1 ?_|refine q3 ?_)
    refine TO.step rfl (OT.box rfl rfl rfl rfl rfl (fun b => ?_))
    skip
    refine TO.step rfl (OT.alloc tab rfl rfl rfl rfl (fun b2 => ?_))
    repeat (first|(first|refine q1 ?_|refine q3 ?_|refine q4 tab rfl rfl ?_|refine q5 ?_|refine q6 ?_)|(refine qs rfl (ql tab 1 rfl rfl rfl rfl rfl rfl ?_)))
    refine TO.step rfl (OT.alloc tab rfl rfl rfl rfl (fun b3 => ?_))
    skip
    (refine TO.step rfl (OT.storeL0 tab 0 rfl rfl rfl rfl rfl rfl rfl rfl ?_))
    repeat (first|(first|refine q1 ?_|refine q2 ?_|refine q3 ?_|refine q4 tab rfl rfl ?_|refine q5 ?_|refine q6 ?_|refine q16 rfl ?_)|(refine qs rfl (ql tab 2 rfl rfl rfl rfl rfl rfl ?_)))
    refine TO.step rfl (OT.call rfl rfl rfl rfl rfl rfl goes46 ((basic_law _ _ n).x ?_));
    rintro _ _ _ ⟨rfl, rfl, rfl⟩
    repeat (refine q4 tab rfl rfl ?_)
    (refine TO.step rfl (OT.storeL tab 0 rfl rfl rfl rfl rfl rfl rfl rfl ?_))
    repeat (first|(first|refine q1 ?_|refine q3 ?_|refine q4 tab rfl rfl ?_|refine q5 ?_|refine q6 ?_)|(refine qs rfl (ql tab 0 rfl rfl rfl rfl rfl rfl ?_)))
    refine TC.condP rfl (fun h0 => ?_) (fun h0 => ?_)
    · simp only at h2 h3
      rw [← h2, if_pos h0]
      refine TC.draw [] mixed 6 rfl [_,_] (_::L) rot3 ?_
      refine DO.pure tab (by repeat (first|exact Calm.ret|refine Calm.then ?_|refine Calm.block ?_)) (by kernel_rfl) [0, 2] (by kernel_rfl) rfl ?_
      refine DO.fork 1 [3] (by kernel_rfl) ⟨⟨_, rfl, rfl, rfl, ?_⟩, ⟨_, rfl, rfl, rfl, ?_⟩, trivial⟩
      · refine OT.loadL tab 1 rfl rfl rfl rfl rfl rfl ?_
        refine ⟨Mem.le_refl _, _, List.Perm.refl _, ?_⟩
        refine DO.run 3 rfl rfl (by kernel_rfl) rfl ?_
        refine OT.storeL0 tab 2 rfl rfl rfl rfl rfl rfl rfl rfl ?_
        refine ⟨Mem.le_refl _, _, List.Perm.refl _, ?_⟩
        refine DO.pure tab (by repeat (first|exact Calm.ret|refine Calm.then ?_|refine Calm.block ?_)) (by kernel_rfl) [4] (by kernel_rfl) rfl ?_
        refine DO.run 5 rfl rfl (by kernel_rfl) rfl ?_
        refine OT.storeL tab 2 rfl rfl rfl rfl rfl rfl rfl rfl ?_
        refine ⟨Mem.le_refl _, _, List.Perm.refl _, ?_⟩
        refine DO.nil (by kernel_rfl) ?_
        refine thenQ_n ?_
        repeat (first|(first|refine q1 ?_|refine q3 ?_)|(refine qs rfl (qz tab 2 rfl rfl rfl rfl rfl rfl ?_)))
        (refine TO.step rfl (OT.storeL0 tab 0 rfl rfl rfl rfl rfl rfl rfl rfl ?_))
        repeat (first|refine q5 ?_|refine q6 ?_|refine q8 ?_|refine q9 ?_|refine q15 ?_)
        exact retQ_ret_c1 tab 0 rfl rfl rfl rfl (by repeat (first|exact List.Sublist.refl _|refine List.Sublist.cons _ ?_)) ⟨Mem.le_refl _, rfl, ⟨4, n, u, ⟨none, 0, 0⟩⟩, rfl, by rw [h3, hu]; exact TreeRep.leaf _ _ _ _⟩
      · refine OT.storeL0 tab 2 rfl rfl rfl rfl rfl rfl rfl rfl ?_
        refine ⟨Mem.le_refl _, _, List.Perm.refl _, ?_⟩
        refine DO.run 1 rfl rfl (by kernel_rfl) rfl ?_
        refine OT.loadL tab 1 rfl rfl rfl rfl rfl rfl ?_
        refine ⟨Mem.le_refl _, _, List.Perm.refl _, ?_⟩
        refine DO.pure tab (by repeat (first|exact Calm.ret|refine Calm.then ?_|refine Calm.block ?_)) (by kernel_rfl) [4] (by kernel_rfl) rfl ?_
        refine DO.run 5 rfl rfl (by kernel_rfl) rfl ?_
        refine OT.storeL tab 2 rfl rfl rfl rfl rfl rfl rfl rfl ?_
        refine ⟨Mem.le_refl _, _, List.Perm.refl _, ?_⟩
        refine DO.nil (by kernel_rfl) ?_
        refine thenQ_n ?_
        repeat (first|(first|refine q1 ?_|refine q3 ?_)|(refine qs rfl (qz tab 2 rfl rfl rfl rfl rfl rfl ?_)))
        (refine TO.step rfl (OT.storeL0 tab 0 rfl rfl rfl rfl rfl rfl rfl rfl ?_))
        repeat (first|refine q5 ?_|refine q6 ?_|refine q8 ?_|refine q9 ?_|refine q15 ?_)
        exact retQ_ret_c1 tab 0 rfl rfl rfl rfl (by repeat (first|exact List.Sublist.refl _|refine List.Sublist.cons _ ?_)) ⟨Mem.le_refl _, rfl, ⟨4, n, u, ⟨none, 0, 0⟩⟩, rfl, by rw [h3, hu]; exact TreeRep.leaf _ _ _ _⟩
    · rw [if_neg (by rw [← h2]; exact h0)]
      repeat (first|(first|refine q1 ?_|refine q3 ?_|refine q6 ?_|refine q13 ?_)|(refine qs rfl (qz tab 0 rfl rfl rfl rfl rfl rfl ?_)))
      (refine TO.step rfl (OT.storeL0 tab 1 rfl rfl rfl rfl rfl rfl rfl rfl ?_))
      repeat (first|refine q5 ?_|refine q6 ?_|refine q8 ?_|refine q9 ?_|refine q15 ?_)
      refine retQ_ret_c1 tab 1 rfl rfl rfl rfl (by repeat (first|exact List.Sublist.refl _|refine List.Sublist.cons _ ?_)) ⟨Mem.le_refl _, rfl, ⟨basicOf n, [], u, ⟨none, 0, 0⟩⟩, rfl, ?_⟩
      simp only at h2 h3
      rw [← h2, h3, hu]
      exact TreeRep.leaf _ _ _ _
  · have h10 : ¬ a.kind = 10 := by omega
    have h8 : ¬ a.kind = 8 := by omega
    rw [if_neg h10, if_neg h8]
    have h12 : h.kind = 11 ∨ h.kind = 12 := by rw [h1]; exact h11
    obtain ⟨k, n, u, s⟩ := h
    rcases h12 with h12 | h12
    · simp only at h12
      subst h12
      rw [if_pos (show a.kind = 11 from h1.symm)]
      repeat (first|refine q1 ?_|refine q3 ?_)
      refine TO.step rfl (OT.box rfl rfl rfl rfl rfl (fun b => ?_))
      skip
      refine TO.step rfl (OT.alloc tab rfl rfl rfl rfl (fun b2 => ?_))
      repeat (first|(first|refine q1 ?_|refine q3 ?_|refine q4 tab rfl rfl ?_|refine q5 ?_|refine q6 ?_)|(refine qs rfl (ql tab 1 rfl rfl rfl rfl rfl rfl ?_)))
      refine TO.step rfl (OT.alloc tab rfl rfl rfl rfl (fun b3 => ?_))
      skip
      (refine TO.step rfl (OT.storeL0 tab 0 rfl rfl rfl rfl rfl rfl rfl rfl ?_))
      repeat (first|(first|refine q1 ?_|refine q2 ?_|refine q3 ?_|refine q4 tab rfl rfl ?_|refine q5 ?_|refine q6 ?_|refine q16 rfl ?_|refine q17 rfl ?_)|(refine qs rfl (ql tab 2 rfl rfl rfl rfl rfl rfl ?_)))
      (refine TO.step rfl (OT.storeL tab 0 rfl rfl rfl rfl rfl rfl rfl rfl ?_))
      repeat (first|(first|refine q1 ?_|refine q2 ?_|refine q3 ?_|refine q4 tab rfl rfl ?_|refine q5 ?_|refine q6 ?_|refine q7 ?_)|(refine qs rfl (ql tab 2 rfl rfl rfl rfl rfl rfl ?_)))
      refine TC.grow0 (size := 4) ?_
      refine TC.loopK (ι := Grow) [1, 2, 3, 40, 41] rfl (fun g => [(42, .int .i64 (g.k : Int))]) (fun g => g.m) (fun g => tok g.s 4 :: .cells b3 0 [.int .i64 5, strV [], .int .i64 u, g.s.v] :: .cells b2 0 (treeC ⟨0, [], 0, ⟨none, 0, 0⟩⟩) :: .cells b 0 (treeC ⟨11, n, u, s⟩) :: L) (fun g => g.k ≤ a.kids.length ∧ SlRep rTree g.m g.s ((a.kids.take g.k).map Tree.ofT) ∧ Own g.s ∧ m ≤ g.m) (fun g => a.kids.length - g.k) ⟨0, ⟨none, 0, 0⟩, m⟩ (by repeat (first|exact trivial|refine And.intro rfl ?_)) rfl (by repeat (exact List.Sublist.refl _)) ⟨Nat.zero_le _, SlRep.nil _ _, Own.nil, Mem.le_refl _⟩ ?_
      rintro ⟨k, t, m1⟩ ⟨hk, ht, hown, hm1⟩
      simp only at hk ht hown hm1 ⊢
      have h41 := h4.mono hm1
      simp only at hl hsm
      repeat (first|refine q1 ?_|refine q3 ?_|refine q4 tab rfl rfl ?_|refine q5 ?_|refine q6 ?_)
      refine TC.condP rfl (fun hlt' => ?_) (fun hlt' => ?_)
      · have hlt : k < a.kids.length := by omega
        have hx : a.kids[k]? = some a.kids[k] := by simp [hlt]
        have hmem := List.getElem_mem hlt
        repeat (first|refine q1 ?_|refine q2 ?_|refine q3 ?_|refine q6 ?_|refine q13 ?_)
        refine TO.step rfl (OT.index tab rTree k h41 rfl rfl rfl rfl rfl (by first | rfl | omega) rfl hx ?_)
        rintro b' i' h' hrd hA
        (refine TO.step rfl (OT.loadA0 tab hA rfl rfl rfl rfl rfl ?_))
        skip
        refine TO.step rfl (OT.alloc tab rfl rfl rfl rfl (fun b5 => ?_))
        skip
        (refine TO.step rfl (OT.storeL0 tab 0 rfl rfl rfl rfl rfl rfl rfl rfl ?_))
        repeat (first|refine q5 ?_|refine q6 ?_)
        generalize hcx : a.kids[k] = c at *
        refine TC.perm (List.Perm.swap _ _ _) ?_
        refine TC.draw [7] mixed 8 rfl (_::_::_::_::L) [tok t 4] perm_last ?_
        refine DO.pure tab (by repeat (first|exact Calm.ret|refine Calm.then ?_|refine Calm.block ?_)) (by kernel_rfl) [0] (by kernel_rfl) rfl ?_
        (refine DO.loadL tab 1 1 (by repeat (first|exact Calm.ret|refine Calm.then ?_|refine Calm.block ?_)) (by kernel_rfl) (by kernel_rfl) rfl rfl rfl rfl rfl rfl rfl rfl ?_)
        (refine DO.loadL (k := 0) tab 2 0 (by repeat (first|exact Calm.ret|refine Calm.then ?_|refine Calm.block ?_)) (by kernel_rfl) (by kernel_rfl) rfl rfl rfl rfl rfl rfl rfl rfl ?_)
        refine DO.run 3 rfl rfl (by kernel_rfl) rfl (OT.call rfl rfl rfl rfl rfl rfl goes36 ((ih c hmem (hkn c hmem) _ _ h' (rTree_iff.1 hrd) (Nat.le_trans (Nat.le_of_lt (bulk_kid hmem)) hB)).x ?_))
        rintro _ m2 _ ⟨hm2, rfl, ht2, rfl, hrt⟩; refine ⟨hm2, _, List.Perm.refl _, ?_⟩
        refine DO.run 4 rfl rfl (by kernel_rfl) rfl ?_
        refine OT.lit tab rfl rfl rfl rfl (fun bl => ?_); refine ⟨Mem.le_refl _, _, perm_mid, ?_⟩
        refine DO.run 5 rfl rfl (by kernel_rfl) rfl ?_
        refine OT.perm List.perm_append_comm (OT.append1 tab rTree 0 (hd' := ht2) (a := c.ofT) (ht.mono hm2) hown (rTree_iff.2 hrt) rfl rfl rfl rfl rfl rfl rfl (by simp only [rTree, mkR, List.length_map, List.length_take]; omega) (fun t' m3 hm3 ht' hown' => ?_)); refine ⟨hm3, _, perm_last, ?_⟩
        refine DO.pure tab (by repeat (first|exact Calm.ret|refine Calm.then ?_|refine Calm.block ?_)) (by kernel_rfl) [6] (by kernel_rfl) rfl ?_
        refine DO.tail ?_
        refine DOt.run 7 rfl rfl (by kernel_rfl) rfl ?_
        refine OT.storeL tab 1 rfl rfl rfl rfl rfl rfl rfl rfl ?_
        refine DOt.nil (by kernel_rfl) ?_
        rotate_left 1
        repeat (first|refine q3 ?_|refine q6 ?_|refine q7 ?_)
        refine TO.perm perm_f4 ?_
        refine TO.step rfl (OT.arith (r' := ((k + 1 : Nat) : Int)) rfl rfl rfl rfl rfl rfl rfl (by omega) ?_)
        repeat (first|refine q4 tab rfl rfl ?_|refine q5 ?_|refine q6 ?_)
        refine ⟨⟨k + 1, t', m3⟩, (by repeat (first|exact trivial|refine And.intro rfl ?_)), (by repeat (first|exact trivial|refine And.intro rfl ?_)), rfl, rfl, (by repeat (first|exact List.Sublist.refl _|refine List.Sublist.cons_cons _ ?_|refine List.Sublist.cons _ ?_)), ⟨by simp only; omega, ?_, hown', Mem.le_trans hm1 (Mem.le_trans hm2 hm3)⟩, by simp only; omega⟩
        simp only
        rw [List.take_succ_eq_append_getElem hlt, hcx, List.map_append]
        exact ht'
      · repeat (first|(first|refine q1 ?_|refine q3 ?_|refine q6 ?_|refine q10 ?_|refine q11 ?_|refine q14 ?_)|(refine qs rfl (qz tab 1 rfl rfl rfl rfl rfl rfl ?_)))
        (refine TO.step rfl (OT.storeL0 tab 2 rfl rfl rfl rfl rfl rfl rfl rfl ?_))
        repeat (first|refine q5 ?_|refine q6 ?_|refine q15 ?_)
        refine retQ_ret_c1 tab 2 rfl rfl rfl rfl (by repeat (first|exact List.Sublist.refl _|refine List.Sublist.cons _ ?_)) ⟨hm1, rfl, ⟨_, [], u, t⟩, rfl, rfl, rfl, h3, ?_⟩
        rw [List.take_of_length_le (by omega)] at ht
        exact ht
    · simp only at h12
      subst h12
      rw [if_neg (show ¬ a.kind = 11 from fun e => by rw [e] at h1; cases h1), if_pos (show a.kind = 12 from h1.symm)]
      repeat (first|refine q1 ?_|refine q3 ?_)
      refine TO.step rfl (OT.box rfl rfl rfl rfl rfl (fun b => ?_))
      skip
      refine TO.step rfl (OT.alloc tab rfl rfl rfl rfl (fun b2 => ?_))
      repeat (first|(first|refine q1 ?_|refine q3 ?_|refine q4 tab rfl rfl ?_|refine q5 ?_|refine q6 ?_)|(refine qs rfl (ql tab 1 rfl rfl rfl rfl rfl rfl ?_)))
      refine TO.step rfl (OT.alloc tab rfl rfl rfl rfl (fun b3 => ?_))
      skip
      (refine TO.step rfl (OT.storeL0 tab 0 rfl rfl rfl rfl rfl rfl rfl rfl ?_))
      repeat (first|(first|refine q1 ?_|refine q2 ?_|refine q3 ?_|refine q4 tab rfl rfl ?_|refine q5 ?_|refine q6 ?_|refine q16 rfl ?_|refine q17 rfl ?_)|(refine qs rfl (ql tab 2 rfl rfl rfl rfl rfl rfl ?_)))
      (refine TO.step rfl (OT.storeL tab 0 rfl rfl rfl rfl rfl rfl rfl rfl ?_))
      repeat (first|(first|refine q1 ?_|refine q2 ?_|refine q3 ?_|refine q4 tab rfl rfl ?_|refine q5 ?_|refine q6 ?_|refine q7 ?_)|(refine qs rfl (ql tab 2 rfl rfl rfl rfl rfl rfl ?_)))
      refine TC.grow0 (size := 4) ?_
      refine TC.loopK (ι := Grow) [1, 2, 3, 40, 41] rfl (fun g => [(42, .int .i64 (g.k : Int))]) (fun g => g.m) (fun g => tok g.s 4 :: .cells b3 0 [.int .i64 6, strV [], .int .i64 u, g.s.v] :: .cells b2 0 (treeC ⟨0, [], 0, ⟨none, 0, 0⟩⟩) :: .cells b 0 (treeC ⟨12, n, u, s⟩) :: L) (fun g => g.k ≤ a.kids.length ∧ SlRep rTree g.m g.s ((a.kids.take g.k).map Tree.ofT) ∧ Own g.s ∧ m ≤ g.m) (fun g => a.kids.length - g.k) ⟨0, ⟨none, 0, 0⟩, m⟩ (by repeat (first|exact trivial|refine And.intro rfl ?_)) rfl (by repeat (exact List.Sublist.refl _)) ⟨Nat.zero_le _, SlRep.nil _ _, Own.nil, Mem.le_refl _⟩ ?_
      rintro ⟨k, t, m1⟩ ⟨hk, ht, hown, hm1⟩
      simp only at hk ht hown hm1 ⊢
      have h41 := h4.mono hm1
      simp only at hl hsm
      repeat (first|refine q1 ?_|refine q3 ?_|refine q4 tab rfl rfl ?_|refine q5 ?_|refine q6 ?_)
      refine TC.condP rfl (fun hlt' => ?_) (fun hlt' => ?_)
      · have hlt : k < a.kids.length := by omega
        have hx : a.kids[k]? = some a.kids[k] := by simp [hlt]
        have hmem := List.getElem_mem hlt
        repeat (first|refine q1 ?_|refine q2 ?_|refine q3 ?_|refine q6 ?_|refine q13 ?_)
        refine TO.step rfl (OT.index tab rTree k h41 rfl rfl rfl rfl rfl (by first | rfl | omega) rfl hx ?_)
        rintro b' i' h' hrd hA
        (refine TO.step rfl (OT.loadA0 tab hA rfl rfl rfl rfl rfl ?_))
        skip
        refine TO.step rfl (OT.alloc tab rfl rfl rfl rfl (fun b5 => ?_))
        skip
        (refine TO.step rfl (OT.storeL0 tab 0 rfl rfl rfl rfl rfl rfl rfl rfl ?_))
        repeat (first|refine q5 ?_|refine q6 ?_)
        generalize hcx : a.kids[k] = c at *
        refine TC.perm (List.Perm.swap _ _ _) ?_
        refine TC.draw [7] mixed 8 rfl (_::_::_::_::L) [tok t 4] perm_last ?_
        refine DO.pure tab (by repeat (first|exact Calm.ret|refine Calm.then ?_|refine Calm.block ?_)) (by kernel_rfl) [0] (by kernel_rfl) rfl ?_
        (refine DO.loadL tab 1 1 (by repeat (first|exact Calm.ret|refine Calm.then ?_|refine Calm.block ?_)) (by kernel_rfl) (by kernel_rfl) rfl rfl rfl rfl rfl rfl rfl rfl ?_)
        (refine DO.loadL (k := 0) tab 2 0 (by repeat (first|exact Calm.ret|refine Calm.then ?_|refine Calm.block ?_)) (by kernel_rfl) (by kernel_rfl) rfl rfl rfl rfl rfl rfl rfl rfl ?_)
        refine DO.run 3 rfl rfl (by kernel_rfl) rfl (OT.call rfl rfl rfl rfl rfl rfl goes36 ((ih c hmem (hkn c hmem) _ _ h' (rTree_iff.1 hrd) (Nat.le_trans (Nat.le_of_lt (bulk_kid hmem)) hB)).x ?_))
        rintro _ m2 _ ⟨hm2, rfl, ht2, rfl, hrt⟩; refine ⟨hm2, _, List.Perm.refl _, ?_⟩
        refine DO.run 4 rfl rfl (by kernel_rfl) rfl ?_
        refine OT.lit tab rfl rfl rfl rfl (fun bl => ?_); refine ⟨Mem.le_refl _, _, perm_mid, ?_⟩
        refine DO.run 5 rfl rfl (by kernel_rfl) rfl ?_
        refine OT.perm List.perm_append_comm (OT.append1 tab rTree 0 (hd' := ht2) (a := c.ofT) (ht.mono hm2) hown (rTree_iff.2 hrt) rfl rfl rfl rfl rfl rfl rfl (by simp only [rTree, mkR, List.length_map, List.length_take]; omega) (fun t' m3 hm3 ht' hown' => ?_)); refine ⟨hm3, _, perm_last, ?_⟩
        refine DO.pure tab (by repeat (first|exact Calm.ret|refine Calm.then ?_|refine Calm.block ?_)) (by kernel_rfl) [6] (by kernel_rfl) rfl ?_
        refine DO.tail ?_
        refine DOt.run 7 rfl rfl (by kernel_rfl) rfl ?_
        refine OT.storeL tab 1 rfl rfl rfl rfl rfl rfl rfl rfl ?_
        refine DOt.nil (by kernel_rfl) ?_
        rotate_left 1
        repeat (first|refine q3 ?_|refine q6 ?_|refine q7 ?_)
        refine TO.perm perm_f4 ?_
        refine TO.step rfl (OT.arith (r' := ((k + 1 : Nat) : Int)) rfl rfl rfl rfl rfl rfl rfl (by omega) ?_)
        repeat (first|refine q4 tab rfl rfl ?_|refine q5 ?_|refine q6 ?_)
        refine ⟨⟨k + 1, t', m3⟩, (by repeat (first|exact trivial|refine And.intro rfl ?_)), (by repeat (first|exact trivial|refine And.intro rfl ?_)), rfl, rfl, (by repeat (first|exact List.Sublist.refl _|refine List.Sublist.cons_cons _ ?_|refine List.Sublist.cons _ ?_)), ⟨by simp only; omega, ?_, hown', Mem.le_trans hm1 (Mem.le_trans hm2 hm3)⟩, by simp only; omega⟩
        simp only
        rw [List.take_succ_eq_append_getElem hlt, hcx, List.map_append]
        exact ht'
      · repeat (first|(first|refine q1 ?_|refine q3 ?_|refine q6 ?_|refine q10 ?_|refine q11 ?_|refine q14 ?_)|(refine qs rfl (qz tab 1 rfl rfl rfl rfl rfl rfl ?_)))
        (refine TO.step rfl (OT.storeL0 tab 2 rfl rfl rfl rfl rfl rfl rfl rfl ?_))
        repeat (first|refine q5 ?_|refine q6 ?_|refine q15 ?_)
        refine retQ_ret_c1 tab 2 rfl rfl rfl rfl (by repeat (first|exact List.Sublist.refl _|refine List.Sublist.cons _ ?_)) ⟨hm1, rfl, ⟨_, [], u, t⟩, rfl, rfl, rfl, h3, ?_⟩
        rw [List.take_of_length_le (by omega)] at ht
        exact ht
  · have h10 : ¬ a.kind = 10 := by omega
    have h8 : ¬ a.kind = 8 := by omega
    rw [if_neg h10, if_neg h8, if_neg (by omega), if_neg (by omega)]
    have h12 : h.kind = 13 ∨ h.kind = 7 := by rw [h1]; exact h13
    obtain ⟨k, n, u, s⟩ := h
    rcases h12 with h12 | h12
    · simp only at h12
      subst h12
      repeat (first|refine q1 ?_|refine q3 ?_)
      refine TO.step rfl (OT.box rfl rfl rfl rfl rfl (fun b => ?_))
      skip
      refine TO.step rfl (OT.alloc tab rfl rfl rfl rfl (fun b2 => ?_))
      repeat (first|(first|refine q1 ?_|refine q3 ?_|refine q4 tab rfl rfl ?_|refine q5 ?_|refine q6 ?_)|(refine qs rfl (ql tab 1 rfl rfl rfl rfl rfl rfl ?_)))
      refine TO.step rfl (OT.alloc tab rfl rfl rfl rfl (fun b3 => ?_))
      skip
      (refine TO.step rfl (OT.storeL0 tab 0 rfl rfl rfl rfl rfl rfl rfl rfl ?_))
      repeat (first|(first|refine q1 ?_|refine q2 ?_|refine q3 ?_|refine q4 tab rfl rfl ?_|refine q5 ?_|refine q6 ?_|refine q17 rfl ?_)|(refine qs rfl (ql tab 2 rfl rfl rfl rfl rfl rfl ?_)))
      (refine TO.step rfl (OT.storeL tab 0 rfl rfl rfl rfl rfl rfl rfl rfl ?_))
      repeat (first|(first|refine q1 ?_|refine q2 ?_|refine q3 ?_|refine q4 tab rfl rfl ?_|refine q5 ?_|refine q6 ?_|refine q7 ?_)|(refine qs rfl (ql tab 2 rfl rfl rfl rfl rfl rfl ?_)))
      refine TC.grow0 (size := 4) ?_
      refine TC.loopK (ι := Grow) [1, 2, 3, 40, 41] rfl (fun g => [(42, .int .i64 (g.k : Int))]) (fun g => g.m) (fun g => tok g.s 4 :: .cells b3 0 [.int .i64 7, strV [], .int .i64 u, g.s.v] :: .cells b2 0 (treeC ⟨0, [], 0, ⟨none, 0, 0⟩⟩) :: .cells b 0 (treeC ⟨13, n, u, s⟩) :: L) (fun g => g.k ≤ a.kids.length ∧ SlRep rTree g.m g.s ((a.kids.take g.k).map Tree.ofT) ∧ Own g.s ∧ m ≤ g.m) (fun g => a.kids.length - g.k) ⟨0, ⟨none, 0, 0⟩, m⟩ (by repeat (first|exact trivial|refine And.intro rfl ?_)) rfl (by repeat (exact List.Sublist.refl _)) ⟨Nat.zero_le _, SlRep.nil _ _, Own.nil, Mem.le_refl _⟩ ?_
      rintro ⟨k, t, m1⟩ ⟨hk, ht, hown, hm1⟩
      simp only at hk ht hown hm1 ⊢
      have h41 := h4.mono hm1
      simp only at hl hsm
      repeat (first|refine q1 ?_|refine q3 ?_|refine q4 tab rfl rfl ?_|refine q5 ?_|refine q6 ?_)
      refine TC.condP rfl (fun hlt' => ?_) (fun hlt' => ?_)
      · have hlt : k < a.kids.length := by omega
        have hx : a.kids[k]? = some a.kids[k] := by simp [hlt]
        have hmem := List.getElem_mem hlt
        repeat (first|refine q1 ?_|refine q2 ?_|refine q3 ?_|refine q6 ?_|refine q13 ?_)
        refine TO.step rfl (OT.index tab rTree k h41 rfl rfl rfl rfl rfl (by first | rfl | omega) rfl hx ?_)
        rintro b' i' h' hrd hA
        (refine TO.step rfl (OT.loadA0 tab hA rfl rfl rfl rfl rfl ?_))
        skip
        refine TO.step rfl (OT.alloc tab rfl rfl rfl rfl (fun b5 => ?_))
        skip
        (refine TO.step rfl (OT.storeL0 tab 0 rfl rfl rfl rfl rfl rfl rfl rfl ?_))
        repeat (first|refine q5 ?_|refine q6 ?_)
        generalize hcx : a.kids[k] = c at *
        refine TC.perm (List.Perm.swap _ _ _) ?_
        refine TC.draw [7] mixed 8 rfl (_::_::_::_::L) [tok t 4] perm_last ?_
        refine DO.pure tab (by repeat (first|exact Calm.ret|refine Calm.then ?_|refine Calm.block ?_)) (by kernel_rfl) [0] (by kernel_rfl) rfl ?_
        (refine DO.loadL tab 1 1 (by repeat (first|exact Calm.ret|refine Calm.then ?_|refine Calm.block ?_)) (by kernel_rfl) (by kernel_rfl) rfl rfl rfl rfl rfl rfl rfl rfl ?_)
        (refine DO.loadL (k := 0) tab 2 0 (by repeat (first|exact Calm.ret|refine Calm.then ?_|refine Calm.block ?_)) (by kernel_rfl) (by kernel_rfl) rfl rfl rfl rfl rfl rfl rfl rfl ?_)
        refine DO.run 3 rfl rfl (by kernel_rfl) rfl (OT.call rfl rfl rfl rfl rfl rfl goes36 ((ih c hmem (hkn c hmem) _ _ h' (rTree_iff.1 hrd) (Nat.le_trans (Nat.le_of_lt (bulk_kid hmem)) hB)).x ?_))
        rintro _ m2 _ ⟨hm2, rfl, ht2, rfl, hrt⟩; refine ⟨hm2, _, List.Perm.refl _, ?_⟩
        refine DO.run 4 rfl rfl (by kernel_rfl) rfl ?_
        refine OT.lit tab rfl rfl rfl rfl (fun bl => ?_); refine ⟨Mem.le_refl _, _, perm_mid, ?_⟩
        refine DO.run 5 rfl rfl (by kernel_rfl) rfl ?_
        refine OT.perm List.perm_append_comm (OT.append1 tab rTree 0 (hd' := ht2) (a := c.ofT) (ht.mono hm2) hown (rTree_iff.2 hrt) rfl rfl rfl rfl rfl rfl rfl (by simp only [rTree, mkR, List.length_map, List.length_take]; omega) (fun t' m3 hm3 ht' hown' => ?_)); refine ⟨hm3, _, perm_last, ?_⟩
        refine DO.pure tab (by repeat (first|exact Calm.ret|refine Calm.then ?_|refine Calm.block ?_)) (by kernel_rfl) [6] (by kernel_rfl) rfl ?_
        refine DO.tail ?_
        refine DOt.run 7 rfl rfl (by kernel_rfl) rfl ?_
        refine OT.storeL tab 1 rfl rfl rfl rfl rfl rfl rfl rfl ?_
        refine DOt.nil (by kernel_rfl) ?_
        rotate_left 1
        repeat (first|refine q3 ?_|refine q6 ?_|refine q7 ?_)
        refine TO.perm perm_f4 ?_
        refine TO.step rfl (OT.arith (r' := ((k + 1 : Nat) : Int)) rfl rfl rfl rfl rfl rfl rfl (by omega) ?_)
        repeat (first|refine q4 tab rfl rfl ?_|refine q5 ?_|refine q6 ?_)
        refine ⟨⟨k + 1, t', m3⟩, (by repeat (first|exact trivial|refine And.intro rfl ?_)), (by repeat (first|exact trivial|refine And.intro rfl ?_)), rfl, rfl, (by repeat (first|exact List.Sublist.refl _|refine List.Sublist.cons_cons _ ?_|refine List.Sublist.cons _ ?_)), ⟨by simp only; omega, ?_, hown', Mem.le_trans hm1 (Mem.le_trans hm2 hm3)⟩, by simp only; omega⟩
        simp only
        rw [List.take_succ_eq_append_getElem hlt, hcx, List.map_append]
        exact ht'
      · repeat (first|(first|refine q1 ?_|refine q3 ?_|refine q6 ?_|refine q10 ?_|refine q11 ?_|refine q14 ?_)|(refine qs rfl (qz tab 1 rfl rfl rfl rfl rfl rfl ?_)))
        (refine TO.step rfl (OT.storeL0 tab 2 rfl rfl rfl rfl rfl rfl rfl rfl ?_))
        repeat (first|refine q5 ?_|refine q6 ?_|refine q15 ?_)
        refine retQ_ret_c1 tab 2 rfl rfl rfl rfl (by repeat (first|exact List.Sublist.refl _|refine List.Sublist.cons _ ?_)) ⟨hm1, rfl, ⟨_, [], u, t⟩, rfl, rfl, rfl, h3, ?_⟩
        rw [List.take_of_length_le (by omega)] at ht
        exact ht
    · simp only at h12
      subst h12
      repeat (first|refine q1 ?_|refine q3 ?_)
      refine TO.step rfl (OT.box rfl rfl rfl rfl rfl (fun b => ?_))
      skip
      refine TO.step rfl (OT.alloc tab rfl rfl rfl rfl (fun b2 => ?_))
      repeat (first|(first|refine q1 ?_|refine q3 ?_|refine q4 tab rfl rfl ?_|refine q5 ?_|refine q6 ?_)|(refine qs rfl (ql tab 1 rfl rfl rfl rfl rfl rfl ?_)))
      refine TO.step rfl (OT.alloc tab rfl rfl rfl rfl (fun b3 => ?_))
      skip
      (refine TO.step rfl (OT.storeL0 tab 0 rfl rfl rfl rfl rfl rfl rfl rfl ?_))
      repeat (first|(first|refine q1 ?_|refine q2 ?_|refine q3 ?_|refine q4 tab rfl rfl ?_|refine q5 ?_|refine q6 ?_|refine q17 rfl ?_)|(refine qs rfl (ql tab 2 rfl rfl rfl rfl rfl rfl ?_)))
      (refine TO.step rfl (OT.storeL tab 0 rfl rfl rfl rfl rfl rfl rfl rfl ?_))
      repeat (first|(first|refine q1 ?_|refine q2 ?_|refine q3 ?_|refine q4 tab rfl rfl ?_|refine q5 ?_|refine q6 ?_|refine q7 ?_)|(refine qs rfl (ql tab 2 rfl rfl rfl rfl rfl rfl ?_)))
      refine TC.grow0 (size := 4) ?_
      refine TC.loopK (ι := Grow) [1, 2, 3, 40, 41] rfl (fun g => [(42, .int .i64 (g.k : Int))]) (fun g => g.m) (fun g => tok g.s 4 :: .cells b3 0 [.int .i64 7, strV [], .int .i64 u, g.s.v] :: .cells b2 0 (treeC ⟨0, [], 0, ⟨none, 0, 0⟩⟩) :: .cells b 0 (treeC ⟨7, n, u, s⟩) :: L) (fun g => g.k ≤ a.kids.length ∧ SlRep rTree g.m g.s ((a.kids.take g.k).map Tree.ofT) ∧ Own g.s ∧ m ≤ g.m) (fun g => a.kids.length - g.k) ⟨0, ⟨none, 0, 0⟩, m⟩ (by repeat (first|exact trivial|refine And.intro rfl ?_)) rfl (by repeat (exact List.Sublist.refl _)) ⟨Nat.zero_le _, SlRep.nil _ _, Own.nil, Mem.le_refl _⟩ ?_
      rintro ⟨k, t, m1⟩ ⟨hk, ht, hown, hm1⟩
      simp only at hk ht hown hm1 ⊢
      have h41 := h4.mono hm1
      simp only at hl hsm
      repeat (first|refine q1 ?_|refine q3 ?_|refine q4 tab rfl rfl ?_|refine q5 ?_|refine q6 ?_)
      refine TC.condP rfl (fun hlt' => ?_) (fun hlt' => ?_)
      · have hlt : k < a.kids.length := by omega
        have hx : a.kids[k]? = some a.kids[k] := by simp [hlt]
        have hmem := List.getElem_mem hlt
        repeat (first|refine q1 ?_|refine q2 ?_|refine q3 ?_|refine q6 ?_|refine q13 ?_)
        refine TO.step rfl (OT.index tab rTree k h41 rfl rfl rfl rfl rfl (by first | rfl | omega) rfl hx ?_)
        rintro b' i' h' hrd hA
        (refine TO.step rfl (OT.loadA0 tab hA rfl rfl rfl rfl rfl ?_))
        skip
        refine TO.step rfl (OT.alloc tab rfl rfl rfl rfl (fun b5 => ?_))
        skip
        (refine TO.step rfl (OT.storeL0 tab 0 rfl rfl rfl rfl rfl rfl rfl rfl ?_))
        repeat (first|refine q5 ?_|refine q6 ?_)
        generalize hcx : a.kids[k] = c at *
        refine TC.perm (List.Perm.swap _ _ _) ?_
        refine TC.draw [7] mixed 8 rfl (_::_::_::_::L) [tok t 4] perm_last ?_
        refine DO.pure tab (by repeat (first|exact Calm.ret|refine Calm.then ?_|refine Calm.block ?_)) (by kernel_rfl) [0] (by kernel_rfl) rfl ?_
        (refine DO.loadL tab 1 1 (by repeat (first|exact Calm.ret|refine Calm.then ?_|refine Calm.block ?_)) (by kernel_rfl) (by kernel_rfl) rfl rfl rfl rfl rfl rfl rfl rfl ?_)
        (refine DO.loadL (k := 0) tab 2 0 (by repeat (first|exact Calm.ret|refine Calm.then ?_|refine Calm.block ?_)) (by kernel_rfl) (by kernel_rfl) rfl rfl rfl rfl rfl rfl rfl rfl ?_)
        refine DO.run 3 rfl rfl (by kernel_rfl) rfl (OT.call rfl rfl rfl rfl rfl rfl goes36 ((ih c hmem (hkn c hmem) _ _ h' (rTree_iff.1 hrd) (Nat.le_trans (Nat.le_of_lt (bulk_kid hmem)) hB)).x ?_))
        rintro _ m2 _ ⟨hm2, rfl, ht2, rfl, hrt⟩; refine ⟨hm2, _, List.Perm.refl _, ?_⟩
        refine DO.run 4 rfl rfl (by kernel_rfl) rfl ?_
        refine OT.lit tab rfl rfl rfl rfl (fun bl => ?_); refine ⟨Mem.le_refl _, _, perm_mid, ?_⟩
        refine DO.run 5 rfl rfl (by kernel_rfl) rfl ?_
        refine OT.perm List.perm_append_comm (OT.append1 tab rTree 0 (hd' := ht2) (a := c.ofT) (ht.mono hm2) hown (rTree_iff.2 hrt) rfl rfl rfl rfl rfl rfl rfl (by simp only [rTree, mkR, List.length_map, List.length_take]; omega) (fun t' m3 hm3 ht' hown' => ?_)); refine ⟨hm3, _, perm_last, ?_⟩
        refine DO.pure tab (by repeat (first|exact Calm.ret|refine Calm.then ?_|refine Calm.block ?_)) (by kernel_rfl) [6] (by kernel_rfl) rfl ?_
        refine DO.tail ?_
        refine DOt.run 7 rfl rfl (by kernel_rfl) rfl ?_
        refine OT.storeL tab 1 rfl rfl rfl rfl rfl rfl rfl rfl ?_
        refine DOt.nil (by kernel_rfl) ?_
        rotate_left 1
        repeat (first|refine q3 ?_|refine q6 ?_|refine q7 ?_)
        refine TO.perm perm_f4 ?_
        refine TO.step rfl (OT.arith (r' := ((k + 1 : Nat) : Int)) rfl rfl rfl rfl rfl rfl rfl (by omega) ?_)
        repeat (first|refine q4 tab rfl rfl ?_|refine q5 ?_|refine q6 ?_)
        refine ⟨⟨k + 1, t', m3⟩, (by repeat (first|exact trivial|refine And.intro rfl ?_)), (by repeat (first|exact trivial|refine And.intro rfl ?_)), rfl, rfl, (by repeat (first|exact List.Sublist.refl _|refine List.Sublist.cons_cons _ ?_|refine List.Sublist.cons _ ?_)), ⟨by simp only; omega, ?_, hown', Mem.le_trans hm1 (Mem.le_trans hm2 hm3)⟩, by simp only; omega⟩
        simp only
        rw [List.take_succ_eq_append_getElem hlt, hcx, List.map_append]
        exact ht'
      · repeat (first|(first|refine q1 ?_|refine q3 ?_|refine q6 ?_|refine q10 ?_|refine q11 ?_|refine q14 ?_)|(refine qs rfl (qz tab 1 rfl rfl rfl rfl rfl rfl ?_)))
        (refine TO.step rfl (OT.storeL0 tab 2 rfl rfl rfl rfl rfl rfl rfl rfl ?_))
        repeat (first|refine q5 ?_|refine q6 ?_|refine q15 ?_)
        refine retQ_ret_c1 tab 2 rfl rfl rfl rfl (by repeat (first|exact List.Sublist.refl _|refine List.Sublist.cons _ ?_)) ⟨hm1, rfl, ⟨_, [], u, t⟩, rfl, rfl, rfl, h3, ?_⟩
        rw [List.take_of_length_le (by omega)] at ht
        exact ht
  · rw [if_neg (by omega), if_pos h8, hks]
    have hmem : k ∈ a.kids := by rw [hks]; simp
    obtain ⟨k', n, u, s⟩ := h
    obtain rfl : k' = 8 := h1.trans h8
    have hx : a.kids[0]? = some k := by rw [hks]; rfl
    repeat (first|refine q1 ?_|refine q3 ?_)
    refine TO.step rfl (OT.box rfl rfl rfl rfl rfl (fun b => ?_))
    skip
    refine TO.step rfl (OT.alloc tab rfl rfl rfl rfl (fun b2 => ?_))
    repeat (first|(first|refine q1 ?_|refine q3 ?_|refine q4 tab rfl rfl ?_|refine q5 ?_|refine q6 ?_)|(refine qs rfl (ql tab 1 rfl rfl rfl rfl rfl rfl ?_)))
    refine TO.step rfl (OT.alloc tab rfl rfl rfl rfl (fun b3 => ?_))
    skip
    (refine TO.step rfl (OT.storeL0 tab 0 rfl rfl rfl rfl rfl rfl rfl rfl ?_))
    repeat (first|(first|refine q1 ?_|refine q2 ?_|refine q3 ?_|refine q4 tab rfl rfl ?_|refine q5 ?_|refine q6 ?_|refine q16 rfl ?_|refine q17 rfl ?_)|(refine qs rfl (ql tab 2 rfl rfl rfl rfl rfl rfl ?_)))
    refine TO.step rfl (OT.index tab rTree 0 h4 rfl rfl rfl rfl rfl (by first | rfl | omega) rfl hx ?_)
    rintro b' i' h' hrd hA
    (refine TO.step rfl (OT.loadA0 tab hA rfl rfl rfl rfl rfl ?_))
    skip
    refine TO.step rfl (OT.call rfl rfl rfl rfl rfl rfl goes36 ((ih k hmem hkn _ _ h' (rTree_iff.1 hrd) (Nat.le_trans (Nat.le_of_lt (bulk_kid hmem)) hB)).x ?_));
    rintro _ m2 _ ⟨hm2, rfl, ht2, rfl, hrt⟩
    skip
    (refine TO.step rfl (OT.storeL0 tab 1 rfl rfl rfl rfl rfl rfl rfl rfl ?_))
    repeat (first|refine q5 ?_|refine q6 ?_|refine q8 ?_|refine q9 ?_|refine q15 ?_)
    exact retQ_ret_c1 tab 1 rfl rfl rfl rfl (by repeat (first|exact List.Sublist.refl _|refine List.Sublist.cons _ ?_)) ⟨hm2, rfl, ht2, rfl, hrt⟩
end Go.Sep

/-
  types.Of and the reference's Of.
-/
set_option linter.unusedVariables false
set_option linter.unusedSimpArgs false
namespace Go.Sep
open Go.Proofs
attribute [local irreducible] TC TO OT TCallX TCall DO DOt thenQ blockQ retQ At

def okT (a : Tree) : Bool := okType a || okSig a
def ofRes (a : Tree) : Tree × Int := if okT a = true then (a.ofT, 0) else (.mk 0 [] 0 [], 2)
/-- a tree and a number are made -/
def MadeTI (m : Mem) (L : List Item) (x : Tree × Int) : Value → Mem → List Item → Prop := Made m L fun r m' => ∃ h : HTree, r = .tuple ⟨[treeV h, .int .i64 x.2]⟩ ∧ TreeRep m' h x.1

theorem okT_node {a : Tree} (h : okT a = true) : okNode a = true := by
  unfold okT okType okSig at h
  unfold okNode
  rw [Bool.or_eq_true, Bool.and_eq_true, Bool.and_eq_true] at h
  rcases h with h | h
  · rw [h.2]; rfl
  · rw [h.2]; simp

theorem type_not7 {a : Tree} (h : a.isType = true) : ¬ a.kind = 7 := by
  rcases isType_facts h with h | h | h <;> omega

set_option maxHeartbeats 1600000 in
theorem of_own (a : Tree) (m : Mem) (L : List Item) (h : HTree) (hr : TreeRep m h a) (hB : a.bulk ≤ 1048576) : TCall Try.prog 10 ⟨[treeV h]⟩ m L (MadeTI m L (ofRes a)) := by
  have hk := hr.kind
  unfold TCall
  refine TCallX.enter Try.func10 rfl 28 rfl ?_
  repeat (first|refine q1 ?_|refine q3 ?_)
  refine TO.step rfl (OT.box rfl rfl rfl rfl rfl (fun b => ?_))
  skip
  refine TO.step rfl (OT.alloc tab rfl rfl rfl rfl (fun b2 => ?_))
  repeat (first|refine q1 ?_|refine q3 ?_|refine q4 tab rfl rfl ?_|refine q5 ?_|refine q6 ?_)
  refine TO.step rfl (OT.alloc tab rfl rfl rfl rfl (fun b3 => ?_))
  skip
  (refine TO.step rfl (OT.storeL0 tab 0 rfl rfl rfl rfl rfl rfl rfl rfl ?_))
  repeat (first|(first|refine q1 ?_|refine q3 ?_|refine q4 tab rfl rfl ?_|refine q5 ?_|refine q6 ?_)|(refine qs rfl (ql tab 2 rfl rfl rfl rfl rfl rfl ?_)))
  refine TC.condP rfl (fun h7 => ?_) (fun h7 => ?_)
  · repeat (first|refine q3 ?_|refine q4 tab rfl rfl ?_)
    refine TO.step rfl (OT.arith (r' := 98) rfl rfl rfl rfl rfl rfl rfl (by omega) ?_)
    repeat (first|(first|refine q1 ?_|refine q3 ?_|refine q4 tab rfl rfl ?_|refine q5 ?_|refine q6 ?_)|(refine qs rfl (qz tab 2 rfl rfl rfl rfl rfl rfl ?_)))
    have hsB : ∀ r : Bool, r = decide ((a.size : Int) ≤ 19997 ∧ (a.deep : Int) ≤ 98) → (r = true → (a.isType = true ∨ a.isSig = true) → okT a = true) ∧ (r = false → okT a = false) := by
      intro r hrr
      subst hrr
      unfold okT okType okSig
      rw [withinB_eq, withinB_eq]
      refine ⟨fun hd ht => ?_, fun hd => ?_⟩
      · have hd := of_decide_eq_true hd
        rcases ht with ht | ht
        · have := type_not7 ht
          rw [ht, decide_eq_true (show (a.size : Int) + 3 ≤ 20000 by omega), decide_eq_true (show (a.deep : Int) + 3 ≤ 100 by omega)]; rfl
        · have := (isSig_facts ht).1
          rw [ht, decide_eq_true (show (a.size : Int) + 3 ≤ 20000 by omega), decide_eq_true (show (a.deep : Int) + 2 ≤ 100 by omega)]; simp
      · have hd := of_decide_eq_false hd
        rw [Bool.or_eq_false_iff]
        refine ⟨Bool.eq_false_iff.2 fun hc => ?_, Bool.eq_false_iff.2 fun hc => ?_⟩
        · simp only [Bool.and_eq_true, decide_eq_true_eq] at hc
          have := type_not7 hc.2
          omega
        · simp only [Bool.and_eq_true, decide_eq_true_eq] at hc
          have := (isSig_facts hc.2).1
          omega
    have hno : a.isType = false → a.isSig = false → okT a = false := fun h1 h2 => by unfold okT okType okSig; rw [h1, h2]; simp
    refine TO.step rfl (OT.call rfl rfl rfl rfl rfl rfl goes33 ((small_law a _ _ h hr 98 19997 0 b3 rfl (by omega) (by omega)).x ?_));
    rintro v _ L3 ⟨rfl, hv, y, hL, _⟩
    generalize hsm : decide ((a.size : Int) ≤ 19997 ∧ (a.deep : Int) ≤ 98) = sm at hv
    have hsB' := hsB sm hsm.symm
    clear hsm hsB
    subst hv
    subst hL
    repeat (refine q4 tab rfl rfl ?_)
    refine TO.split (b := !sm) rfl rfl (fun h1 => ?_) (fun h1 => ?_)
    · rw [Bool.not_eq_true'] at h1
      have hbad := hsB'.2 h1
      repeat (first|refine q1 ?_|refine q3 ?_|refine q4 tab rfl rfl ?_|refine q5 ?_|refine q6 ?_|refine q16 rfl ?_)
      (refine TO.step rfl (OT.storeL0 tab 1 rfl rfl rfl rfl rfl rfl rfl rfl ?_))
      repeat (first|refine q4 tab rfl rfl ?_|refine q5 ?_|refine q6 ?_|refine q8 ?_|refine q15 ?_)
      refine retQ_ret_c tab 1 rfl rfl rfl rfl rfl (by repeat (first|exact List.Sublist.refl _|refine List.Sublist.cons _ ?_)) ⟨Mem.le_refl _, rfl, ⟨0, [], 0, ⟨none, 0, 0⟩⟩, ?_⟩
      rw [ofRes, hbad]
      exact ⟨rfl, TreeRep.leaf _ _ _ _⟩
    rw [Bool.not_eq_false'] at h1
    repeat ((refine qs rfl (qz tab 2 rfl rfl rfl rfl rfl rfl ?_)))
    refine TO.step rfl (OT.call rfl rfl rfl rfl rfl rfl goes34 ((type_law a _ _ h hr hB).x ?_));
    rintro _ _ _ ⟨rfl, rfl, rfl⟩
    repeat (refine q4 tab rfl rfl ?_)
    refine TO.split (b := !a.isType) rfl rfl (fun h2 => ?_) (fun h2 => ?_)
    · rw [Bool.not_eq_true'] at h2
      repeat ((refine qs rfl (qz tab 2 rfl rfl rfl rfl rfl rfl ?_)))
      refine TO.step rfl (OT.call rfl rfl rfl rfl rfl rfl goes35 ((sig_law a _ _ h hr hB).x ?_));
      rintro _ _ _ ⟨rfl, rfl, rfl⟩
      repeat (first|refine q4 tab rfl rfl ?_|refine q5 ?_|refine q6 ?_)
      refine TC.cond (t := !a.isSig) rfl (fun h3 => ?_) (fun h3 => ?_)
      · rw [Bool.not_eq_true'] at h3
        have hbad := hno h2 h3
        repeat (first|refine q1 ?_|refine q3 ?_|refine q4 tab rfl rfl ?_)
        (refine TO.step rfl (OT.storeL0 tab 1 rfl rfl rfl rfl rfl rfl rfl rfl ?_))
        repeat (first|refine q4 tab rfl rfl ?_|refine q5 ?_|refine q6 ?_|refine q8 ?_|refine q15 ?_)
        refine retQ_ret_c tab 1 rfl rfl rfl rfl rfl (by repeat (first|exact List.Sublist.refl _|refine List.Sublist.cons _ ?_)) ⟨Mem.le_refl _, rfl, ⟨0, [], 0, ⟨none, 0, 0⟩⟩, ?_⟩
        rw [ofRes, hbad]
        exact ⟨rfl, TreeRep.leaf _ _ _ _⟩
      · rw [Bool.not_eq_false'] at h3
        have hok := hsB'.1 h1 (.inr h3)
        repeat (first|(first|refine q1 ?_|refine q3 ?_|refine q6 ?_|refine q13 ?_)|(refine qs rfl (qz tab 2 rfl rfl rfl rfl rfl rfl ?_)))
        refine TO.step rfl (OT.call rfl rfl rfl rfl rfl rfl goes36 ((ofN_law a (okT_node hok) _ _ h hr hB).x ?_));
        rintro _ m1 _ ⟨hm1, rfl, h', rfl, hr'⟩
        skip
        (refine TO.step rfl (OT.storeL0 tab 1 rfl rfl rfl rfl rfl rfl rfl rfl ?_))
        repeat (first|refine q4 tab rfl rfl ?_|refine q5 ?_|refine q6 ?_|refine q15 ?_)
        refine retQ_ret_c tab 1 rfl rfl rfl rfl rfl (by repeat (first|exact List.Sublist.refl _|refine List.Sublist.cons _ ?_)) ⟨hm1, rfl, h', ?_⟩
        rw [ofRes, hok]
        exact ⟨rfl, hr'⟩
    · rw [Bool.not_eq_false'] at h2
      have hok := hsB'.1 h1 (.inl h2)
      repeat (first|(first|refine q1 ?_|refine q3 ?_|refine q4 tab rfl rfl ?_|refine q5 ?_|refine q6 ?_|refine q13 ?_|refine q17 rfl ?_)|(refine qs rfl (qz tab 2 rfl rfl rfl rfl rfl rfl ?_)))
      refine TO.step rfl (OT.call rfl rfl rfl rfl rfl rfl goes36 ((ofN_law a (okT_node hok) _ _ h hr hB).x ?_));
      rintro _ m1 _ ⟨hm1, rfl, h', rfl, hr'⟩
      skip
      (refine TO.step rfl (OT.storeL0 tab 1 rfl rfl rfl rfl rfl rfl rfl rfl ?_))
      repeat (first|refine q4 tab rfl rfl ?_|refine q5 ?_|refine q6 ?_|refine q15 ?_)
      refine retQ_ret_c tab 1 rfl rfl rfl rfl rfl (by repeat (first|exact List.Sublist.refl _|refine List.Sublist.cons _ ?_)) ⟨hm1, rfl, h', ?_⟩
      rw [ofRes, hok]
      exact ⟨rfl, hr'⟩
  · repeat (first|(first|refine q1 ?_|refine q3 ?_|refine q4 tab rfl rfl ?_|refine q6 ?_|refine q13 ?_)|(refine qs rfl (qz tab 2 rfl rfl rfl rfl rfl rfl ?_)))
    have hsB : ∀ r : Bool, r = decide ((a.size : Int) ≤ 19997 ∧ (a.deep : Int) ≤ 97) → (r = true → (a.isType = true ∨ a.isSig = true) → okT a = true) ∧ (r = false → okT a = false) := by
      intro r hrr
      subst hrr
      unfold okT okType okSig
      rw [withinB_eq, withinB_eq]
      refine ⟨fun hd ht => ?_, fun hd => ?_⟩
      · have hd := of_decide_eq_true hd
        rcases ht with ht | ht
        · have := type_not7 ht
          rw [ht, decide_eq_true (show (a.size : Int) + 3 ≤ 20000 by omega), decide_eq_true (show (a.deep : Int) + 3 ≤ 100 by omega)]; rfl
        · have := (isSig_facts ht).1
          rw [ht, decide_eq_true (show (a.size : Int) + 3 ≤ 20000 by omega), decide_eq_true (show (a.deep : Int) + 2 ≤ 100 by omega)]; simp
      · have hd := of_decide_eq_false hd
        rw [Bool.or_eq_false_iff]
        refine ⟨Bool.eq_false_iff.2 fun hc => ?_, Bool.eq_false_iff.2 fun hc => ?_⟩
        · simp only [Bool.and_eq_true, decide_eq_true_eq] at hc
          have := type_not7 hc.2
          omega
        · simp only [Bool.and_eq_true, decide_eq_true_eq] at hc
          have := (isSig_facts hc.2).1
          omega
    have hno : a.isType = false → a.isSig = false → okT a = false := fun h1 h2 => by unfold okT okType okSig; rw [h1, h2]; simp
    refine TO.step rfl (OT.call rfl rfl rfl rfl rfl rfl goes33 ((small_law a _ _ h hr 97 19997 0 b3 rfl (by omega) (by omega)).x ?_));
    rintro v _ L3 ⟨rfl, hv, y, hL, _⟩
    generalize hsm : decide ((a.size : Int) ≤ 19997 ∧ (a.deep : Int) ≤ 97) = sm at hv
    have hsB' := hsB sm hsm.symm
    clear hsm hsB
    subst hv
    subst hL
    repeat (refine q4 tab rfl rfl ?_)
    refine TO.split (b := !sm) rfl rfl (fun h1 => ?_) (fun h1 => ?_)
    · rw [Bool.not_eq_true'] at h1
      have hbad := hsB'.2 h1
      repeat (first|refine q1 ?_|refine q3 ?_|refine q4 tab rfl rfl ?_|refine q5 ?_|refine q6 ?_|refine q16 rfl ?_)
      (refine TO.step rfl (OT.storeL0 tab 1 rfl rfl rfl rfl rfl rfl rfl rfl ?_))
      repeat (first|refine q4 tab rfl rfl ?_|refine q5 ?_|refine q6 ?_|refine q8 ?_|refine q15 ?_)
      refine retQ_ret_c tab 1 rfl rfl rfl rfl rfl (by repeat (first|exact List.Sublist.refl _|refine List.Sublist.cons _ ?_)) ⟨Mem.le_refl _, rfl, ⟨0, [], 0, ⟨none, 0, 0⟩⟩, ?_⟩
      rw [ofRes, hbad]
      exact ⟨rfl, TreeRep.leaf _ _ _ _⟩
    rw [Bool.not_eq_false'] at h1
    repeat ((refine qs rfl (qz tab 2 rfl rfl rfl rfl rfl rfl ?_)))
    refine TO.step rfl (OT.call rfl rfl rfl rfl rfl rfl goes34 ((type_law a _ _ h hr hB).x ?_));
    rintro _ _ _ ⟨rfl, rfl, rfl⟩
    repeat (refine q4 tab rfl rfl ?_)
    refine TO.split (b := !a.isType) rfl rfl (fun h2 => ?_) (fun h2 => ?_)
    · rw [Bool.not_eq_true'] at h2
      repeat ((refine qs rfl (qz tab 2 rfl rfl rfl rfl rfl rfl ?_)))
      refine TO.step rfl (OT.call rfl rfl rfl rfl rfl rfl goes35 ((sig_law a _ _ h hr hB).x ?_));
      rintro _ _ _ ⟨rfl, rfl, rfl⟩
      repeat (first|refine q4 tab rfl rfl ?_|refine q5 ?_|refine q6 ?_)
      refine TC.cond (t := !a.isSig) rfl (fun h3 => ?_) (fun h3 => ?_)
      · rw [Bool.not_eq_true'] at h3
        have hbad := hno h2 h3
        repeat (first|refine q1 ?_|refine q3 ?_|refine q4 tab rfl rfl ?_)
        (refine TO.step rfl (OT.storeL0 tab 1 rfl rfl rfl rfl rfl rfl rfl rfl ?_))
        repeat (first|refine q4 tab rfl rfl ?_|refine q5 ?_|refine q6 ?_|refine q8 ?_|refine q15 ?_)
        refine retQ_ret_c tab 1 rfl rfl rfl rfl rfl (by repeat (first|exact List.Sublist.refl _|refine List.Sublist.cons _ ?_)) ⟨Mem.le_refl _, rfl, ⟨0, [], 0, ⟨none, 0, 0⟩⟩, ?_⟩
        rw [ofRes, hbad]
        exact ⟨rfl, TreeRep.leaf _ _ _ _⟩
      · rw [Bool.not_eq_false'] at h3
        have hok := hsB'.1 h1 (.inr h3)
        repeat (first|(first|refine q1 ?_|refine q3 ?_|refine q6 ?_|refine q13 ?_)|(refine qs rfl (qz tab 2 rfl rfl rfl rfl rfl rfl ?_)))
        refine TO.step rfl (OT.call rfl rfl rfl rfl rfl rfl goes36 ((ofN_law a (okT_node hok) _ _ h hr hB).x ?_));
        rintro _ m1 _ ⟨hm1, rfl, h', rfl, hr'⟩
        skip
        (refine TO.step rfl (OT.storeL0 tab 1 rfl rfl rfl rfl rfl rfl rfl rfl ?_))
        repeat (first|refine q4 tab rfl rfl ?_|refine q5 ?_|refine q6 ?_|refine q15 ?_)
        refine retQ_ret_c tab 1 rfl rfl rfl rfl rfl (by repeat (first|exact List.Sublist.refl _|refine List.Sublist.cons _ ?_)) ⟨hm1, rfl, h', ?_⟩
        rw [ofRes, hok]
        exact ⟨rfl, hr'⟩
    · rw [Bool.not_eq_false'] at h2
      have hok := hsB'.1 h1 (.inl h2)
      repeat (first|(first|refine q1 ?_|refine q3 ?_|refine q4 tab rfl rfl ?_|refine q5 ?_|refine q6 ?_|refine q13 ?_|refine q17 rfl ?_)|(refine qs rfl (qz tab 2 rfl rfl rfl rfl rfl rfl ?_)))
      refine TO.step rfl (OT.call rfl rfl rfl rfl rfl rfl goes36 ((ofN_law a (okT_node hok) _ _ h hr hB).x ?_));
      rintro _ m1 _ ⟨hm1, rfl, h', rfl, hr'⟩
      skip
      (refine TO.step rfl (OT.storeL0 tab 1 rfl rfl rfl rfl rfl rfl rfl rfl ?_))
      repeat (first|refine q4 tab rfl rfl ?_|refine q5 ?_|refine q6 ?_|refine q15 ?_)
      refine retQ_ret_c tab 1 rfl rfl rfl rfl rfl (by repeat (first|exact List.Sublist.refl _|refine List.Sublist.cons _ ?_)) ⟨hm1, rfl, h', ?_⟩
      rw [ofRes, hok]
      exact ⟨rfl, hr'⟩
end Go.Sep

/-
  Maps that are only read.
-/
set_option linter.unusedVariables false
set_option linter.unusedSimpArgs false
namespace Go.Sep
variable {κ : Type} [DecidableEq κ]
section
variable {P : Program} {N : Nat} {ρ : Env} {D : List Deferred} {m : Mem} {L : List Item} {Q : EPost} {o : Oper} {full : List Oper} {K : Env → Mem → List Item → Prop}
theorem TO.freezeO {l : List Oper} {b : Nat} {x : Obj} (h : ∀ m', m ≤ m' → m'.o b = some x → TO P N ⟨full⟩ l ρ D m' L Q) : TO P N ⟨full⟩ l ρ D m (.obj b x :: L) Q := by
  intro a w ha
  obtain ⟨h1, h2, h3⟩ := ha.st.freezeObj
  exact h _ h1 h2 a w ⟨ha.size, ha.env, ha.defers, h3⟩
theorem TC.freezeO {c : Code} {b : Nat} {x : Obj} (h : ∀ m', m ≤ m' → m'.o b = some x → TC P N c ρ D m' L Q) : TC P N c ρ D m (.obj b x :: L) Q := by
  intro a w ha
  obtain ⟨h1, h2, h3⟩ := ha.st.freezeObj
  exact h _ h1 h2 a w ⟨ha.size, ha.env, ha.defers, h3⟩
/-- v, ok := m[k] -/
theorem OT.lookupOkP (T : Tab P) (k : KeyK κ) {t kt vt : TypeId} {mp ky : Operand} {b c d : Nat} {es : Ents κ} (x : κ) {zi : TI} (ho : o.op = .lookup t mp ky true) (hd : o.dst = some d) (hN : Nat.blt d N = true)
    (hm : ev ρ mp = some (.map (some b))) (hk : ev ρ ky = some (k.v x)) (ht : T.mapT k t = some (kt, vt)) (hz : T.get vt = some zi) (hi : m.o b = some (mapO k es c))
    (hK : K ((d, .tuple ⟨[(mget es x).getD zi.zero, .bool (mhas es x)]⟩) :: ρ) m L) : OT P N o ρ D m L Q K := by
  refine OT.run hd hN (fun a w ha => ⟨w, ?_, ha.st⟩) hK
  obtain ⟨ti, ki, h1, h2, h3, h4⟩ := mapT_get ht
  have hu := T.run_underlying w h1
  rw [h2] at hu
  have huk := T.run_underlying w h3
  have hobj : w.heap[b]? = some (mapO k es c) := (ha.st.o _ _ hi).1
  have hck := fun e => k.check P w e kt ki.u x h4 huk
  have hfk := run_findKey (P := P) k h4 huk x es
  have hzv := T.run_zero w hz
  simp only [execOp, ho, ha.env.eval hm, ha.env.eval hk, Sem.run_bind, Instr.lookup, hu, Result.andThen_ok, run_getObj hobj rfl, mapO, Sem.run_pure, hck, hfk]
  by_cases hh : mhas es x = true
  · have hg : ∃ v, mget es x = some v := by
      have hx : ∃ e ∈ es, decide (e.1 = x) = true := by simpa [mhas, List.any_eq_true] using hh
      obtain ⟨e, he, hx⟩ := hx
      cases hf : es.find? (fun e => decide (e.1 = x)) with
      | none => exact absurd hx (by simpa using List.find?_eq_none.1 hf e he)
      | some u => exact ⟨u.2.1, by simp [mget, hf]⟩
    obtain ⟨v, hv⟩ := hg
    simp [hh, hv]
  · have hf : mhas es x = false := by simpa using hh
    have hv : mget es x = none := by
      have : es.find? (fun e => decide (e.1 = x)) = none := List.find?_eq_none.2 fun e he hx => by
        rw [mhas, List.any_eq_false] at hf
        exact hf e he hx
      simp [mget, this]
    simp [hf, hv, hzv]

/-- v := m[k] -/
theorem OT.lookupP (T : Tab P) (k : KeyK κ) {t kt vt : TypeId} {mp ky : Operand} {b c d : Nat} {es : Ents κ} (x : κ) {zi : TI} (ho : o.op = .lookup t mp ky false) (hd : o.dst = some d) (hN : Nat.blt d N = true)
    (hm : ev ρ mp = some (.map (some b))) (hk : ev ρ ky = some (k.v x)) (ht : T.mapT k t = some (kt, vt)) (hz : T.get vt = some zi) (hi : m.o b = some (mapO k es c))
    (hK : K ((d, (mget es x).getD zi.zero) :: ρ) m L) : OT P N o ρ D m L Q K := by
  refine OT.run hd hN (fun a w ha => ⟨w, ?_, ha.st⟩) hK
  obtain ⟨ti, ki, h1, h2, h3, h4⟩ := mapT_get ht
  have hu := T.run_underlying w h1
  rw [h2] at hu
  have huk := T.run_underlying w h3
  have hobj : w.heap[b]? = some (mapO k es c) := (ha.st.o _ _ hi).1
  have hck := fun e => k.check P w e kt ki.u x h4 huk
  have hfk := run_findKey (P := P) k h4 huk x es
  have hzv := T.run_zero w hz
  simp only [execOp, ho, ha.env.eval hm, ha.env.eval hk, Sem.run_bind, Instr.lookup, hu, Result.andThen_ok, run_getObj hobj rfl, mapO, Sem.run_pure, hck, hfk]
  by_cases hh : mhas es x = true
  · have hg : ∃ v, mget es x = some v := by
      have hx : ∃ e ∈ es, decide (e.1 = x) = true := by simpa [mhas, List.any_eq_true] using hh
      obtain ⟨e, he, hx⟩ := hx
      cases hf : es.find? (fun e => decide (e.1 = x)) with
      | none => exact absurd hx (by simpa using List.find?_eq_none.1 hf e he)
      | some u => exact ⟨u.2.1, by simp [mget, hf]⟩
    obtain ⟨v, hv⟩ := hg
    simp [hh, hv]
  · have hf : mhas es x = false := by simpa using hh
    have hv : mget es x = none := by
      have : es.find? (fun e => decide (e.1 = x)) = none := List.find?_eq_none.2 fun e he hx => by
        rw [mhas, List.any_eq_false] at hf
        exact hf e he hx
      simp [mget, this]
    simp [hf, hv, hzv]

theorem OT.mapLenP (T : Tab P) (k : KeyK κ) {t kt vt : TypeId} {mp : Operand} {b c d : Nat} {es : Ents κ} (ho : o.op = .call ⟨.builtin .len, ⟨[mp]⟩, ⟨[t]⟩⟩) (hd : o.dst = some d) (hN : Nat.blt d N = true)
    (hm : ev ρ mp = some (.map (some b))) (ht : T.mapT k t = some (kt, vt)) (hi : m.o b = some (mapO k es c))
    (hK : K ((d, .int .i64 (es.length : Int)) :: ρ) m L) : OT P N o ρ D m L Q K := by
  refine OT.run hd hN (fun a w ha => ⟨w, ?_, ha.st⟩) hK
  obtain ⟨ti, ki, h1, h2, h3, h4⟩ := mapT_get ht
  have hu := T.run_underlying w h1
  rw [h2] at hu
  have hobj : w.heap[b]? = some (mapO k es c) := (ha.st.o _ _ hi).1
  simp only [execOp, ho, resolve, Sem.run_bind, Sem.run_pure, Result.andThen_ok, invoke, builtin, List.map_toArray, List.map_cons, List.map_nil, ha.env.eval hm, Builtin.len_]
  simp [hu, run_getObj hobj rfl, mapO, ha.env.eval hm, goInt]


theorem equalIn_mapSome {t a b : TypeId} {w : World} (dd r : Nat) (hu : (underlying t).run P w = .ok (.map a b) w) :
    (Op.equalIn (dd + 1) t (.map (some r)) (.map none)).run P w = .ok false w := by
  simp only [Op.equalIn, Sem.run_bind, hu, Result.andThen_ok, Sem.run_pure]
theorem equalIn_mapNone {t a b : TypeId} {w : World} (dd : Nat) (hu : (underlying t).run P w = .ok (.map a b) w) :
    (Op.equalIn (dd + 1) t (.map none) (.map none)).run P w = .ok true w := by
  simp only [Op.equalIn, Sem.run_bind, hu, Result.andThen_ok, Sem.run_pure]
  rfl

/-- a map is not nil; nil is -/
theorem OT.mapNe (T : Tab P) (k : KeyK κ) {t t' kt vt : TypeId} {x y : Operand} {r : Option Nat} {d : Nat} (ho : o.op = .binOp .neq t x y t') (hd : o.dst = some d) (hN : Nat.blt d N = true)
    (hx : ev ρ x = some (.map r)) (hy : ev ρ y = some (.map none)) (ht : T.mapT k t = some (kt, vt)) (hK : K ((d, .bool r.isSome) :: ρ) m L) : OT P N o ρ D m L Q K := by
  obtain ⟨ti, ki, h1, h2, h3, h4⟩ := mapT_get ht
  refine OT.run hd hN (fun ac w ha => ⟨w, ?_, ha.st⟩) hK
  have hu := T.run_underlying w h1
  rw [h2] at hu
  have e1 : ∀ z, binOp .neq t (.map z) (.map none) = (do pure (.bool (!(← Op.equalIn (9999 + 1) t (.map z) (.map none)))) : Sem Value) := fun _ => rfl
  have e2 : (eqGuard .neq t x y (.map r) (.map none)).run P w = .ok () w := by simp [eqGuard]
  cases r with
  | none =>
    have h := equalIn_mapNone (P := P) 9999 hu
    simp only [execOp, ho, ha.env.eval hx, ha.env.eval hy, Sem.run_bind, e2, Result.andThen_ok, e1, h, Sem.run_pure]; rfl
  | some r =>
    have h := equalIn_mapSome (P := P) 9999 r hu
    simp only [execOp, ho, ha.env.eval hx, ha.env.eval hy, Sem.run_bind, e2, Result.andThen_ok, e1, h, Sem.run_pure]; rfl
theorem OT.mapEq (T : Tab P) (k : KeyK κ) {t t' kt vt : TypeId} {x y : Operand} {r : Option Nat} {d : Nat} (ho : o.op = .binOp .eql t x y t') (hd : o.dst = some d) (hN : Nat.blt d N = true)
    (hx : ev ρ x = some (.map r)) (hy : ev ρ y = some (.map none)) (ht : T.mapT k t = some (kt, vt)) (hK : K ((d, .bool r.isNone) :: ρ) m L) : OT P N o ρ D m L Q K := by
  obtain ⟨ti, ki, h1, h2, h3, h4⟩ := mapT_get ht
  refine OT.run hd hN (fun ac w ha => ⟨w, ?_, ha.st⟩) hK
  have hu := T.run_underlying w h1
  rw [h2] at hu
  have e1 : ∀ z, binOp .eql t (.map z) (.map none) = (do pure (.bool (← Op.equalIn (9999 + 1) t (.map z) (.map none))) : Sem Value) := fun _ => rfl
  have e2 : (eqGuard .eql t x y (.map r) (.map none)).run P w = .ok () w := by simp [eqGuard]
  cases r with
  | none =>
    have h := equalIn_mapNone (P := P) 9999 hu
    simp only [execOp, ho, ha.env.eval hx, ha.env.eval hy, Sem.run_bind, e2, Result.andThen_ok, e1, h, Sem.run_pure]; rfl
  | some r =>
    have h := equalIn_mapSome (P := P) 9999 r hu
    simp only [execOp, ho, ha.env.eval hx, ha.env.eval hy, Sem.run_bind, e2, Result.andThen_ok, e1, h, Sem.run_pure]; rfl
end
end Go.Sep

/-
  The simplest facts: the walks with no declarations.
-/
set_option linter.unusedVariables false
set_option linter.unusedSimpArgs false
namespace Go.Sep
open Go.Proofs Go.RowKit
attribute [local irreducible] TC TO OT TCallX TCall DO DOt thenQ blockQ retQ At


theorem newTable_nil (m : Mem) (L : List Item) : TCall Try.prog 48 ⟨[.slice none 0 0]⟩ m L (Made m L fun r m' => ∃ b, r = .map (some b) ∧ m'.o b = some (mapO kStr [] 0)) := by
  unfold TCall
  refine TCallX.enter Try.func48 rfl 19 rfl ?_
  repeat (first|refine q1 ?_|refine q3 ?_|refine q4 tab rfl rfl ?_|refine q5 ?_|refine q6 ?_)
  refine TO.step rfl (OT.makeMap kStr rfl rfl rfl (fun b => ?_))
  refine TO.freezeO fun m1 hm1 ho => ?_
  repeat (first|refine q1 ?_|refine q2 ?_|refine q3 ?_|refine q4 tab rfl rfl ?_|refine q5 ?_|refine q6 ?_)
  refine TC.loopK (ι := Unit) [3, 8] rfl (fun _ => [(9, .int .i64 0)]) (fun _ => m1) (fun _ => L) (fun _ => True) (fun _ => 0) () (by repeat (first|exact trivial|refine And.intro rfl ?_)) rfl (by repeat (exact List.Sublist.refl _)) trivial ?_
  rintro _ _
  repeat (first|refine q1 ?_|refine q3 ?_|refine q4 tab rfl rfl ?_|refine q5 ?_|refine q6 ?_|refine q10 ?_|refine q11 ?_|refine q14 ?_|refine q15 ?_|refine q17 rfl ?_)
  exact retQ_ret rfl (by repeat (exact List.Sublist.refl _)) ⟨hm1, rfl, b, rfl, ho⟩

set_option maxHeartbeats 1600000 in
theorem sound_nil (m : Mem) (L : List Item) : TCall Try.prog 18 ⟨[.slice none 0 0]⟩ m L (Ret (.int .i64 0) m L) := by
  refine TCall.forget ?_
  unfold TCall
  refine TCallX.enter Try.func18 rfl 166 rfl ?_
  repeat (first|refine q1 ?_|refine q2 ?_|refine q3 ?_|refine q4 tab rfl rfl ?_|refine q5 ?_|refine q6 ?_|refine q13 ?_|refine q17 rfl ?_)
  refine TC.loopK (ι := Unit) [0, 21] rfl (fun _ => [(22, .int .i64 0)]) (fun _ => m) (fun _ => L) (fun _ => True) (fun _ => 0) () (by repeat (first|exact trivial|refine And.intro rfl ?_)) rfl (by repeat (exact List.Sublist.refl _)) trivial ?_
  rintro _ _
  repeat (first|refine q1 ?_|refine q2 ?_|refine q3 ?_|refine q4 tab rfl rfl ?_|refine q5 ?_|refine q6 ?_|refine q10 ?_|refine q11 ?_|refine q14 ?_|refine q17 rfl ?_)
  refine TC.loopK (ι := Unit) [0, 38] rfl (fun _ => [(39, .int .i64 0)]) (fun _ => m) (fun _ => L) (fun _ => True) (fun _ => 0) () (by repeat (first|exact trivial|refine And.intro rfl ?_)) rfl (by repeat (exact List.Sublist.refl _)) trivial ?_
  rintro _ _
  repeat (first|refine q1 ?_|refine q3 ?_|refine q4 tab rfl rfl ?_|refine q5 ?_|refine q6 ?_|refine q10 ?_|refine q11 ?_|refine q14 ?_|refine q17 rfl ?_)
  refine TO.step rfl (OT.call rfl rfl rfl rfl rfl rfl goes48 ((newTable_nil m L).x ?_));
  rintro _ m1 _ ⟨hm1, rfl, b, rfl, ho⟩
  repeat (first|refine q1 ?_|refine q3 ?_|refine q4 tab rfl rfl ?_|refine q5 ?_|refine q6 ?_)
  refine TO.step rfl (OT.mapLenP tab kStr rfl rfl rfl rfl rfl ho ?_)
  repeat (first|refine q1 ?_|refine q2 ?_|refine q3 ?_|refine q4 tab rfl rfl ?_|refine q5 ?_|refine q6 ?_|refine q13 ?_|refine q17 rfl ?_)
  refine TC.loopK (ι := Unit) [0, 114] rfl (fun _ => [(115, .int .i64 0)]) (fun _ => m1) (fun _ => L) (fun _ => True) (fun _ => 0) () (by repeat (first|exact trivial|refine And.intro rfl ?_)) rfl (by repeat (exact List.Sublist.refl _)) trivial ?_
  rintro _ _
  repeat (first|refine q1 ?_|refine q3 ?_|refine q4 tab rfl rfl ?_|refine q5 ?_|refine q6 ?_|refine q10 ?_|refine q11 ?_|refine q14 ?_|refine q15 ?_|refine q17 rfl ?_)
  exact retQ_ret rfl (by repeat (exact List.Sublist.refl _)) ⟨hm1, rfl, rfl⟩

theorem not_sound (m : Mem) (L : List Item) (h : HTree) (a : Tree) (hr : TreeRep m h a) (hB : a.bulk ≤ 1048576) : TCall Try.prog 93 ⟨[treeV h]⟩ m L (Ret (.bool (!a.sound)) m L) := by
  unfold TCall
  refine TCallX.enter Try.func93 rfl 6 rfl ?_
  repeat (first|refine q1 ?_|refine q3 ?_)
  refine TO.step rfl (OT.box rfl rfl rfl rfl rfl (fun b => ?_))
  repeat (first|(first|refine q1 ?_|refine q3 ?_|refine q4 tab rfl rfl ?_|refine q5 ?_|refine q6 ?_)|(refine qs rfl (qz tab 0 rfl rfl rfl rfl rfl rfl ?_)))
  refine TO.step rfl (OT.call rfl rfl rfl rfl rfl rfl goes40 ((isSound_law a _ _ h hr hB).x ?_));
  rintro _ _ _ ⟨rfl, rfl, rfl⟩
  repeat (first|refine q4 tab rfl rfl ?_|refine q5 ?_|refine q6 ?_|refine q15 ?_)
  refine retQ_ret rfl (by repeat (first|exact List.Sublist.refl _|refine List.Sublist.cons _ ?_)) ⟨rfl, rfl, ?_⟩
  rfl

set_option maxHeartbeats 800000 in
theorem open_nil (m : Mem) (L : List Item) (s : Sl) (l : List Tree) (hs : SlRep rTree m s l) (hB : ∀ a ∈ l, a.bulk ≤ 1048576 ∧ a.sound = true) : TCall Try.prog 56 ⟨[.slice none 0 0, s.v]⟩ m L (Made m L fun r m' => ∃ b, r = .map (some b) ∧ m'.o b = some (mapO kStr [] 0)) := by
  have hno : l.any (fun a => !a.sound) = false := List.any_eq_false.2 fun a ha => by rw [(hB a ha).2]; simp
  unfold TCall
  refine TCallX.enter Try.func56 rfl 14 rfl ?_
  repeat (first|refine q1 ?_|refine q3 ?_|refine q4 tab rfl rfl ?_|refine q5 ?_|refine q6 ?_)
  refine TO.step rfl (OT.call rfl rfl rfl rfl rfl rfl goes18 ((sound_nil m L).x ?_));
  rintro _ _ _ ⟨rfl, rfl, rfl⟩
  repeat (refine q4 tab rfl rfl ?_)
  refine TO.step rfl (OT.call rfl rfl rfl rfl rfl rfl goes92 ((containsFunc_type m L s l (fun a => !a.sound) 93 [] goes93 hs (fun h a ha hr => not_sound m L h a (rTree_iff.1 hr) (hB a ha).1)).x ?_));
  rintro _ _ _ ⟨rfl, rfl, rfl⟩
  rw [hno]
  repeat (first|refine q1 ?_|refine q3 ?_|refine q4 tab rfl rfl ?_|refine q5 ?_|refine q6 ?_|refine q13 ?_|refine q17 rfl ?_)
  refine TO.step rfl (OT.call rfl rfl rfl rfl rfl rfl goes48 ((newTable_nil m L).x ?_));
  rintro _ m1 _ ⟨hm1, rfl, b, rfl, ho⟩
  repeat (first|refine q4 tab rfl rfl ?_|refine q5 ?_|refine q6 ?_|refine q15 ?_)
  exact retQ_ret rfl (by repeat (exact List.Sublist.refl _)) ⟨hm1, rfl, b, rfl, ho⟩
end Go.Sep

/-
  Tables of declarations: known types.
-/
set_option linter.unusedVariables false
set_option linter.unusedSimpArgs false
namespace Go.Sep
open Go.Proofs Go.RowKit
attribute [local irreducible] TC TO OT TCallX TCall DO DOt thenQ blockQ retQ At

structure HDecl where
  name : Str
  iface : Bool
  fields : Sl
  methods : Sl
@[reducible] def declV (h : HDecl) : Value := .agg ⟨[strV h.name, .bool h.iface, h.fields.v, h.methods.v]⟩
def declZ : HDecl := ⟨[], false, ⟨none, 0, 0⟩, ⟨none, 0, 0⟩⟩
/-- what a table holds are declarations -/
def EntsOk (es : Ents Str) : Prop := ∀ x, ∃ h : HDecl, (mget es x).getD (declV declZ) = declV h
theorem EntsOk.nil : EntsOk [] := fun x => ⟨declZ, rfl⟩

mutual
def tknown (has : Str → Bool) : Tree → Bool
  | .mk k n u ks => (!decide (k = 4) || has n) && (!decide (k = 8) && tknownL has ks)
def tknownL (has : Str → Bool) : List Tree → Bool
  | [] => true
  | t :: ts => tknown has t && tknownL has ts
end
theorem tknown_eq (has : Str → Bool) (a : Tree) : tknown has a = ((!decide (a.kind = 4) || has a.name) && (!decide (a.kind = 8) && tknownL has a.kids)) := by
  obtain ⟨_, _, _, _⟩ := a
  rfl
theorem tknownL_eq (has : Str → Bool) : ∀ l : List Tree, tknownL has l = l.all (tknown has)
  | [] => rfl
  | t :: ts => by rw [tknownL, tknownL_eq has ts, List.all_cons]

set_option maxHeartbeats 1600000 in
theorem tknown_law (bt c : Nat) (es : Ents Str) (hok : EntsOk es) (a : Tree) : ∀ (m : Mem) (L : List Item) (h : HTree) (hr : TreeRep m h a) (ho : m.o bt = some (mapO kStr es c)),
    TCall Try.prog 49 ⟨[.map (some bt), treeV h]⟩ m L (Ret (.bool (tknown (mhas es) a)) m L) := by
  induction a using Tree.ind with
  | h a ih =>
  intro m L h hr ho
  obtain ⟨h1, h2, h3, h4⟩ := hr
  have hl := h4.len
  have hsm := h4.small rfl
  rw [tknown_eq, ← h1, ← h2]
  unfold TCall
  refine TCallX.enter Try.func49 rfl 40 rfl ?_
  obtain ⟨hd, hhd⟩ := hok h.name
  repeat (first|refine q1 ?_|refine q3 ?_)
  refine TO.step rfl (OT.box rfl rfl rfl rfl rfl (fun b => ?_))
  repeat (first|(first|refine q1 ?_|refine q3 ?_|refine q4 tab rfl rfl ?_|refine q5 ?_|refine q6 ?_)|(refine qs rfl (ql tab 0 rfl rfl rfl rfl rfl rfl ?_)))
  refine TO.step rfl (OT.lookupOkP tab kStr h.name rfl rfl rfl rfl rfl rfl rfl ho ?_)
  refine TO.conv ?_ (congrArg (fun z => Value.tuple ⟨[z, .bool (mhas es h.name)]⟩) hhd)
  repeat (refine q4 tab rfl rfl ?_)
  refine TO.step rfl (OT.alloc tab rfl rfl rfl rfl (fun b5 => ?_))
  skip
  (refine TO.step rfl (OT.storeL0 tab 0 rfl rfl rfl rfl rfl rfl rfl rfl ?_))
  repeat (first|(first|refine q1 ?_|refine q3 ?_|refine q4 tab rfl rfl ?_|refine q5 ?_|refine q6 ?_)|(refine qs rfl (ql tab 1 rfl rfl rfl rfl rfl rfl ?_)))
  (refine TO.splitP rfl rfl (fun e1 => ?_) (fun e1 => ?_))
  · repeat (refine q4 tab rfl rfl ?_)
    refine TO.split (b := !mhas es h.name) rfl rfl (fun e2 => ?_) (fun e2 => ?_)
    · rw [Bool.not_eq_true'] at e2
      repeat (first|refine q1 ?_|refine q3 ?_|refine q4 tab rfl rfl ?_|refine q5 ?_|refine q6 ?_|refine q8 ?_|refine q15 ?_|refine q16 rfl ?_)
      refine retQ_ret rfl (by repeat (first|exact List.Sublist.refl _|refine List.Sublist.cons _ ?_)) ⟨rfl, rfl, ?_⟩
      rw [decide_eq_true e1, e2]; rfl
    · rw [Bool.not_eq_false'] at e2
      repeat (first|(first|refine q4 tab rfl rfl ?_|refine q5 ?_|refine q6 ?_)|(refine qs rfl (ql tab 1 rfl rfl rfl rfl rfl rfl ?_)))
      refine TC.condP rfl (fun e3 => ?_) (fun e3 => ?_)
      · omega
      · repeat (first|(first|refine q1 ?_|refine q2 ?_|refine q3 ?_|refine q4 tab rfl rfl ?_|refine q5 ?_|refine q6 ?_|refine q13 ?_)|(refine qs rfl (ql tab 1 rfl rfl rfl rfl rfl rfl ?_)))
        refine TC.loopK (ι := Nat) [0, 29, 30] rfl (fun k => [(31, .int .i64 (k : Int))]) (fun _ => m) (fun _ => L) (fun k => k ≤ a.kids.length ∧ (a.kids.take k).all (tknown (mhas es)) = true) (fun k => a.kids.length - k) 0 (by repeat (first|exact trivial|refine And.intro rfl ?_)) rfl (by repeat (first|exact List.Sublist.refl _|refine List.Sublist.cons _ ?_)) ⟨Nat.zero_le _, rfl⟩ ?_
        rintro k ⟨hk, hI⟩
        repeat (first|refine q1 ?_|refine q3 ?_|refine q4 tab rfl rfl ?_|refine q5 ?_|refine q6 ?_)
        refine TC.condP rfl (fun hlt' => ?_) (fun hlt' => ?_)
        · have hlt : k < a.kids.length := by omega
          have hx : a.kids[k]? = some a.kids[k] := by simp [hlt]
          have hmem := List.getElem_mem hlt
          repeat (first|refine q1 ?_|refine q2 ?_|refine q3 ?_|refine q6 ?_|refine q13 ?_)
          refine TO.step rfl (OT.index tab rTree k h4 rfl rfl rfl rfl rfl (by first | rfl | omega) rfl hx ?_)
          rintro b' i' h' hrd hA
          (refine TO.step rfl (OT.loadA0 tab hA rfl rfl rfl rfl rfl ?_))
          skip
          refine TO.step rfl (OT.alloc tab rfl rfl rfl rfl (fun b8 => ?_))
          skip
          (refine TO.step rfl (OT.storeL0 tab 0 rfl rfl rfl rfl rfl rfl rfl rfl ?_))
          repeat (first|(first|refine q1 ?_|refine q3 ?_|refine q4 tab rfl rfl ?_|refine q5 ?_|refine q6 ?_)|(refine qs rfl (qz tab 0 rfl rfl rfl rfl rfl rfl ?_)))
          refine TO.step rfl (OT.call rfl rfl rfl rfl rfl rfl goes49 ((ih _ hmem _ _ h' (rTree_iff.1 hrd) ho).x ?_));
          rintro _ _ _ ⟨rfl, rfl, rfl⟩
          repeat (first|refine q4 tab rfl rfl ?_|refine q5 ?_|refine q6 ?_)
          refine TC.cond (t := !tknown (mhas es) a.kids[k]) rfl (fun e9 => ?_) (fun e9 => ?_)
          · rw [Bool.not_eq_true'] at e9
            repeat (first|refine q1 ?_|refine q3 ?_|refine q4 tab rfl rfl ?_|refine q5 ?_|refine q6 ?_|refine q8 ?_|refine q9 ?_|refine q15 ?_)
            refine retQ_ret rfl (by repeat (first|exact List.Sublist.refl _|refine List.Sublist.cons _ ?_)) ⟨rfl, rfl, ?_⟩
            have : a.kids.all (tknown (mhas es)) = false := List.all_eq_false.2 ⟨_, hmem, by rw [e9]; simp⟩
            rw [tknownL_eq, this]; simp
          · rw [Bool.not_eq_false'] at e9
            repeat (first|refine q3 ?_|refine q6 ?_|refine q7 ?_|refine q13 ?_)
            refine TO.step rfl (OT.arith (r' := ((k + 1 : Nat) : Int)) rfl rfl rfl rfl rfl rfl rfl (by omega) ?_)
            repeat (first|refine q4 tab rfl rfl ?_|refine q5 ?_|refine q6 ?_)
            exact ⟨k + 1, (by repeat (first|exact trivial|refine And.intro rfl ?_)), (by repeat (first|exact trivial|refine And.intro rfl ?_)), rfl, rfl, (by repeat (first|exact List.Sublist.refl _|refine List.Sublist.cons _ ?_)), ⟨by omega, by rw [List.take_succ_eq_append_getElem hlt, List.all_append, hI, List.all_cons, e9]; rfl⟩, by omega⟩
        · rw [List.take_of_length_le (by omega)] at hI
          repeat (first|refine q1 ?_|refine q3 ?_|refine q4 tab rfl rfl ?_|refine q5 ?_|refine q6 ?_|refine q10 ?_|refine q11 ?_|refine q14 ?_|refine q15 ?_)
          refine retQ_ret rfl (by repeat (exact List.Sublist.refl _)) ⟨rfl, rfl, ?_⟩
          rw [tknownL_eq, hI]
          (rw [decide_eq_true e1, e2, decide_eq_false e3]; rfl)
  · repeat (first|(first|refine q4 tab rfl rfl ?_|refine q5 ?_|refine q6 ?_)|(refine qs rfl (ql tab 1 rfl rfl rfl rfl rfl rfl ?_)))
    refine TC.condP rfl (fun e3 => ?_) (fun e3 => ?_)
    · repeat (first|refine q1 ?_|refine q3 ?_|refine q4 tab rfl rfl ?_|refine q5 ?_|refine q6 ?_|refine q8 ?_|refine q15 ?_)
      refine retQ_ret rfl (by repeat (first|exact List.Sublist.refl _|refine List.Sublist.cons _ ?_)) ⟨rfl, rfl, ?_⟩
      rw [decide_eq_true e3]; simp
    · repeat (first|(first|refine q1 ?_|refine q2 ?_|refine q3 ?_|refine q4 tab rfl rfl ?_|refine q5 ?_|refine q6 ?_|refine q13 ?_)|(refine qs rfl (ql tab 1 rfl rfl rfl rfl rfl rfl ?_)))
      refine TC.loopK (ι := Nat) [0, 29, 30] rfl (fun k => [(31, .int .i64 (k : Int))]) (fun _ => m) (fun _ => L) (fun k => k ≤ a.kids.length ∧ (a.kids.take k).all (tknown (mhas es)) = true) (fun k => a.kids.length - k) 0 (by repeat (first|exact trivial|refine And.intro rfl ?_)) rfl (by repeat (first|exact List.Sublist.refl _|refine List.Sublist.cons _ ?_)) ⟨Nat.zero_le _, rfl⟩ ?_
      rintro k ⟨hk, hI⟩
      repeat (first|refine q1 ?_|refine q3 ?_|refine q4 tab rfl rfl ?_|refine q5 ?_|refine q6 ?_)
      refine TC.condP rfl (fun hlt' => ?_) (fun hlt' => ?_)
      · have hlt : k < a.kids.length := by omega
        have hx : a.kids[k]? = some a.kids[k] := by simp [hlt]
        have hmem := List.getElem_mem hlt
        repeat (first|refine q1 ?_|refine q2 ?_|refine q3 ?_|refine q6 ?_|refine q13 ?_)
        refine TO.step rfl (OT.index tab rTree k h4 rfl rfl rfl rfl rfl (by first | rfl | omega) rfl hx ?_)
        rintro b' i' h' hrd hA
        (refine TO.step rfl (OT.loadA0 tab hA rfl rfl rfl rfl rfl ?_))
        skip
        refine TO.step rfl (OT.alloc tab rfl rfl rfl rfl (fun b8 => ?_))
        skip
        (refine TO.step rfl (OT.storeL0 tab 0 rfl rfl rfl rfl rfl rfl rfl rfl ?_))
        repeat (first|(first|refine q1 ?_|refine q3 ?_|refine q4 tab rfl rfl ?_|refine q5 ?_|refine q6 ?_)|(refine qs rfl (qz tab 0 rfl rfl rfl rfl rfl rfl ?_)))
        refine TO.step rfl (OT.call rfl rfl rfl rfl rfl rfl goes49 ((ih _ hmem _ _ h' (rTree_iff.1 hrd) ho).x ?_));
        rintro _ _ _ ⟨rfl, rfl, rfl⟩
        repeat (first|refine q4 tab rfl rfl ?_|refine q5 ?_|refine q6 ?_)
        refine TC.cond (t := !tknown (mhas es) a.kids[k]) rfl (fun e9 => ?_) (fun e9 => ?_)
        · rw [Bool.not_eq_true'] at e9
          repeat (first|refine q1 ?_|refine q3 ?_|refine q4 tab rfl rfl ?_|refine q5 ?_|refine q6 ?_|refine q8 ?_|refine q9 ?_|refine q15 ?_)
          refine retQ_ret rfl (by repeat (first|exact List.Sublist.refl _|refine List.Sublist.cons _ ?_)) ⟨rfl, rfl, ?_⟩
          have : a.kids.all (tknown (mhas es)) = false := List.all_eq_false.2 ⟨_, hmem, by rw [e9]; simp⟩
          rw [tknownL_eq, this]; simp
        · rw [Bool.not_eq_false'] at e9
          repeat (first|refine q3 ?_|refine q6 ?_|refine q7 ?_|refine q13 ?_)
          refine TO.step rfl (OT.arith (r' := ((k + 1 : Nat) : Int)) rfl rfl rfl rfl rfl rfl rfl (by omega) ?_)
          repeat (first|refine q4 tab rfl rfl ?_|refine q5 ?_|refine q6 ?_)
          exact ⟨k + 1, (by repeat (first|exact trivial|refine And.intro rfl ?_)), (by repeat (first|exact trivial|refine And.intro rfl ?_)), rfl, rfl, (by repeat (first|exact List.Sublist.refl _|refine List.Sublist.cons _ ?_)), ⟨by omega, by rw [List.take_succ_eq_append_getElem hlt, List.all_append, hI, List.all_cons, e9]; rfl⟩, by omega⟩
      · rw [List.take_of_length_le (by omega)] at hI
        repeat (first|refine q1 ?_|refine q3 ?_|refine q4 tab rfl rfl ?_|refine q5 ?_|refine q6 ?_|refine q10 ?_|refine q11 ?_|refine q14 ?_|refine q15 ?_)
        refine retQ_ret rfl (by repeat (exact List.Sublist.refl _)) ⟨rfl, rfl, ?_⟩
        rw [tknownL_eq, hI]
        (rw [decide_eq_false e1, decide_eq_false e3]; rfl)
end Go.Sep

/-
  The simplest facts hold: awake.
-/
set_option linter.unusedVariables false
set_option linter.unusedSimpArgs false
namespace Go.Sep
open Go.Proofs Go.RowKit
attribute [local irreducible] TC TO OT TCallX TCall DO DOt thenQ blockQ retQ At

def ptrInt : Tree := .mk 5 [] 0 [.mk 1 [] 0 []]
def ptrNode : Tree := .mk 11 [] 0 [.mk 10 [105, 110, 116] 0 []]
theorem ptr_of : ofRes ptrNode = (ptrInt, 0) := by
  have h : okT ptrNode = true := by unfold okT okType; rw [withinB_eq]; decide +kernel
  rw [ofRes, if_pos h]
  rfl
theorem ptr_sound : ptrInt.sound = true := by decide +kernel
theorem ptr_text : textS ptrInt = [42, 105, 110, 116] := by rw [textS, if_pos ptr_sound]; rfl
theorem ptr_same : sameB ptrInt ptrInt = true := by rw [sameB, ptr_sound, teq_refl]; rfl
theorem ptr_known : tknown (mhas []) ptrInt = true := by decide +kernel
theorem ptr_bulk : ptrInt.bulk ≤ 1048576 := by decide
theorem ptrNode_bulk : ptrNode.bulk ≤ 1048576 := by decide

theorem slT1 {m : Mem} {b : Nat} {h : HTree} {a : Tree} (hA : At m b 0 (treeC h)) (hr : TreeRep m h a) : SlRep rTree m ⟨some ⟨b, 0, none⟩, 1, 1⟩ [a] := SlRep.one (r := rTree) (h := h) hA (rTree_iff.2 hr) (by decide)
theorem slT2 {m : Mem} {b : Nat} {h h' : HTree} {a a' : Tree} (hA : At m b 0 (treeC h ++ treeC h')) (hr : TreeRep m h a) (hr' : TreeRep m h' a') : SlRep rTree m ⟨some ⟨b, 0, none⟩, 2, 2⟩ [a, a'] :=
  ⟨rfl, Nat.le_refl _, (by show 2 * 56 ≤ _; decide), [h, h'], ⟨rTree_iff.2 hr, rTree_iff.2 hr', trivial⟩, .inr ⟨b, 0, rfl, hA⟩⟩

set_option maxHeartbeats 800000 in
theorem known_nil (m : Mem) (L : List Item) (h : HTree) (hr : TreeRep m h ptrInt) : TCall Try.prog 20 ⟨[.slice none 0 0, treeV h]⟩ m L (Ret (.bool true) m L) := by
  refine TCall.forget ?_
  unfold TCall
  refine TCallX.enter Try.func20 rfl 17 rfl ?_
  repeat (first|refine q1 ?_|refine q3 ?_)
  refine TO.step rfl (OT.box rfl rfl rfl rfl rfl (fun b => ?_))
  repeat (first|(first|refine q1 ?_|refine q3 ?_|refine q4 tab rfl rfl ?_|refine q5 ?_|refine q6 ?_)|(refine qs rfl (qz tab 0 rfl rfl rfl rfl rfl rfl ?_)))
  refine TO.step rfl (OT.lit tab rfl rfl rfl rfl (fun b2 => ?_))
  refine TO.freeze fun m1 hm1 hA1 => ?_
  skip
  refine TO.step rfl (OT.call rfl rfl rfl rfl rfl rfl goes56 ((open_nil m1 _ _ [ptrInt] (slT1 (h := h) hA1 (hr.mono hm1)) (fun a ha => by rw [List.mem_singleton.1 ha]; exact ⟨ptr_bulk, ptr_sound⟩)).x ?_));
  rintro _ m2 _ ⟨hm2, rfl, bt, rfl, ho⟩
  repeat (first|refine q1 ?_|refine q3 ?_|refine q4 tab rfl rfl ?_|refine q5 ?_|refine q6 ?_)
  refine TO.step rfl (OT.mapNe tab kStr (r := some bt) rfl rfl rfl rfl rfl rfl ?_)
  repeat (first|(refine q4 tab rfl rfl ?_)|(refine qs rfl (qz tab 0 rfl rfl rfl rfl rfl rfl ?_)))
  refine TO.step rfl (OT.call rfl rfl rfl rfl rfl rfl goes49 ((tknown_law bt 0 [] EntsOk.nil ptrInt m2 _ h ((hr.mono hm1).mono hm2) ho).x ?_));
  rintro _ _ _ ⟨rfl, rfl, rfl⟩
  rw [ptr_known]
  repeat (first|refine q4 tab rfl rfl ?_|refine q5 ?_|refine q6 ?_|refine q15 ?_)
  exact retQ_ret rfl (by repeat (first|exact List.Sublist.refl _|refine List.Sublist.cons _ ?_)) ⟨Mem.le_trans hm1 hm2, rfl, rfl⟩

set_option maxHeartbeats 800000 in
theorem tassign_same (bt : Nat) (m : Mem) (L : List Item) (h : HTree) (hr : TreeRep m h ptrInt) (ho : m.o bt = some (mapO kStr [] 0)) : TCall Try.prog 58 ⟨[.map (some bt), treeV h, treeV h]⟩ m L (Ret (.bool true) m L) := by
  have hk := hr.kind
  obtain ⟨q, n, u, s⟩ := h
  obtain rfl : q = 5 := hk
  unfold TCall
  refine TCallX.enter Try.func58 rfl 50 rfl ?_
  repeat (first|refine q1 ?_|refine q3 ?_)
  refine TO.step rfl (OT.box rfl rfl rfl rfl rfl (fun b => ?_))
  skip
  refine TO.step rfl (OT.box rfl rfl rfl rfl rfl (fun b2 => ?_))
  repeat (first|(first|refine q1 ?_|refine q2 ?_|refine q3 ?_|refine q4 tab rfl rfl ?_|refine q5 ?_|refine q6 ?_)|(refine qs rfl (qz tab 0 rfl rfl rfl rfl rfl rfl ?_)))
  refine TO.step rfl (OT.call rfl rfl rfl rfl rfl rfl goes49 ((tknown_law bt 0 [] EntsOk.nil ptrInt m _ _ hr ho).x ?_));
  rintro _ _ _ ⟨rfl, rfl, rfl⟩
  rw [ptr_known]
  repeat (first|(first|refine q1 ?_|refine q3 ?_|refine q4 tab rfl rfl ?_|refine q5 ?_|refine q6 ?_|refine q17 rfl ?_)|(first|refine qs rfl (qz tab 0 rfl rfl rfl rfl rfl rfl ?_)|refine qs rfl (ql tab 1 rfl rfl rfl rfl rfl rfl ?_)|refine qs rfl (qz tab 1 rfl rfl rfl rfl rfl rfl ?_)))
  refine TO.step rfl (OT.call rfl rfl rfl rfl rfl rfl goes41 ((equal_law ptrInt ptrInt m _ _ _ hr hr).x ?_));
  rintro _ _ _ ⟨rfl, rfl, rfl⟩
  rw [teq_refl]
  repeat (first|refine q1 ?_|refine q3 ?_|refine q4 tab rfl rfl ?_|refine q5 ?_|refine q6 ?_|refine q8 ?_|refine q9 ?_|refine q15 ?_|refine q16 rfl ?_)
  refine retQ_ret rfl (by repeat (first|exact List.Sublist.refl _|refine List.Sublist.cons _ ?_)) ⟨rfl, rfl, ?_⟩
  rfl

set_option maxHeartbeats 800000 in
theorem assign_nil (m : Mem) (L : List Item) (h : HTree) (hr : TreeRep m h ptrInt) : TCall Try.prog 22 ⟨[.slice none 0 0, treeV h, treeV h]⟩ m L (Ret (.bool true) m L) := by
  have hk := hr.kind
  obtain ⟨q, n, u, s⟩ := h
  obtain rfl : q = 5 := hk
  refine TCall.forget ?_
  unfold TCall
  refine TCallX.enter Try.func22 rfl 31 rfl ?_
  repeat (first|refine q1 ?_|refine q3 ?_)
  refine TO.step rfl (OT.box rfl rfl rfl rfl rfl (fun b => ?_))
  skip
  refine TO.step rfl (OT.box rfl rfl rfl rfl rfl (fun b2 => ?_))
  repeat (first|(first|refine q1 ?_|refine q3 ?_|refine q4 tab rfl rfl ?_|refine q5 ?_|refine q6 ?_)|(first|refine qs rfl (qz tab 0 rfl rfl rfl rfl rfl rfl ?_)|refine qs rfl (qz tab 1 rfl rfl rfl rfl rfl rfl ?_)))
  refine TO.step rfl (OT.lit tab rfl rfl rfl rfl (fun b3 => ?_))
  refine TO.freeze fun m1 hm1 hA1 => ?_
  skip
  have hall : ∀ a ∈ [ptrInt, ptrInt], a.bulk ≤ 1048576 ∧ a.sound = true := fun a ha => by
    obtain rfl : a = ptrInt := by simpa using ha
    exact ⟨ptr_bulk, ptr_sound⟩
  refine TO.step rfl (OT.call rfl rfl rfl rfl rfl rfl goes56 ((open_nil m1 _ _ [ptrInt, ptrInt] (slT2 (h := ⟨5, n, u, s⟩) (h' := ⟨5, n, u, s⟩) hA1 (hr.mono hm1) (hr.mono hm1)) hall).x ?_));
  rintro _ m2 _ ⟨hm2, rfl, bt, rfl, ho⟩
  repeat (first|refine q1 ?_|refine q3 ?_|refine q4 tab rfl rfl ?_|refine q5 ?_|refine q6 ?_)
  refine TO.step rfl (OT.mapNe tab kStr (r := some bt) rfl rfl rfl rfl rfl rfl ?_)
  repeat (first|(refine q4 tab rfl rfl ?_)|(first|refine qs rfl (qz tab 0 rfl rfl rfl rfl rfl rfl ?_)|refine qs rfl (qz tab 1 rfl rfl rfl rfl rfl rfl ?_)))
  refine TO.step rfl (OT.call rfl rfl rfl rfl rfl rfl goes58 ((tassign_same bt m2 _ _ ((hr.mono hm1).mono hm2) ho).x ?_));
  rintro _ _ _ ⟨rfl, rfl, rfl⟩
  repeat (first|(refine q4 tab rfl rfl ?_)|(first|refine qs rfl (ql tab 1 rfl rfl rfl rfl rfl rfl ?_)|refine qs rfl (qz tab 1 rfl rfl rfl rfl rfl rfl ?_)))
  refine TO.step rfl (OT.call rfl rfl rfl rfl rfl rfl goes49 ((tknown_law bt 0 [] EntsOk.nil ptrInt m2 _ _ ((hr.mono hm1).mono hm2) ho).x ?_));
  rintro _ _ _ ⟨rfl, rfl, rfl⟩
  rw [ptr_known]
  repeat (first|refine q4 tab rfl rfl ?_|refine q5 ?_|refine q6 ?_|refine q15 ?_)
  exact retQ_ret rfl (by repeat (first|exact List.Sublist.refl _|refine List.Sublist.cons _ ?_)) ⟨Mem.le_trans hm1 hm2, rfl, rfl⟩

set_option maxHeartbeats 1600000 in
theorem awake_law (m : Mem) (L : List Item) : TCall Try.prog 12 ⟨[]⟩ m L (Ret (.bool true) m L) := by
  refine TCall.forget ?_
  unfold TCall
  refine TCallX.enter Try.func12 rfl 35 rfl ?_
  repeat (first|refine q1 ?_|refine q3 ?_|refine q4 tab rfl rfl ?_|refine q5 ?_|refine q6 ?_)
  refine TO.step rfl (OT.lit tab rfl rfl rfl rfl (fun b => ?_))
  refine TO.freeze fun m1 hm1 hA1 => ?_
  have hs1 : SlRep rTree m1 ⟨some ⟨b, 0, none⟩, 1, 1⟩ ptrNode.kids := slT1 (h := ⟨10, [105, 110, 116], 0, ⟨none, 0, 0⟩⟩) hA1 (TreeRep.leaf _ _ _ _)
  have hr1 : TreeRep m1 ⟨11, [], 0, ⟨some ⟨b, 0, none⟩, 1, 1⟩⟩ ptrNode := ⟨rfl, rfl, rfl, hs1⟩
  repeat (refine q4 tab rfl rfl ?_)
  refine TO.step rfl (OT.call rfl rfl rfl rfl rfl rfl goes10 ((of_own ptrNode m1 _ _ hr1 ptrNode_bulk).x ?_));
  rw [ptr_of]
  rintro _ m2 _ ⟨hm2, rfl, h, rfl, hr⟩
  simp only at hr
  repeat (refine q4 tab rfl rfl ?_)
  refine TO.step rfl (OT.alloc tab rfl rfl rfl rfl (fun b2 => ?_))
  skip
  (refine TO.step rfl (OT.storeL0 tab 0 rfl rfl rfl rfl rfl rfl rfl rfl ?_))
  repeat (first|(first|refine q1 ?_|refine q3 ?_|refine q4 tab rfl rfl ?_|refine q5 ?_|refine q6 ?_)|(refine qs rfl (qz tab 0 rfl rfl rfl rfl rfl rfl ?_)))
  refine TO.step rfl (OT.call rfl rfl rfl rfl rfl rfl goes16 ((text_law ptrInt m2 _ h hr ptr_bulk).x ?_));
  rintro _ _ _ ⟨rfl, rfl, rfl⟩
  rw [ptr_text]
  repeat (first|(refine q4 tab rfl rfl ?_)|(refine qs rfl (qz tab 0 rfl rfl rfl rfl rfl rfl ?_)))
  refine TO.step rfl (OT.call rfl rfl rfl rfl rfl rfl goes14 ((same_law ptrInt ptrInt m2 _ h h hr hr ptr_bulk ptr_bulk).x ?_));
  rintro _ _ _ ⟨rfl, rfl, rfl⟩
  rw [ptr_same]
  repeat (first|(refine q4 tab rfl rfl ?_)|(refine qs rfl (qz tab 0 rfl rfl rfl rfl rfl rfl ?_)))
  refine TO.step rfl (OT.call rfl rfl rfl rfl rfl rfl goes20 ((known_nil m2 _ h hr).x ?_));
  rintro _ _ _ ⟨rfl, rfl, rfl⟩
  repeat (refine q4 tab rfl rfl ?_)
  refine TO.step rfl (OT.call rfl rfl rfl rfl rfl rfl goes18 ((sound_nil m2 _).x ?_));
  rintro _ _ _ ⟨rfl, rfl, rfl⟩
  repeat (first|(refine q4 tab rfl rfl ?_)|(refine qs rfl (qz tab 0 rfl rfl rfl rfl rfl rfl ?_)))
  refine TO.step rfl (OT.call rfl rfl rfl rfl rfl rfl goes22 ((assign_nil m2 _ h hr).x ?_));
  rintro _ _ _ ⟨rfl, rfl, rfl⟩
  repeat (first|refine q4 tab rfl rfl ?_|refine q5 ?_|refine q6 ?_|refine q15 ?_)
  exact retQ_ret rfl (by repeat (first|exact List.Sublist.refl _|refine List.Sublist.cons _ ?_)) ⟨Mem.le_trans hm1 hm2, rfl, rfl⟩
end Go.Sep
