/-
  The text of a type: the walks of Show and show.
-/
import Derived.Test.YtlpcakplpnpaeaaTyJoin
import Derived.Test.YtlpcakplpnpaeaaTyPlain3
set_option linter.unusedVariables false
set_option linter.unusedSimpArgs false
namespace Go.Sep
open Go.Proofs Go.RowKit
attribute [local irreducible] TC TO OT TCallX TCall DO DOt thenQ blockQ retQ At

theorem St.below {m : Mem} {w w' : World} {L : List Item} (h : St m w L) (hb : Below w.heap.size w w') : St m w' L := by
  have hc : ∀ (b i : Nat) (v : Value), w.cell? ⟨b, i, none⟩ = some v → w'.cell? ⟨b, i, none⟩ = some v ∧ w'.frozen? ⟨b, i, none⟩ = w.frozen? ⟨b, i, none⟩ := fun b i v hv => by
    have hlt := World.block_lt_of_cell? _ _ hv
    have e := hb.block b hlt
    exact ⟨by rw [World.cell?_of_block e]; exact hv, World.frozen?_of_block e⟩
  refine ⟨hb.os.trans h.os, hb.tape.trans h.tape, hb.output.trans h.output, Nat.le_trans h.size hb.size, fun b hlt => (hb.block b (Nat.lt_of_lt_of_le hlt h.size)).trans (h.pin b hlt), fun b i v hv => (hc b i v (h.c b i v hv)).1, fun b x hx => ?_, fun x hx => ?_, h.free, h.disj⟩
  · obtain ⟨h1, h2⟩ := h.o b x hx
    have hlt : b < w.heap.size := (Array.getElem?_eq_some_iff.1 h1).1
    exact ⟨(hb.block b hlt).trans h1, h2⟩
  · have hi := h.items x hx
    cases x with
    | cells b off vs =>
      intro j v hj
      obtain ⟨h1, h2⟩ := hi j v hj
      obtain ⟨h3, h4⟩ := hc _ _ _ h1
      exact ⟨h3, h4.trans h2⟩
    | room b off n =>
      intro j hj
      obtain ⟨v, h1, h2⟩ := hi j hj
      obtain ⟨h3, h4⟩ := hc _ _ _ h1
      exact ⟨v, h3, h4.trans h2⟩
    | obj b o =>
      obtain ⟨h1, h2⟩ := hi
      have hlt : b < w.heap.size := (Array.getElem?_eq_some_iff.1 h1).1
      exact ⟨(hb.block b hlt).trans h1, h2⟩

theorem all2_eq {m : Mem} : ∀ {hs l : List Str}, All2 (rStr.rep m) hs l → hs = l
  | [], [], _ => rfl
  | h :: hs, a :: l, hh => by rw [show h = a from hh.1, all2_eq hh.2]
  | [], _ :: _, hh => hh.elim
  | _ :: _, [], hh => hh.elim
theorem encs_str : ∀ xs : List Str, encs rStr xs = xs.map strV
  | [] => rfl
  | x :: xs => by rw [List.map_cons, ← encs_str xs]; rfl

theorem join_law (m : Mem) (L : List Item) (s : Sl) (xs : List Str) (hs : SlRep rStr m s xs) (sep : Str) (hlen : (joinS xs sep).length ≤ 140737488355328) :
    TCall Try.prog 80 ⟨[s.v, strV sep]⟩ m L (Ret (strV (joinS xs sep)) m L) := by
  unfold TCall TCallX
  intro w hw
  obtain ⟨hs', h1, h2⟩ := hs.cells
  have hl := hs.len
  have hsm := hs.small rfl
  have hcap := hs.cap
  rcases h2 with ⟨h0, _⟩ | ⟨b, o, ha, hA⟩
  · obtain ⟨a, n, c⟩ := s
    subst h0
    obtain rfl : n = 0 := hl
    refine (Try.strings_Join_none a c ⟨⟨sep⟩⟩ w).mono fun e w' ⟨he, hww⟩ => ?_
    subst he; subst hww
    exact ⟨m, L, hw, rfl, rfl, rfl⟩
  · by_cases hx0 : xs = []
    · obtain ⟨a, n, c⟩ := s
      subst hx0
      obtain rfl : n = 0 := hl
      refine (Try.strings_Join_none a c ⟨⟨sep⟩⟩ w).mono fun e w' ⟨he, hww⟩ => ?_
      subst he; subst hww
      exact ⟨m, L, hw, rfl, rfl, rfl⟩
    have hxs : hs' = xs := all2_eq h1
    subst hxs
    obtain ⟨a, n, c⟩ := s
    simp only at ha hl hcap
    subst ha
    have hmm : (hs'.map fun s => (⟨⟨s⟩⟩ : ByteArray)).map (fun x => x.data.toList) = hs' := by rw [List.map_map]; exact List.map_id _
    have hcells : ∀ (j : Nat) (x : ByteArray), (hs'.map fun s => (⟨⟨s⟩⟩ : ByteArray))[j]? = some x → w.cell? ⟨b, o + j, none⟩ = some (.string x) := fun j x hj => by
      rw [List.getElem?_map] at hj
      cases hq : hs'[j]? with
      | none => rw [hq] at hj; cases hj
      | some y =>
        rw [hq] at hj
        simp only [Option.map_some, Option.some.injEq] at hj
        subst hj
        exact hw.at_cells hA j _ (by rw [encs_str, List.getElem?_map, hq]; rfl)
    have hlt : b < w.heap.size := by
      have hpos : 0 < hs'.length := List.length_pos_iff.2 hx0
      have h3 := hcells 0 ⟨⟨hs'[0]⟩⟩ (by rw [List.getElem?_map, List.getElem?_eq_getElem hpos]; rfl)
      exact World.block_lt_of_cell? _ _ h3
    have hJ := Try.strings_Join b o c (hs'.map fun s => (⟨⟨s⟩⟩ : ByteArray)) ⟨⟨sep⟩⟩ w hcells hlt (by rw [List.length_map]; omega) (by rw [List.length_map]; omega) (by rw [hmm]; exact hlen)
    rw [List.length_map, ← hl, hmm] at hJ
    refine hJ.mono fun e w' ⟨he, hww⟩ => ?_
    subst he
    exact ⟨m, L, hw.below hww, rfl, rfl, rfl⟩

theorem commaS_len : commaS.length = 2 := rfl
theorem row_step (l : List Str) (k : Nat) (h : k < l.length) : joinS (l.take (k + 1)) commaS = (if 0 < k then joinS (l.take k) commaS ++ commaS else joinS (l.take k) commaS) ++ l[k] := by
  cases l with
  | nil => cases h
  | cons x r =>
    cases k with
    | zero => simp [joinS, Lib.join_cons, Lib.joinTail, Lib.join_nil]
    | succ k =>
      rw [if_pos (by omega)]
      have hk : k < r.length := by simpa using h
      unfold joinS
      rw [List.take_succ_cons, List.take_succ_cons, Lib.join_cons, Lib.join_cons, Lib.joinTail_take_succ _ _ _ r[k] (by simp [hk])]
      simp [List.append_assoc]

theorem lens_take (l : List Str) (k : Nat) : Lib.lens (l.take k) ≤ Lib.lens l := Lib.lens_take_le l k
theorem joinS_take (l : List Str) (k : Nat) : (joinS (l.take k) commaS).length ≤ Lib.lens l + 2 * l.length := by
  have h1 := joinS_le (l.take k)
  have h2 := lens_take l k
  have h3 : (l.take k).length ≤ l.length := by rw [List.length_take]; omega
  omega

set_option maxHeartbeats 1600000 in
theorem row_ref (m : Mem) (L : List Item) (s : Sl) (l : List Tree) (hs : SlRep rTree m s l) (hB : Lib.lens (l.map Tree.show) + 2 * l.length ≤ 16777216)
    (hp : ∀ a ∈ l, ∀ (m : Mem) (L : List Item) (h : HTree), TreeRep m h a → TCall Try.prog 44 ⟨[treeV h]⟩ m L (Ret (strV a.show) m L)) :
    TCall Try.prog 81 ⟨[s.v]⟩ m L (Ret (strV (joinS (l.map Tree.show) commaS)) m L) := by
  have hl := hs.len
  have hsm := hs.small rfl
  unfold TCall
  refine TCallX.enter Try.func81 rfl 23 rfl ?_
  repeat (first|refine q1 ?_|refine q2 ?_|refine q3 ?_|refine q4 tab rfl rfl ?_|refine q5 ?_|refine q6 ?_|refine q7 ?_|refine q8 ?_|refine q9 ?_|refine q10 ?_|refine q11 ?_|refine q12 rfl ?_|refine q13 ?_|refine q14 ?_|refine q15 ?_|refine q16 rfl ?_|refine q17 rfl ?_)
  refine TC.loopK (ι := Nat) [0] rfl (fun k => [(4, .int .i64 (k : Int)), (3, strV (joinS ((l.map Tree.show).take k) commaS))]) (fun _ => m) (fun _ => L) (fun k => k ≤ l.length) (fun k => l.length - k) 0 (by repeat (first | exact trivial | refine And.intro rfl ?_)) rfl (by repeat (first | exact List.Sublist.refl _ | exact List.sublist_append_left _ _ | refine List.Sublist.cons_cons _ ?_ | refine List.Sublist.cons _ ?_)) (Nat.zero_le _) ?_
  rintro k hk
  repeat (first|refine q1 ?_|refine q2 ?_|refine q3 ?_|refine q4 tab rfl rfl ?_|refine q5 ?_|refine q6 ?_|refine q7 ?_|refine q8 ?_|refine q9 ?_|refine q10 ?_|refine q11 ?_|refine q12 rfl ?_|refine q13 ?_|refine q14 ?_|refine q15 ?_|refine q16 rfl ?_|refine q17 rfl ?_)
  refine TC.condP rfl (fun hlt' => ?_) (fun hlt' => ?_)
  · have hlt : k < l.length := by omega
    have hx : l[k]? = some l[k] := by simp [hlt]
    have hmem := List.getElem_mem hlt
    have hst := row_step (l.map Tree.show) k (by rw [List.length_map]; exact hlt)
    have hj := joinS_take (l.map Tree.show) k
    have hj2 := joinS_take (l.map Tree.show) (k + 1)
    rw [List.length_map] at hj hj2
    rw [List.getElem_map] at hst
    repeat (first|refine q1 ?_|refine q2 ?_|refine q3 ?_|refine q4 tab rfl rfl ?_|refine q5 ?_|refine q6 ?_|refine q7 ?_|refine q8 ?_|refine q9 ?_|refine q10 ?_|refine q11 ?_|refine q12 rfl ?_|refine q13 ?_|refine q14 ?_|refine q15 ?_|refine q16 rfl ?_|refine q17 rfl ?_)
    refine TC.condP rfl (fun h0 => ?_) (fun h0 => ?_)
    · have h0' : 0 < k := by omega
      rw [if_pos h0'] at hst
      repeat (first|refine q1 ?_|refine q2 ?_|refine q3 ?_|refine q4 tab rfl rfl ?_|refine q5 ?_|refine q6 ?_|refine q7 ?_|refine q8 ?_|refine q9 ?_|refine q10 ?_|refine q11 ?_|refine q12 rfl ?_|refine q13 ?_|refine q14 ?_|refine q15 ?_|refine q16 rfl ?_|refine q17 rfl ?_)
      refine TO.step rfl (OT.concat rfl rfl rfl rfl rfl (by (try simp only [List.length_append, List.length_cons, List.length_nil]); omega) ?_)
      repeat (first|refine q1 ?_|refine q2 ?_|refine q3 ?_|refine q4 tab rfl rfl ?_|refine q5 ?_|refine q6 ?_|refine q7 ?_|refine q8 ?_|refine q9 ?_|refine q10 ?_|refine q11 ?_|refine q12 rfl ?_|refine q13 ?_|refine q14 ?_|refine q15 ?_|refine q16 rfl ?_|refine q17 rfl ?_)
      refine TO.step rfl (OT.index tab rTree k hs rfl rfl rfl rfl rfl (by first | rfl | omega) rfl hx ?_)
      rintro b' i' h' hrd hA
      (first | refine TO.step rfl (OT.loadA tab hA rfl rfl rfl rfl rfl ?_) | refine TO.step rfl (OT.loadA0 tab hA rfl rfl rfl rfl rfl ?_))
      repeat (first|refine q1 ?_|refine q2 ?_|refine q3 ?_|refine q4 tab rfl rfl ?_|refine q5 ?_|refine q6 ?_|refine q7 ?_|refine q8 ?_|refine q9 ?_|refine q10 ?_|refine q11 ?_|refine q12 rfl ?_|refine q13 ?_|refine q14 ?_|refine q15 ?_|refine q16 rfl ?_|refine q17 rfl ?_)
      refine TO.step rfl (OT.call rfl rfl rfl rfl rfl rfl goes44 ((hp _ hmem _ _ h' (rTree_iff.1 hrd)).x ?_));
      rintro _ _ _ ⟨rfl, rfl, rfl⟩
      have hcl := congrArg List.length hst
      simp only [List.length_append, commaS_len] at hcl
      refine TO.step rfl (OT.concat rfl rfl rfl rfl rfl (by (try simp only [List.length_append, List.length_cons, List.length_nil]); omega) ?_)
      repeat (first|refine q1 ?_|refine q2 ?_|refine q3 ?_|refine q4 tab rfl rfl ?_|refine q5 ?_|refine q6 ?_|refine q7 ?_|refine q8 ?_|refine q9 ?_|refine q10 ?_|refine q11 ?_|refine q12 rfl ?_|refine q13 ?_|refine q14 ?_|refine q15 ?_|refine q16 rfl ?_|refine q17 rfl ?_)
      refine TO.step rfl (OT.arith (r' := ((k + 1 : Nat) : Int)) rfl rfl rfl rfl rfl rfl rfl (by omega) ?_)
      repeat (first|refine q1 ?_|refine q2 ?_|refine q3 ?_|refine q4 tab rfl rfl ?_|refine q5 ?_|refine q6 ?_|refine q7 ?_|refine q8 ?_|refine q9 ?_|refine q10 ?_|refine q11 ?_|refine q12 rfl ?_|refine q13 ?_|refine q14 ?_|refine q15 ?_|refine q16 rfl ?_|refine q17 rfl ?_)
      exact ⟨k + 1, by simp only [hst]; exact (by repeat (first | exact trivial | refine And.intro rfl ?_)), (by repeat (first | exact trivial | refine And.intro rfl ?_)), rfl, rfl, (by repeat (first | exact List.Sublist.refl _ | exact List.sublist_append_left _ _ | refine List.Sublist.cons_cons _ ?_ | refine List.Sublist.cons _ ?_)), by omega, by omega⟩
    · have h0' : ¬ 0 < k := by omega
      rw [if_neg h0'] at hst
      repeat (first|refine q1 ?_|refine q2 ?_|refine q3 ?_|refine q4 tab rfl rfl ?_|refine q5 ?_|refine q6 ?_|refine q7 ?_|refine q8 ?_|refine q9 ?_|refine q10 ?_|refine q11 ?_|refine q12 rfl ?_|refine q13 ?_|refine q14 ?_|refine q15 ?_|refine q16 rfl ?_|refine q17 rfl ?_)
      refine TO.step rfl (OT.index tab rTree k hs rfl rfl rfl rfl rfl (by first | rfl | omega) rfl hx ?_)
      rintro b' i' h' hrd hA
      (first | refine TO.step rfl (OT.loadA tab hA rfl rfl rfl rfl rfl ?_) | refine TO.step rfl (OT.loadA0 tab hA rfl rfl rfl rfl rfl ?_))
      repeat (first|refine q1 ?_|refine q2 ?_|refine q3 ?_|refine q4 tab rfl rfl ?_|refine q5 ?_|refine q6 ?_|refine q7 ?_|refine q8 ?_|refine q9 ?_|refine q10 ?_|refine q11 ?_|refine q12 rfl ?_|refine q13 ?_|refine q14 ?_|refine q15 ?_|refine q16 rfl ?_|refine q17 rfl ?_)
      refine TO.step rfl (OT.call rfl rfl rfl rfl rfl rfl goes44 ((hp _ hmem _ _ h' (rTree_iff.1 hrd)).x ?_));
      rintro _ _ _ ⟨rfl, rfl, rfl⟩
      have hcl := congrArg List.length hst
      simp only [List.length_append, commaS_len] at hcl
      refine TO.step rfl (OT.concat rfl rfl rfl rfl rfl (by (try simp only [List.length_append, List.length_cons, List.length_nil]); omega) ?_)
      repeat (first|refine q1 ?_|refine q2 ?_|refine q3 ?_|refine q4 tab rfl rfl ?_|refine q5 ?_|refine q6 ?_|refine q7 ?_|refine q8 ?_|refine q9 ?_|refine q10 ?_|refine q11 ?_|refine q12 rfl ?_|refine q13 ?_|refine q14 ?_|refine q15 ?_|refine q16 rfl ?_|refine q17 rfl ?_)
      refine TO.step rfl (OT.arith (r' := ((k + 1 : Nat) : Int)) rfl rfl rfl rfl rfl rfl rfl (by omega) ?_)
      repeat (first|refine q1 ?_|refine q2 ?_|refine q3 ?_|refine q4 tab rfl rfl ?_|refine q5 ?_|refine q6 ?_|refine q7 ?_|refine q8 ?_|refine q9 ?_|refine q10 ?_|refine q11 ?_|refine q12 rfl ?_|refine q13 ?_|refine q14 ?_|refine q15 ?_|refine q16 rfl ?_|refine q17 rfl ?_)
      exact ⟨k + 1, by simp only [hst]; exact (by repeat (first | exact trivial | refine And.intro rfl ?_)), (by repeat (first | exact trivial | refine And.intro rfl ?_)), rfl, rfl, (by repeat (first | exact List.Sublist.refl _ | exact List.sublist_append_left _ _ | refine List.Sublist.cons_cons _ ?_ | refine List.Sublist.cons _ ?_)), by omega, by omega⟩
  · repeat (first|refine q1 ?_|refine q2 ?_|refine q3 ?_|refine q4 tab rfl rfl ?_|refine q5 ?_|refine q6 ?_|refine q7 ?_|refine q8 ?_|refine q9 ?_|refine q10 ?_|refine q11 ?_|refine q12 rfl ?_|refine q13 ?_|refine q14 ?_|refine q15 ?_|refine q16 rfl ?_|refine q17 rfl ?_)
    refine retQ_ret rfl (by repeat (first | exact List.Sublist.refl _ | exact List.sublist_append_left _ _ | refine List.Sublist.cons_cons _ ?_ | refine List.Sublist.cons _ ?_)) ⟨rfl, rfl, ?_⟩
    rw [List.take_of_length_le (by rw [List.length_map]; omega)]
end Go.Sep
