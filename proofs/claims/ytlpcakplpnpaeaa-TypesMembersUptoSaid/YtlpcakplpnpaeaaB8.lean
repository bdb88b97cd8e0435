/-
  The walk of the document's Sound.
-/
import Derived.Test.YtlpcakplpnpaeaaB7
set_option linter.unusedVariables false
set_option linter.unusedSimpArgs false
namespace Go.Sep
open Go.Proofs
attribute [local irreducible] TC TO OT TCallX TCall DO DOt thenQ blockQ retQ At

theorem basicOf_pos (s : Str) : decide (0 < basicOf s) = !decide (basicOf s = 0) := by
  unfold basicOf
  repeat' split
  all_goals rfl
theorem idxP_hit {α : Type} : ∀ (l r : List α) (p : α → Bool) (k : Nat), l.any p = true → idxP (l ++ r) p k = idxP l p k
  | [], r, p, k, h => by simp at h
  | x :: xs, r, p, k, h => by
    by_cases e : p x = true
    · simp [idxP, e]
    · simp only [List.cons_append, idxP, if_neg e]
      exact idxP_hit xs r p (k + 1) (by simpa [e] using h)
theorem idxP_miss {α : Type} : ∀ (l r : List α) (p : α → Bool) (k : Nat), l.any p = false → idxP (l ++ r) p k = idxP r p (k + l.length)
  | [], r, p, k, h => by simp
  | x :: xs, r, p, k, h => by
    have e : ¬ p x = true := by
      intro e
      simp [e] at h
    simp only [List.cons_append, idxP, if_neg e]
    rw [idxP_miss xs r p (k + 1) (by simpa [e] using h), List.length_cons]
    congr 1; omega
theorem idxD_dup {l : List Decl} {k : Nat} (h : k < l.length) : decide (idxD l l[k].name < (k : Int)) = hasD (l.take k) l[k].name := by
  have hsp : l = l.take k ++ l[k] :: l.drop (k + 1) := by rw [← List.drop_eq_getElem_cons h, List.take_append_drop]
  have hlen : (l.take k).length = k := by simp; omega
  generalize hn : l[k].name = n
  have hc := congrArg (fun z => idxP z (fun d : Decl => decide (d.name = n)) 0) hsp
  cases hh : hasD (l.take k) n with
  | true =>
    have e : idxD l n = idxD (l.take k) n := hc.trans (idxP_hit _ _ _ _ hh)
    obtain ⟨j, h1, h2, _⟩ := idxD_get hh
    have := (List.getElem?_eq_some_iff.1 h2).1
    rw [e, h1]
    exact decide_eq_true (by omega)
  | false =>
    have e : idxD l n = (k : Int) := by
      refine hc.trans ?_
      rw [idxP_miss _ _ _ _ hh, idxP, if_pos (by simp [hn]), hlen, Nat.zero_add]
    rw [e]
    exact decide_eq_false (by omega)
theorem names_twice {l : List Decl} {k : Nat} (h : k < l.length) (hm : hasD (l.take k) l[k].name = true) : ¬ (l.map Decl.name).Nodup := fun hc => by
  have h1 : ((l.take (k + 1)).map Decl.name).Nodup := hc.sublist ((List.take_sublist _ _).map _)
  rw [((names_snoc l k h).1 h1).2] at hm
  cases hm

set_option maxHeartbeats 4000000 in
theorem sound_def (m : Mem) (L : List Item) (s : Sl) (l : List Decl) (hs : SlRep rDecl m s l) (hB : TblS l) : TCall Try.prog 19 ⟨[s.v]⟩ m L (Ret (.int .i64 (soundE l)) m L) := by
  refine TCall.forget ?_
  have hl := hs.len
  have hsm := hs.small rfl
  unfold TCall
  refine TCallX.enter Try.func19 rfl 179 rfl ?_
  repeat (first|refine q1 ?_|refine q3 ?_|refine q4 tab rfl rfl ?_|refine q5 ?_|refine q6 ?_)
  refine TC.condP rfl (fun eL => ?_) (fun eL => ?_)
  · repeat (first|refine q1 ?_|refine q3 ?_|refine q4 tab rfl rfl ?_|refine q5 ?_|refine q6 ?_|refine q8 ?_|refine q15 ?_)
    refine retQ_ret rfl (by repeat (exact List.Sublist.refl _)) ⟨Mem.le_refl _, rfl, ?_⟩
    rw [soundE_large (largeB_len (by omega))]
  · repeat (first|refine q1 ?_|refine q2 ?_|refine q3 ?_|refine q4 tab rfl rfl ?_|refine q5 ?_|refine q6 ?_|refine q13 ?_)
    refine TC.loopK (ι := Nat) [0] rfl (fun k => [(3, .int .i64 (k : Int))]) (fun _ => m) (fun _ => L) (fun k => k ≤ l.length ∧ (l.take k).any bigD = false) (fun k => l.length - k) 0 (by repeat (first|exact trivial|refine And.intro rfl ?_)) rfl (by repeat (exact List.Sublist.refl _)) ⟨Nat.zero_le _, rfl⟩ ?_
    rintro k ⟨hk, hI⟩
    repeat (first|refine q1 ?_|refine q3 ?_|refine q4 tab rfl rfl ?_|refine q5 ?_|refine q6 ?_)
    refine TC.condP rfl (fun h => ?_) (fun h => ?_)
    · have hlt : k < l.length := by omega
      have hx : l[k]? = some l[k] := by simp [hlt]
      repeat (first|refine q1 ?_|refine q2 ?_|refine q3 ?_|refine q4 tab rfl rfl ?_|refine q6 ?_|refine q13 ?_)
      refine TO.step rfl (OT.index tab rDecl k hs rfl rfl rfl rfl rfl (by first | rfl | omega) rfl hx ?_)
      rintro b' i' hd hrd hA
      have hf1 := hrd.fields.len
      repeat (refine q4 tab rfl rfl ?_)
      (refine TO.step rfl (OT.loadA tab hA rfl rfl rfl rfl rfl ?_))
      repeat (refine q4 tab rfl rfl ?_)
      (refine TO.splitP rfl rfl (fun e1 => ?_) (fun e1 => ?_))
      · repeat (first|refine q1 ?_|refine q3 ?_|refine q4 tab rfl rfl ?_|refine q5 ?_|refine q6 ?_|refine q8 ?_|refine q9 ?_|refine q15 ?_|refine q16 rfl ?_)
        refine retQ_ret rfl (by repeat (exact List.Sublist.refl _)) ⟨Mem.le_refl _, rfl, ?_⟩
        rw [soundE_large (largeB_any (any_hit hlt (by rw [bigD, decide_eq_true (show 64 < l[k].fields.length by omega)]; rfl)))]
      · repeat (refine q4 tab rfl rfl ?_)
        refine TO.step rfl (OT.index tab rDecl k hs rfl rfl rfl rfl rfl (by first | rfl | omega) rfl hx ?_)
        rintro b2 i2 hd2 hrd2 hA2
        have hm1 := hrd2.methods.len
        repeat (refine q4 tab rfl rfl ?_)
        (refine TO.step rfl (OT.loadA tab hA2 rfl rfl rfl rfl rfl ?_))
        repeat (first|refine q4 tab rfl rfl ?_|refine q5 ?_|refine q6 ?_)
        refine TC.condP rfl (fun e2 => ?_) (fun e2 => ?_)
        · repeat (first|refine q1 ?_|refine q3 ?_|refine q4 tab rfl rfl ?_|refine q5 ?_|refine q6 ?_|refine q8 ?_|refine q9 ?_|refine q15 ?_)
          refine retQ_ret rfl (by repeat (exact List.Sublist.refl _)) ⟨Mem.le_refl _, rfl, ?_⟩
          rw [soundE_large (largeB_any (any_hit hlt (by rw [bigD, decide_eq_true (show 64 < l[k].methods.length by omega), Bool.or_true])))]
        · repeat (first|refine q3 ?_|refine q4 tab rfl rfl ?_|refine q6 ?_|refine q7 ?_|refine q13 ?_)
          refine TO.step rfl (OT.arith (r' := ((k + 1 : Nat) : Int)) rfl rfl rfl rfl rfl rfl rfl (by omega) ?_)
          repeat (first|refine q4 tab rfl rfl ?_|refine q5 ?_|refine q6 ?_)
          exact ⟨k + 1, (by repeat (first|exact trivial|refine And.intro rfl ?_)), (by repeat (first|exact trivial|refine And.intro rfl ?_)), rfl, rfl, (by repeat (exact List.Sublist.refl _)), ⟨by omega, any_take hlt hI (by rw [bigD, decide_eq_false (show ¬ 64 < l[k].fields.length by omega), decide_eq_false (show ¬ 64 < l[k].methods.length by omega)]; rfl)⟩, by omega⟩
    · rw [List.take_of_length_le (by omega)] at hI
      have hbig : largeB l = false := largeB_no (by omega) hI
      have hsml : ∀ d ∈ l, d.fields.length ≤ 64 ∧ d.methods.length ≤ 64 := fun d hd => by
        have := List.any_eq_false.1 hI d hd
        simp only [bigD, Bool.or_eq_true, decide_eq_true_eq] at this
        omega
      clear hI h hk
      repeat (first|refine q1 ?_|refine q2 ?_|refine q3 ?_|refine q4 tab rfl rfl ?_|refine q5 ?_|refine q6 ?_|refine q10 ?_|refine q11 ?_|refine q14 ?_)
      refine TC.loopK (ι := Nat × Mem) [0] rfl (fun x => [(4, .int .i64 (x.1 : Int))]) (fun x => x.2) (fun _ => L) (fun x => x.1 ≤ l.length ∧ m ≤ x.2 ∧ (l.take x.1).any formD = false) (fun x => l.length - x.1) (0, m) (by repeat (first|exact trivial|refine And.intro rfl ?_)) rfl (by repeat (exact List.Sublist.refl _)) ⟨Nat.zero_le _, Mem.le_refl _, rfl⟩ ?_
      rintro ⟨k, m1⟩ ⟨hk, hm1, hI⟩
      simp only at hk hm1 hI ⊢
      repeat (first|refine q1 ?_|refine q3 ?_|refine q4 tab rfl rfl ?_|refine q5 ?_|refine q6 ?_)
      refine TC.condP rfl (fun h => ?_) (fun h => ?_)
      · have hlt : k < l.length := by omega
        have hx : l[k]? = some l[k] := by simp [hlt]
        have hmem := List.getElem_mem hlt
        have hdS := hB _ hmem
        have hd64 := hsml _ hmem
        have hs1 := hs.mono hm1
        repeat (first|refine q1 ?_|refine q2 ?_|refine q3 ?_|refine q4 tab rfl rfl ?_|refine q6 ?_|refine q13 ?_)
        refine TO.step rfl (OT.index tab rDecl k hs1 rfl rfl rfl rfl rfl (by first | rfl | omega) rfl hx ?_)
        rintro b' i' hd hrd hA
        have hn1 := hrd.name
        have hi1 := hrd.iface
        have hf1 := hrd.fields.len
        have hm1' := hrd.methods.len
        have hnl := hdS.name
        (refine TO.step rfl (OT.loadA0 tab hA rfl rfl rfl rfl rfl ?_))
        skip
        refine TO.step rfl (OT.alloc tab rfl rfl rfl rfl (fun b6 => ?_))
        skip
        (refine TO.step rfl (OT.storeL0 tab 0 rfl rfl rfl rfl rfl rfl rfl rfl ?_))
        refine TO.nil ?_
        refine thenQ_n ?_
        refine TC.seq ?_
        refine TC.seq ?_
        refine TC.cutT (ι := Bool) [0, 4, 5] rfl (fun v => [(67, .bool v)]) (fun _ => m1) (fun _ => .cells b6 0 (declC hd) :: L) (fun v => v = headD l[k]) ?_ (fun v hv => ?_)
        · repeat (first|(first|refine q3 ?_|refine q4 tab rfl rfl ?_)|(refine qs rfl (ql tab 0 rfl rfl rfl rfl rfl rfl ?_)))
          refine TO.step rfl (OT.call rfl rfl rfl rfl rfl rfl goes51 ((name_ref _ _ hd.name (by rw [hn1]; omega)).x ?_));
          rintro _ _ _ ⟨rfl, rfl, rfl⟩
          repeat (refine q4 tab rfl rfl ?_)
          refine TO.split (b := !isName hd.name) rfl rfl (fun e1 => ?_) (fun e1 => ?_)
          · repeat (first|refine q4 tab rfl rfl ?_|refine q5 ?_|refine q6 ?_)
            exact ⟨true, (by repeat (first|exact trivial|refine And.intro rfl ?_)), (by repeat (first|exact trivial|refine And.intro rfl ?_)), rfl, rfl, (by repeat (exact List.Sublist.refl _)), by rw [headD, ← hn1, e1]; rfl⟩
          · repeat (first|(refine q4 tab rfl rfl ?_)|(refine qs rfl (ql tab 0 rfl rfl rfl rfl rfl rfl ?_)))
            refine TO.step rfl (OT.call rfl rfl rfl rfl rfl rfl goes52 ((basic_ref _ _ hd.name).x ?_));
            rintro _ _ _ ⟨rfl, rfl, rfl⟩
            repeat (refine q4 tab rfl rfl ?_)
            (refine TO.splitP rfl rfl (fun e2 => ?_) (fun e2 => ?_))
            · repeat (first|refine q4 tab rfl rfl ?_|refine q5 ?_|refine q6 ?_)
              exact ⟨true, (by repeat (first|exact trivial|refine And.intro rfl ?_)), (by repeat (first|exact trivial|refine And.intro rfl ?_)), rfl, rfl, (by repeat (exact List.Sublist.refl _)), by rw [headD, ← hn1, e1, ← basicOf_pos, decide_eq_true e2]; rfl⟩
            · repeat (first|(refine q4 tab rfl rfl ?_)|(refine qs rfl (ql tab 0 rfl rfl rfl rfl rfl rfl ?_)))
              refine TO.split (b := hd.iface) rfl rfl (fun e3 => ?_) (fun e3 => ?_)
              · repeat (first|(first|refine q4 tab rfl rfl ?_|refine q5 ?_|refine q6 ?_)|(refine qs rfl (ql tab 0 rfl rfl rfl rfl rfl rfl ?_)))
                refine ⟨decide ((0 : Int) < (hd.fields.len : Int)), (by repeat (first|exact trivial|refine And.intro rfl ?_)), (by repeat (first|exact trivial|refine And.intro rfl ?_)), rfl, rfl, (by repeat (exact List.Sublist.refl _)), ?_⟩
                rw [headD, ← hn1, e1, ← basicOf_pos, decide_eq_false e2, ← hi1, e3, hf1]
                simp
              · repeat (first|refine q4 tab rfl rfl ?_|refine q5 ?_|refine q6 ?_)
                exact ⟨false, (by repeat (first|exact trivial|refine And.intro rfl ?_)), (by repeat (first|exact trivial|refine And.intro rfl ?_)), rfl, rfl, (by repeat (exact List.Sublist.refl _)), by rw [headD, ← hn1, e1, ← basicOf_pos, decide_eq_false e2, ← hi1, e3]; rfl⟩
        · refine TC.cond (t := v) rfl (fun e => ?_) (fun e => ?_)
          · subst e
            repeat (first|refine q1 ?_|refine q3 ?_|refine q4 tab rfl rfl ?_|refine q5 ?_|refine q6 ?_|refine q8 ?_|refine q9 ?_|refine q15 ?_)
            refine retQ_ret rfl (by repeat (first|exact List.Sublist.refl _|refine List.Sublist.cons _ ?_)) ⟨hm1, rfl, ?_⟩
            rw [soundE_form hbig (any_hit hlt (by rw [formD, ← hv]; rfl))]
          · subst e
            repeat (first|(first|refine q1 ?_|refine q3 ?_|refine q6 ?_|refine q13 ?_)|(refine qs rfl (qz tab 0 rfl rfl rfl rfl rfl rfl ?_)))
            refine TO.step rfl (OT.call rfl rfl rfl rfl rfl rfl goes53 ((members_ref _ _ hd l[k] hrd hdS).x ?_));
            rintro _ m3 _ ⟨hm3, rfl, u, rfl, hu⟩
            have hul := hu.len
            have hus := hu.small rfl
            have hm03 := Mem.le_trans hm1 hm3
            repeat (first|refine q1 ?_|refine q2 ?_|refine q3 ?_|refine q4 tab rfl rfl ?_|refine q5 ?_|refine q6 ?_)
            refine TC.loopK (ι := Nat) [0, 4, 5, 6] rfl (fun j => [(7, .int .i64 (j : Int))]) (fun _ => m3) (fun _ => .cells b6 0 (declC hd) :: L) (fun j => j ≤ l[k].all.length ∧ NoI (badF l[k].fields.length) l[k].all j) (fun j => l[k].all.length - j) 0 (by repeat (first|exact trivial|refine And.intro rfl ?_)) rfl (by repeat (exact List.Sublist.refl _)) ⟨Nat.zero_le _, fun j x hj => by omega⟩ ?_
            rintro j ⟨hj, hJ⟩
            repeat (first|refine q1 ?_|refine q3 ?_|refine q4 tab rfl rfl ?_|refine q5 ?_|refine q6 ?_)
            refine TC.condP rfl (fun h2 => ?_) (fun h2 => ?_)
            · have hjl : j < l[k].all.length := by omega
              have hxj : l[k].all[j]? = some l[k].all[j] := by simp [hjl]
              have hfS := hdS.all _ (List.getElem_mem hjl)
              repeat (first|refine q1 ?_|refine q2 ?_|refine q3 ?_|refine q4 tab rfl rfl ?_|refine q6 ?_|refine q13 ?_)
              refine TO.step rfl (OT.index tab rField j hu rfl rfl rfl rfl rfl (by first | rfl | omega) rfl hxj ?_)
              rintro b2 i2 hf hrf hA2
              have hft := hrf.type
              have hfk := hft.kind
              repeat (refine q4 tab rfl rfl ?_)
              (refine TO.step rfl (OT.loadA tab hA2 rfl rfl rfl rfl rfl ?_))
              skip
              refine TO.step rfl (OT.alloc tab rfl rfl rfl rfl (fun b8 => ?_))
              skip
              (refine TO.step rfl (OT.storeL0 tab 0 rfl rfl rfl rfl rfl rfl rfl rfl ?_))
              refine TO.nil ?_
              refine thenQ_n ?_
              refine TC.seq ?_
              refine TC.cutT (ι := Bool) [0, 4, 5, 6, 7, 8] rfl (fun v => [(109, .bool v)]) (fun _ => m3) (fun _ => .cells b6 0 (declC hd) :: L) (fun v => v = badF l[k].fields.length j l[k].all[j]) ?_ (fun v hv => ?_)
              · repeat (first|refine q3 ?_|refine q4 tab rfl rfl ?_)
                refine TO.step rfl (OT.index tab rField j hu rfl rfl rfl rfl rfl (by first | rfl | omega) rfl hxj ?_)
                rintro b3 i3 hf3 hrf3 hA3
                have hfn := hrf3.name
                repeat (refine q4 tab rfl rfl ?_)
                (refine TO.step rfl (OT.loadA tab hA3 rfl rfl rfl rfl rfl ?_))
                skip
                refine TO.step rfl (OT.call rfl rfl rfl rfl rfl rfl goes51 ((name_ref _ _ hf3.name (by rw [hfn]; omega)).x ?_));
                rintro _ _ _ ⟨rfl, rfl, rfl⟩
                repeat (refine q4 tab rfl rfl ?_)
                refine TO.split (b := !isName hf3.name) rfl rfl (fun e1 => ?_) (fun e1 => ?_)
                · repeat (first|refine q4 tab rfl rfl ?_|refine q5 ?_|refine q6 ?_)
                  exact ⟨true, (by repeat (first|exact trivial|refine And.intro rfl ?_)), (by repeat (first|exact trivial|refine And.intro rfl ?_)), rfl, rfl, (by repeat (first|exact List.Sublist.refl _|refine List.Sublist.cons _ ?_)), by rw [badF, ← hfn, e1]; rfl⟩
                · repeat ((refine qs rfl (qz tab 0 rfl rfl rfl rfl rfl rfl ?_)))
                  refine TO.step rfl (OT.call rfl rfl rfl rfl rfl rfl goes42 ((isSound_ref _ _ _ hf.type hft (by omega)).x ?_));
                  rintro _ _ _ ⟨rfl, rfl, rfl⟩
                  repeat (refine q4 tab rfl rfl ?_)
                  refine TO.split (b := !l[k].all[j].type.sound) rfl rfl (fun e2 => ?_) (fun e2 => ?_)
                  · repeat (first|refine q4 tab rfl rfl ?_|refine q5 ?_|refine q6 ?_)
                    exact ⟨true, (by repeat (first|exact trivial|refine And.intro rfl ?_)), (by repeat (first|exact trivial|refine And.intro rfl ?_)), rfl, rfl, (by repeat (first|exact List.Sublist.refl _|refine List.Sublist.cons _ ?_)), by rw [badF, ← hfn, e1, e2]; rfl⟩
                  · repeat (first|(refine q4 tab rfl rfl ?_)|(refine qs rfl (ql tab 0 rfl rfl rfl rfl rfl rfl ?_)))
                    (refine TO.splitP rfl rfl (fun e3 => ?_) (fun e3 => ?_))
                    · repeat (first|refine q4 tab rfl rfl ?_|refine q5 ?_|refine q6 ?_)
                      exact ⟨true, (by repeat (first|exact trivial|refine And.intro rfl ?_)), (by repeat (first|exact trivial|refine And.intro rfl ?_)), rfl, rfl, (by repeat (first|exact List.Sublist.refl _|refine List.Sublist.cons _ ?_)), by rw [badF, ← hfn, e1, e2, ← hfk, decide_eq_true e3]; rfl⟩
                    · repeat (first|(refine q4 tab rfl rfl ?_)|(refine qs rfl (ql tab 1 rfl rfl rfl rfl rfl rfl ?_)))
                      (refine TO.splitP rfl rfl (fun e4 => ?_) (fun e4 => ?_))
                      · repeat (first|(first|refine q4 tab rfl rfl ?_|refine q5 ?_|refine q6 ?_)|(refine qs rfl (ql tab 0 rfl rfl rfl rfl rfl rfl ?_)))
                        refine ⟨!decide (hf.type.kind = 7), (by repeat (first|exact trivial|refine And.intro rfl ?_)), (by repeat (first|exact trivial|refine And.intro rfl ?_)), rfl, rfl, (by repeat (first|exact List.Sublist.refl _|refine List.Sublist.cons _ ?_)), ?_⟩
                        rw [badF, ← hfn, e1, e2, ← hfk, decide_eq_false e3, decide_eq_true (show l[k].fields.length ≤ j by omega)]
                        rfl
                      · repeat (first|refine q4 tab rfl rfl ?_|refine q5 ?_|refine q6 ?_)
                        refine ⟨false, (by repeat (first|exact trivial|refine And.intro rfl ?_)), (by repeat (first|exact trivial|refine And.intro rfl ?_)), rfl, rfl, (by repeat (first|exact List.Sublist.refl _|refine List.Sublist.cons _ ?_)), ?_⟩
                        rw [badF, ← hfn, e1, e2, ← hfk, decide_eq_false e3, decide_eq_false (show ¬ l[k].fields.length ≤ j by omega)]
                        rfl
              · refine TC.cond (t := v) rfl (fun e => ?_) (fun e => ?_)
                · subst e
                  repeat (first|refine q1 ?_|refine q3 ?_|refine q4 tab rfl rfl ?_|refine q5 ?_|refine q6 ?_|refine q8 ?_|refine q9 ?_|refine q15 ?_)
                  refine retQ_ret rfl (by repeat (first|exact List.Sublist.refl _|refine List.Sublist.cons _ ?_)) ⟨hm03, rfl, ?_⟩
                  rw [soundE_form hbig (any_hit hlt (by rw [formD, anyI_yes hxj hv.symm, Bool.or_true]))]
                · subst e
                  repeat (first|refine q3 ?_|refine q4 tab rfl rfl ?_|refine q6 ?_|refine q7 ?_|refine q13 ?_)
                  refine TO.step rfl (OT.arith (r' := ((j + 1 : Nat) : Int)) rfl rfl rfl rfl rfl rfl rfl (by omega) ?_)
                  repeat (first|refine q4 tab rfl rfl ?_|refine q5 ?_|refine q6 ?_)
                  exact ⟨j + 1, (by repeat (first|exact trivial|refine And.intro rfl ?_)), (by repeat (first|exact trivial|refine And.intro rfl ?_)), rfl, rfl, (by repeat (exact List.Sublist.refl _)), ⟨by omega, hJ.step hjl hv.symm⟩, by omega⟩
            · repeat (first|refine q3 ?_|refine q4 tab rfl rfl ?_|refine q6 ?_|refine q7 ?_|refine q10 ?_|refine q11 ?_|refine q14 ?_)
              refine TO.step rfl (OT.arith (r' := ((k + 1 : Nat) : Int)) rfl rfl rfl rfl rfl rfl rfl (by omega) ?_)
              repeat (first|refine q4 tab rfl rfl ?_|refine q5 ?_|refine q6 ?_)
              exact ⟨(k + 1, m3), (by repeat (first|exact trivial|refine And.intro rfl ?_)), (by repeat (first|exact trivial|refine And.intro rfl ?_)), rfl, rfl, (by repeat (first|exact List.Sublist.refl _|refine List.Sublist.cons _ ?_)), ⟨by simp only; omega, hm03, any_take hlt hI (by rw [formD, ← hv, hJ.all (by omega)]; rfl)⟩, by simp only; omega⟩
      · rw [List.take_of_length_le (by omega)] at hI
        have hform : l.any formD = false := hI
        have hfin : ∀ d ∈ l, ∀ (j : Nat) (hj : j < d.all.length), badF d.fields.length j d.all[j] = false := fun d hd j hj => by
          have h1 := List.any_eq_false.1 hform d hd
          simp only [formD, Bool.or_eq_true, not_or, Bool.not_eq_true] at h1
          cases hc : badF d.fields.length j d.all[j] with
          | false => rfl
          | true =>
            have := anyI_yes (p := badF d.fields.length) (l := d.all) (j := j) (x := d.all[j]) (by simp [hj]) hc
            rw [h1.2] at this; cases this
        clear hI h hk
        repeat (first|refine q1 ?_|refine q2 ?_|refine q3 ?_|refine q4 tab rfl rfl ?_|refine q5 ?_|refine q6 ?_|refine q10 ?_|refine q11 ?_|refine q14 ?_)
        refine TC.loopK (ι := Nat × Mem) [0] rfl (fun x => [(9, .int .i64 (x.1 : Int))]) (fun x => x.2) (fun _ => L) (fun x => x.1 ≤ l.length ∧ m ≤ x.2 ∧ ((l.take x.1).map Decl.name).Nodup ∧ (l.take x.1).any (typeD l) = false) (fun x => l.length - x.1) (0, m1) (by repeat (first|exact trivial|refine And.intro rfl ?_)) rfl (by repeat (exact List.Sublist.refl _)) ⟨Nat.zero_le _, hm1, List.nodup_nil, rfl⟩ ?_
        rintro ⟨k, m3⟩ ⟨hk, hm3, hN, hI⟩
        simp only at hk hm3 hN hI ⊢
        repeat (first|refine q1 ?_|refine q3 ?_|refine q4 tab rfl rfl ?_|refine q5 ?_|refine q6 ?_)
        refine TC.condP rfl (fun h => ?_) (fun h => ?_)
        · have hlt : k < l.length := by omega
          have hx : l[k]? = some l[k] := by simp [hlt]
          have hmem := List.getElem_mem hlt
          have hdS := hB _ hmem
          have hs3 := hs.mono hm3
          have hdup := idxD_dup hlt
          repeat (first|refine q1 ?_|refine q2 ?_|refine q3 ?_|refine q4 tab rfl rfl ?_|refine q6 ?_|refine q13 ?_)
          refine TO.step rfl (OT.index tab rDecl k hs3 rfl rfl rfl rfl rfl (by first | rfl | omega) rfl hx ?_)
          rintro b' i' hd hrd hA
          have hn1 := hrd.name
          repeat (refine q4 tab rfl rfl ?_)
          (refine TO.step rfl (OT.loadA tab hA rfl rfl rfl rfl rfl ?_))
          skip
          refine TO.step rfl (OT.call rfl rfl rfl rfl rfl rfl goes26 ((find_ref _ _ s l hd.name hs3).x ?_));
          rintro _ _ _ ⟨rfl, rfl, rfl⟩
          rw [hn1]
          repeat (first|refine q4 tab rfl rfl ?_|refine q5 ?_|refine q6 ?_)
          refine TC.condP rfl (fun e1 => ?_) (fun e1 => ?_)
          · rw [decide_eq_true e1] at hdup
            repeat (first|refine q1 ?_|refine q3 ?_|refine q4 tab rfl rfl ?_|refine q5 ?_|refine q6 ?_|refine q8 ?_|refine q9 ?_|refine q15 ?_)
            refine retQ_ret rfl (by repeat (exact List.Sublist.refl _)) ⟨hm3, rfl, ?_⟩
            rw [soundE_type hbig hform (by rw [typeB, decide_eq_false (names_twice hlt hdup.symm)]; rfl)]
          · rw [decide_eq_false e1] at hdup
            repeat (first|refine q1 ?_|refine q3 ?_|refine q4 tab rfl rfl ?_|refine q6 ?_|refine q13 ?_)
            refine TO.step rfl (OT.index tab rDecl k hs3 rfl rfl rfl rfl rfl (by first | rfl | omega) rfl hx ?_)
            rintro b2 i2 hd2 hrd2 hA2
            (refine TO.step rfl (OT.loadA0 tab hA2 rfl rfl rfl rfl rfl ?_))
            skip
            refine TO.step rfl (OT.call rfl rfl rfl rfl rfl rfl goes53 ((members_ref _ _ hd2 l[k] hrd2 hdS).x ?_));
            rintro _ m5 _ ⟨hm5, rfl, u, rfl, hu⟩
            have hul := hu.len
            have hus := hu.small rfl
            have hm05 := Mem.le_trans hm3 hm5
            have hs5 := hs.mono hm05
            repeat (first|refine q1 ?_|refine q2 ?_|refine q3 ?_|refine q4 tab rfl rfl ?_|refine q5 ?_|refine q6 ?_)
            refine TC.loopK (ι := Nat) [0, 9, 10] rfl (fun j => [(11, .int .i64 (j : Int))]) (fun _ => m5) (fun _ => L) (fun j => j ≤ l[k].all.length ∧ ((l[k].all.take j).map Fld.name).Nodup ∧ NoI (badK l l[k].fields.length) l[k].all j) (fun j => l[k].all.length - j) 0 (by repeat (first|exact trivial|refine And.intro rfl ?_)) rfl (by repeat (exact List.Sublist.refl _)) ⟨Nat.zero_le _, List.nodup_nil, fun j x hj => by omega⟩ ?_
            rintro j ⟨hj, hNj, hJ⟩
            repeat (first|refine q1 ?_|refine q3 ?_|refine q4 tab rfl rfl ?_|refine q5 ?_|refine q6 ?_)
            refine TC.condP rfl (fun h2 => ?_) (fun h2 => ?_)
            · have hjl : j < l[k].all.length := by omega
              have hxj : l[k].all[j]? = some l[k].all[j] := by simp [hjl]
              have hfS := hdS.all _ (List.getElem_mem hjl)
              have hgood := hfin _ hmem j hjl
              have hkn : tknown (hasD l) l[k].all[j].type = allB (hasD l) l[k].all[j].type := by
                simp only [badF, Bool.or_eq_false_iff, Bool.not_eq_false'] at hgood
                rw [tknown_all _ _ (sound_formed hgood.2.1), hgood.2.2.1]; rfl
              repeat (first|refine q1 ?_|refine q2 ?_|refine q3 ?_|refine q4 tab rfl rfl ?_|refine q5 ?_|refine q6 ?_|refine q13 ?_)
              refine TC.loopK (ι := Nat) [0, 9, 10, 11] rfl (fun i => [(12, .int .i64 (i : Int))]) (fun _ => m5) (fun _ => L) (fun i => i ≤ j ∧ l[k].all[j].name ∉ (l[k].all.take i).map Fld.name) (fun i => j - i) 0 (by repeat (first|exact trivial|refine And.intro rfl ?_)) rfl (by repeat (exact List.Sublist.refl _)) ⟨Nat.zero_le _, by simp⟩ ?_
              rintro i ⟨hi, hnot⟩
              repeat (first|refine q1 ?_|refine q3 ?_|refine q4 tab rfl rfl ?_|refine q5 ?_|refine q6 ?_)
              refine TC.condP rfl (fun h3 => ?_) (fun h3 => ?_)
              · have hil : i < l[k].all.length := by omega
                have hxi : l[k].all[i]? = some l[k].all[i] := by simp [hil]
                repeat (first|refine q1 ?_|refine q2 ?_|refine q6 ?_|refine q13 ?_)
                refine TC.draw0 [] mixed 11 rfl ?_
                refine DO.pure tab (by repeat (first|exact Calm.ret|refine Calm.then ?_|refine Calm.block ?_)) (by kernel_rfl) [0, 1] (by kernel_rfl) rfl ?_
                refine DO.index tab rField 2 i hu (by repeat (first|exact Calm.ret|refine Calm.then ?_|refine Calm.block ?_)) (by kernel_rfl) (by kernel_rfl) rfl rfl rfl rfl rfl rfl rfl (by first | rfl | omega) rfl hxi ?_
                rintro b3 i3 hf3 hrf3 hA3
                refine DO.pure tab (by repeat (first|exact Calm.ret|refine Calm.then ?_|refine Calm.block ?_)) (by kernel_rfl) [3] (by kernel_rfl) rfl ?_
                (refine DO.loadA tab 4 hA3 (by repeat (first|exact Calm.ret|refine Calm.then ?_|refine Calm.block ?_)) (by kernel_rfl) (by kernel_rfl) rfl rfl rfl rfl rfl rfl rfl ?_)
                refine DO.pure tab (by repeat (first|exact Calm.ret|refine Calm.then ?_|refine Calm.block ?_)) (by kernel_rfl) [5, 6] (by kernel_rfl) rfl ?_
                refine DO.index tab rField 7 j hu (by repeat (first|exact Calm.ret|refine Calm.then ?_|refine Calm.block ?_)) (by kernel_rfl) (by kernel_rfl) rfl rfl rfl rfl rfl rfl rfl (by first | rfl | omega) rfl hxj ?_
                rintro b4 i4 hf4 hrf4 hA4
                refine DO.pure tab (by repeat (first|exact Calm.ret|refine Calm.then ?_|refine Calm.block ?_)) (by kernel_rfl) [8] (by kernel_rfl) rfl ?_
                (refine DO.loadA tab 9 hA4 (by repeat (first|exact Calm.ret|refine Calm.then ?_|refine Calm.block ?_)) (by kernel_rfl) (by kernel_rfl) rfl rfl rfl rfl rfl rfl rfl ?_)
                refine DO.pure tab (by repeat (first|exact Calm.ret|refine Calm.then ?_|refine Calm.block ?_)) (by kernel_rfl) [10] (by kernel_rfl) rfl ?_
                (refine DO.nil0 (by kernel_rfl) ?_)
                rotate_left 1
                refine thenQ_n ?_
                have hfn3 := hrf3.name
                have hfn4 := hrf4.name
                skip
                refine TC.condP rfl (fun e5 => ?_) (fun e5 => ?_)
                · repeat (first|refine q1 ?_|refine q3 ?_|refine q4 tab rfl rfl ?_|refine q5 ?_|refine q6 ?_|refine q8 ?_|refine q9 ?_|refine q15 ?_)
                  refine retQ_ret rfl (by repeat (exact List.Sublist.refl _)) ⟨hm05, rfl, ?_⟩
                  have : l[k].all[j].name ∈ (l[k].all.take j).map Fld.name := List.mem_map.2 ⟨l[k].all[i], List.mem_take_iff_getElem.2 ⟨i, by omega, rfl⟩, by rw [← hfn3, ← hfn4, e5]⟩
                  rw [soundE_type hbig hform (by rw [typeB, any_hit hlt (by rw [typeD, decide_eq_false (fnames_twice hjl this)]; rfl), Bool.or_true])]
                · repeat (first|refine q3 ?_|refine q4 tab rfl rfl ?_|refine q6 ?_|refine q7 ?_|refine q13 ?_)
                  refine TO.step rfl (OT.arith (r' := ((i + 1 : Nat) : Int)) rfl rfl rfl rfl rfl rfl rfl (by omega) ?_)
                  repeat (first|refine q4 tab rfl rfl ?_|refine q5 ?_|refine q6 ?_)
                  exact ⟨i + 1, (by repeat (first|exact trivial|refine And.intro rfl ?_)), (by repeat (first|exact trivial|refine And.intro rfl ?_)), rfl, rfl, (by repeat (exact List.Sublist.refl _)), ⟨by omega, by
                    rw [List.take_succ_eq_append_getElem hil, List.map_append, List.mem_append, not_or]
                    refine ⟨hnot, ?_⟩
                    simp only [List.map_cons, List.map_nil, List.mem_singleton]
                    rw [← hfn3, ← hfn4]
                    exact fun q => e5 q.symm⟩, by omega⟩
              · have hij : i = j := by omega
                subst hij
                repeat (first|refine q1 ?_|refine q3 ?_|refine q4 tab rfl rfl ?_|refine q6 ?_|refine q10 ?_|refine q11 ?_|refine q14 ?_)
                refine TO.step rfl (OT.index tab rField i hu rfl rfl rfl rfl rfl (by first | rfl | omega) rfl hxj ?_)
                rintro b3 i3 hf3 hrf3 hA3
                have hft3 := hrf3.type
                repeat (refine q4 tab rfl rfl ?_)
                (refine TO.step rfl (OT.loadA tab hA3 rfl rfl rfl rfl rfl ?_))
                skip
                refine TO.step rfl (OT.call rfl rfl rfl rfl rfl rfl goes54 ((all_ref _ _ _ s l hs5 hf3.type hft3).x ?_));
                rintro _ _ _ ⟨rfl, rfl, rfl⟩
                rw [← hkn]
                repeat (refine q4 tab rfl rfl ?_)
                refine TO.split (b := !tknown (hasD l) l[k].all[i].type) rfl rfl (fun e6 => ?_) (fun e6 => ?_)
                · repeat (first|refine q1 ?_|refine q3 ?_|refine q4 tab rfl rfl ?_|refine q5 ?_|refine q6 ?_|refine q8 ?_|refine q9 ?_|refine q15 ?_|refine q16 rfl ?_)
                  refine retQ_ret rfl (by repeat (exact List.Sublist.refl _)) ⟨hm05, rfl, ?_⟩
                  rw [soundE_type hbig hform (by rw [typeB, any_hit hlt (by rw [typeD, anyI_yes hxj (by rw [badK, e6]; rfl), Bool.or_true]), Bool.or_true])]
                · repeat (refine q4 tab rfl rfl ?_)
                  refine TO.step rfl (OT.index tab rDecl k hs5 rfl rfl rfl rfl rfl (by first | rfl | omega) rfl hx ?_)
                  rintro b4 i4 hd4 hrd4 hA4
                  have hf4 := hrd4.fields.len
                  repeat (refine q4 tab rfl rfl ?_)
                  (refine TO.step rfl (OT.loadA tab hA4 rfl rfl rfl rfl rfl ?_))
                  repeat (refine q4 tab rfl rfl ?_)
                  (refine TO.splitP rfl rfl (fun e7 => ?_) (fun e7 => ?_))
                  · repeat (refine q4 tab rfl rfl ?_)
                    refine TO.step rfl (OT.index tab rField i hu rfl rfl rfl rfl rfl (by first | rfl | omega) rfl hxj ?_)
                    rintro b5 i5 hf5 hrf5 hA5
                    repeat (refine q4 tab rfl rfl ?_)
                    (refine TO.step rfl (OT.loadA tab hA5 rfl rfl rfl rfl rfl ?_))
                    skip
                    refine TO.step rfl (OT.call rfl rfl rfl rfl rfl rfl goes55 ((isStruct_ref _ _ _ s l hs5 hf5.type hrf5.type).x ?_));
                    rintro _ _ _ ⟨rfl, rfl, rfl⟩
                    repeat (first|refine q4 tab rfl rfl ?_|refine q5 ?_|refine q6 ?_)
                    refine TC.cond (t := isStructD l l[k].all[i].type) rfl (fun e8 => ?_) (fun e8 => ?_)
                    · repeat (first|refine q1 ?_|refine q3 ?_|refine q4 tab rfl rfl ?_|refine q5 ?_|refine q6 ?_|refine q8 ?_|refine q9 ?_|refine q15 ?_)
                      refine retQ_ret rfl (by repeat (exact List.Sublist.refl _)) ⟨hm05, rfl, ?_⟩
                      rw [soundE_type hbig hform (by rw [typeB, any_hit hlt (by rw [typeD, anyI_yes hxj (by rw [badK, e6, e8, decide_eq_true (show i < l[k].fields.length by omega)]; rfl), Bool.or_true]), Bool.or_true])]
                    · repeat (first|refine q3 ?_|refine q4 tab rfl rfl ?_|refine q6 ?_|refine q7 ?_|refine q13 ?_)
                      refine TO.step rfl (OT.arith (r' := ((i + 1 : Nat) : Int)) rfl rfl rfl rfl rfl rfl rfl (by omega) ?_)
                      repeat (first|refine q4 tab rfl rfl ?_|refine q5 ?_|refine q6 ?_)
                      exact ⟨i + 1, (by repeat (first|exact trivial|refine And.intro rfl ?_)), (by repeat (first|exact trivial|refine And.intro rfl ?_)), rfl, rfl, (by repeat (exact List.Sublist.refl _)), ⟨by omega, (fnames_snoc _ i hjl).2 ⟨hNj, hnot⟩, hJ.step hjl (by rw [badK, e6, e8, Bool.and_false]; rfl)⟩, by omega⟩
                  · repeat (first|refine q3 ?_|refine q4 tab rfl rfl ?_|refine q5 ?_|refine q6 ?_|refine q7 ?_|refine q13 ?_|refine q17 rfl ?_)
                    refine TO.step rfl (OT.arith (r' := ((i + 1 : Nat) : Int)) rfl rfl rfl rfl rfl rfl rfl (by omega) ?_)
                    repeat (first|refine q4 tab rfl rfl ?_|refine q5 ?_|refine q6 ?_)
                    exact ⟨i + 1, (by repeat (first|exact trivial|refine And.intro rfl ?_)), (by repeat (first|exact trivial|refine And.intro rfl ?_)), rfl, rfl, (by repeat (exact List.Sublist.refl _)), ⟨by omega, (fnames_snoc _ i hjl).2 ⟨hNj, hnot⟩, hJ.step hjl (by rw [badK, e6, decide_eq_false (show ¬ i < l[k].fields.length by omega)]; rfl)⟩, by omega⟩
            · rw [List.take_of_length_le (by omega)] at hNj
              repeat (first|refine q3 ?_|refine q4 tab rfl rfl ?_|refine q6 ?_|refine q7 ?_|refine q10 ?_|refine q11 ?_|refine q14 ?_)
              refine TO.step rfl (OT.arith (r' := ((k + 1 : Nat) : Int)) rfl rfl rfl rfl rfl rfl rfl (by omega) ?_)
              repeat (first|refine q4 tab rfl rfl ?_|refine q5 ?_|refine q6 ?_)
              exact ⟨(k + 1, m5), (by repeat (first|exact trivial|refine And.intro rfl ?_)), (by repeat (first|exact trivial|refine And.intro rfl ?_)), rfl, rfl, (by repeat (exact List.Sublist.refl _)), ⟨by simp only; omega, hm05, (names_snoc l k hlt).2 ⟨hN, hdup.symm⟩, any_take hlt hI (by rw [typeD, decide_eq_true hNj, hJ.all (by omega)]; rfl)⟩, by simp only; omega⟩
        · rw [List.take_of_length_le (by omega)] at hI hN
          repeat (first|refine q1 ?_|refine q3 ?_|refine q4 tab rfl rfl ?_|refine q5 ?_|refine q6 ?_|refine q10 ?_|refine q11 ?_|refine q14 ?_|refine q15 ?_)
          refine retQ_ret rfl (by repeat (exact List.Sublist.refl _)) ⟨hm3, rfl, ?_⟩
          rw [soundE_ok hbig hform (by rw [typeB, decide_eq_true hN, hI]; rfl)]
end Go.Sep

/-
  The walks of open and Known.
-/
set_option linter.unusedVariables false
set_option linter.unusedSimpArgs false
namespace Go.Sep
open Go.Proofs
attribute [local irreducible] TC TO OT TCallX TCall DO DOt thenQ blockQ retQ At

theorem soundE_zero {l : List Decl} (h : soundE l = 0) : largeB l = false ∧ l.any formD = false ∧ typeB l = false := by
  unfold soundE at h
  split at h
  · omega
  · rename_i h1
    split at h
    · omega
    · rename_i h2
      split at h
      · omega
      · rename_i h3
        exact ⟨by simpa using h1, by simpa using h2, by simpa using h3⟩
theorem soundE_nodup {l : List Decl} (h : soundE l = 0) : (l.map Decl.name).Nodup := by
  have := (soundE_zero h).2.2
  rw [typeB, Bool.or_eq_false_iff] at this
  simpa using this.1
def okD (l : List Decl) (ts : List Tree) : Bool := decide (soundE l = 0) && ts.all Tree.sound
attribute [local irreducible] soundE
/-- the table that open makes, or nil -/
@[reducible] def MadeO (m : Mem) (L : List Item) (l : List Decl) (ts : List Tree) : Value → Mem → List Item → Prop :=
  Made m L fun r m' => (okD l ts = true ∧ ∃ b es c, r = .map (some b) ∧ m'.o b = some (mapO kStr es c) ∧ TblRep m' es l) ∨ (okD l ts = false ∧ r = .map none)
set_option maxHeartbeats 800000 in
theorem open_law (m : Mem) (L : List Item) (s : Sl) (l : List Decl) (hs : SlRep rDecl m s l) (hS : TblS l) (t : Sl) (ts : List Tree) (ht : SlRep rTree m t ts) (hB : ∀ a ∈ ts, a.bulk ≤ 1048576) : TCall Try.prog 56 ⟨[s.v, t.v]⟩ m L (MadeO m L l ts) := by
  unfold TCall
  refine TCallX.enter Try.func56 rfl 14 rfl ?_
  repeat (first|refine q1 ?_|refine q3 ?_|refine q4 tab rfl rfl ?_|refine q5 ?_|refine q6 ?_)
  refine TO.step rfl (OT.call rfl rfl rfl rfl rfl rfl goes18 ((sound_tbl m L s l hs hS).x ?_));
  rintro _ _ _ ⟨rfl, rfl, rfl⟩
  repeat (refine q4 tab rfl rfl ?_)
  (refine TO.splitN rfl rfl (fun e1 => ?_) (fun e1 => ?_))
  · repeat (first|refine q1 ?_|refine q3 ?_|refine q4 tab rfl rfl ?_|refine q5 ?_|refine q6 ?_|refine q8 ?_|refine q15 ?_|refine q16 rfl ?_)
    refine retQ_ret rfl (by repeat (exact List.Sublist.refl _)) ⟨Mem.le_refl _, rfl, .inr ⟨by rw [okD, decide_eq_false e1]; rfl, rfl⟩⟩
  · repeat (refine q4 tab rfl rfl ?_)
    refine TO.step rfl (OT.call rfl rfl rfl rfl rfl rfl goes92 ((containsFunc_type m L t ts (fun a => !a.sound) 93 [] goes93 ht (fun h a ha hr => not_sound m L h a (rTree_iff.1 hr) (hB a ha))).x ?_));
    rintro _ _ _ ⟨rfl, rfl, rfl⟩
    repeat (first|refine q4 tab rfl rfl ?_|refine q5 ?_|refine q6 ?_)
    refine TC.cond (t := ts.any fun a => !a.sound) rfl (fun e2 => ?_) (fun e2 => ?_)
    · repeat (first|refine q1 ?_|refine q3 ?_|refine q4 tab rfl rfl ?_|refine q5 ?_|refine q6 ?_|refine q8 ?_|refine q15 ?_)
      have : ts.all Tree.sound = false := by
        rw [← Bool.not_eq_true, List.all_eq_true]
        intro hc
        obtain ⟨a, ha, hn⟩ := List.any_eq_true.1 e2
        rw [hc a ha] at hn; cases hn
      refine retQ_ret rfl (by repeat (exact List.Sublist.refl _)) ⟨Mem.le_refl _, rfl, .inr ⟨by rw [okD, this, Bool.and_false], rfl⟩⟩
    · have : ts.all Tree.sound = true := List.all_eq_true.2 fun a ha => by simpa using List.any_eq_false.1 e2 a ha
      repeat (first|refine q1 ?_|refine q3 ?_|refine q4 tab rfl rfl ?_|refine q6 ?_|refine q13 ?_)
      refine TO.step rfl (OT.call rfl rfl rfl rfl rfl rfl goes48 ((newTable_law m L s l hs).x ?_));
      rintro _ m1 _ ⟨hm1, rfl, b, es, c, rfl, ho, hT⟩
      repeat (first|refine q4 tab rfl rfl ?_|refine q5 ?_|refine q6 ?_|refine q15 ?_)
      refine retQ_ret rfl (by repeat (exact List.Sublist.refl _)) ⟨hm1, rfl, .inl ⟨by rw [okD, this, decide_eq_true e1]; rfl, b, es, c, rfl, ho, hT.rep (soundE_nodup e1)⟩⟩

def knownB (l : List Decl) (a : Tree) : Bool := okD l [a] && tknown (hasD l) a

set_option maxHeartbeats 800000 in
theorem known_law (a : Tree) (m : Mem) (L : List Item) (s : Sl) (l : List Decl) (hs : SlRep rDecl m s l) (hS : TblS l) (h : HTree) (hr : TreeRep m h a) (hB : a.bulk ≤ 1048576) : TCall Try.prog 20 ⟨[s.v, treeV h]⟩ m L (Ret (.bool (knownB l a)) m L) := by
  refine TCall.forget ?_
  unfold TCall
  refine TCallX.enter Try.func20 rfl 17 rfl ?_
  repeat (first|refine q1 ?_|refine q3 ?_)
  refine TO.step rfl (OT.box rfl rfl rfl rfl rfl (fun b => ?_))
  repeat (first|(first|refine q1 ?_|refine q3 ?_|refine q4 tab rfl rfl ?_|refine q5 ?_|refine q6 ?_)|(refine qs rfl (qz tab 0 rfl rfl rfl rfl rfl rfl ?_)))
  refine TO.step rfl (OT.lit tab rfl rfl rfl rfl (fun b2 => ?_))
  refine TO.freeze fun m1 hm1 hA1 => ?_
  skip
  refine TO.step rfl (OT.call rfl rfl rfl rfl rfl rfl goes56 ((open_law m1 _ s l (hs.mono hm1) hS _ [a] (slT1 (h := h) hA1 (hr.mono hm1)) (fun x hx => by rw [List.mem_singleton.1 hx]; exact hB)).x ?_));
  rintro _ m2 _ ⟨hm2, rfl, ⟨ok, bt, es, c, rfl, ho, hT⟩ | ⟨ok, rfl⟩⟩
  · repeat (first|refine q1 ?_|refine q3 ?_|refine q4 tab rfl rfl ?_|refine q5 ?_|refine q6 ?_)
    refine TO.step rfl (OT.mapNe tab kStr (r := some bt) rfl rfl rfl rfl rfl rfl ?_)
    repeat (first|(refine q4 tab rfl rfl ?_)|(refine qs rfl (qz tab 0 rfl rfl rfl rfl rfl rfl ?_)))
    refine TO.step rfl (OT.call rfl rfl rfl rfl rfl rfl goes49 ((tknown_law bt c es hT.ok a m2 _ h ((hr.mono hm1).mono hm2) ho).x ?_));
    rintro _ _ _ ⟨rfl, rfl, rfl⟩
    repeat (first|refine q4 tab rfl rfl ?_|refine q5 ?_|refine q6 ?_|refine q15 ?_)
    refine retQ_ret rfl (by repeat (first|exact List.Sublist.refl _|refine List.Sublist.cons _ ?_)) ⟨Mem.le_trans hm1 hm2, rfl, ?_⟩
    rw [knownB, ok, hT.hasF]; rfl
  · repeat (first|refine q1 ?_|refine q3 ?_|refine q4 tab rfl rfl ?_|refine q5 ?_|refine q6 ?_)
    refine TO.step rfl (OT.mapNe tab kStr (r := none) rfl rfl rfl rfl rfl rfl ?_)
    repeat ((first|refine q4 tab rfl rfl ?_|refine q5 ?_|refine q6 ?_|refine q15 ?_))
    refine retQ_ret rfl (by repeat (first|exact List.Sublist.refl _|refine List.Sublist.cons _ ?_)) ⟨Mem.le_trans hm1 hm2, rfl, ?_⟩
    rw [knownB, ok]; rfl

theorem knownD_eq {l : List Decl} {a : Tree} (h : a.sound = true) : knownD l a = tknown (hasD l) a := (tknown_all _ _ (sound_formed h)).symm

set_option maxHeartbeats 800000 in
theorem known_def (a : Tree) (m : Mem) (L : List Item) (s : Sl) (l : List Decl) (hs : SlRep rDecl m s l) (hS : TblS l) (h : HTree) (hr : TreeRep m h a) (hB : a.bulk ≤ 1048576) : TCall Try.prog 21 ⟨[s.v, treeV h]⟩ m L (Ret (.bool (knownB l a)) m L) := by
  unfold TCall
  refine TCallX.enter Try.func21 rfl 17 rfl ?_
  repeat (first|refine q1 ?_|refine q3 ?_)
  refine TO.step rfl (OT.box rfl rfl rfl rfl rfl (fun b => ?_))
  repeat (first|refine q1 ?_|refine q3 ?_|refine q4 tab rfl rfl ?_|refine q5 ?_|refine q6 ?_)
  refine TO.step rfl (OT.call rfl rfl rfl rfl rfl rfl goes19 ((sound_def m _ s l hs hS).x ?_));
  rintro _ _ _ ⟨rfl, rfl, rfl⟩
  repeat (refine q4 tab rfl rfl ?_)
  (refine TO.splitP rfl rfl (fun e1 => ?_) (fun e1 => ?_))
  · repeat ((refine qs rfl (qz tab 0 rfl rfl rfl rfl rfl rfl ?_)))
    refine TO.step rfl (OT.call rfl rfl rfl rfl rfl rfl goes42 ((isSound_ref a m _ h hr hB).x ?_));
    rintro _ _ _ ⟨rfl, rfl, rfl⟩
    repeat (refine q4 tab rfl rfl ?_)
    refine TO.split (b := a.sound) rfl rfl (fun e2 => ?_) (fun e2 => ?_)
    · repeat (first|(refine q4 tab rfl rfl ?_)|(refine qs rfl (qz tab 0 rfl rfl rfl rfl rfl rfl ?_)))
      refine TO.step rfl (OT.call rfl rfl rfl rfl rfl rfl goes57 ((known_ref a m _ s l hs h hr).x ?_));
      rintro _ _ _ ⟨rfl, rfl, rfl⟩
      repeat (first|refine q4 tab rfl rfl ?_|refine q5 ?_|refine q6 ?_|refine q15 ?_)
      refine retQ_ret rfl (by repeat (first|exact List.Sublist.refl _|refine List.Sublist.cons _ ?_)) ⟨rfl, rfl, ?_⟩
      rw [knownB, okD, decide_eq_true e1, List.all_cons, e2, knownD_eq e2]; rfl
    · repeat (first|refine q4 tab rfl rfl ?_|refine q5 ?_|refine q6 ?_|refine q15 ?_)
      refine retQ_ret rfl (by repeat (first|exact List.Sublist.refl _|refine List.Sublist.cons _ ?_)) ⟨rfl, rfl, ?_⟩
      rw [knownB, okD, decide_eq_true e1, List.all_cons, e2]; rfl
  · repeat (first|refine q4 tab rfl rfl ?_|refine q5 ?_|refine q6 ?_|refine q15 ?_)
    refine retQ_ret rfl (by repeat (first|exact List.Sublist.refl _|refine List.Sublist.cons _ ?_)) ⟨rfl, rfl, ?_⟩
    rw [knownB, okD, decide_eq_false e1]; rfl

set_option maxHeartbeats 1600000 in
theorem typesSound_law (a : Tree) (m : Mem) (L : List Item) (s : Sl) (l : List Decl) (hs : SlRep rDecl m s l) (hS : TblS l) (h : HTree) (hr : TreeRep m h a) (hB : a.bulk ≤ 1048576) : TCall Try.prog 5 ⟨[s.v, treeV h]⟩ m L (Ret (.bool true) m L) := by
  unfold TCall
  refine TCallX.enter Try.func5 rfl 22 rfl ?_
  repeat (first|refine q1 ?_|refine q3 ?_)
  refine TO.step rfl (OT.box rfl rfl rfl rfl rfl (fun b => ?_))
  repeat (first|refine q1 ?_|refine q4 tab rfl rfl ?_|refine q5 ?_|refine q6 ?_)
  refine TC.draw0 [] mixed 18 rfl ?_
  refine DO.run 0 rfl rfl (by kernel_rfl) rfl (OT.call rfl rfl rfl rfl rfl rfl goes12 ((awake_law _ _).x ?_))
  rintro _ _ _ ⟨rfl, rfl, rfl⟩; refine ⟨Mem.le_refl _, _, List.Perm.refl _, ?_⟩
  refine DO.pure tab (by repeat (first|exact Calm.ret|refine Calm.then ?_)) (by kernel_rfl) [1, 2, 4] (by kernel_rfl) rfl ?_
  refine DO.run 3 rfl rfl (by kernel_rfl) rfl (OT.call rfl rfl rfl rfl rfl rfl goes18 ((sound_tbl _ _ s l hs hS).x ?_))
  rintro _ _ _ ⟨rfl, rfl, rfl⟩; refine ⟨Mem.le_refl _, _, List.Perm.refl _, ?_⟩
  refine DO.run 5 rfl rfl (by kernel_rfl) rfl (OT.call rfl rfl rfl rfl rfl rfl goes19 ((sound_def _ _ s l hs hS).x ?_))
  rintro _ _ _ ⟨rfl, rfl, rfl⟩; refine ⟨Mem.le_refl _, _, List.Perm.refl _, ?_⟩
  refine DO.run 6 rfl rfl (by kernel_rfl) rfl ?_; refine OT.pureC (v' := .bool true) tab rfl rfl rfl (congrArg Value.bool (decide_eq_true rfl)) ?_; refine ⟨Mem.le_refl _, _, List.Perm.refl _, ?_⟩
  refine DO.pure tab (by repeat (first|exact Calm.ret|refine Calm.then ?_)) (by kernel_rfl) [7, 8, 9] (by kernel_rfl) rfl ?_
  (refine DO.loadL (k := 0) tab 10 0 (by repeat (first|exact Calm.ret|refine Calm.then ?_)) (by kernel_rfl) (by kernel_rfl) rfl rfl rfl rfl rfl rfl rfl rfl ?_)
  refine DO.pure tab (by repeat (first|exact Calm.ret|refine Calm.then ?_)) (by kernel_rfl) [12] (by kernel_rfl) rfl ?_
  (refine DO.loadL (k := 0) tab 13 0 (by repeat (first|exact Calm.ret|refine Calm.then ?_)) (by kernel_rfl) (by kernel_rfl) rfl rfl rfl rfl rfl rfl rfl rfl ?_)
  refine DO.run 11 rfl rfl (by kernel_rfl) rfl (OT.call rfl rfl rfl rfl rfl rfl goes20 ((known_law a _ _ s l hs hS h hr hB).x ?_))
  rintro _ _ _ ⟨rfl, rfl, rfl⟩; refine ⟨Mem.le_refl _, _, List.Perm.refl _, ?_⟩
  refine DO.run 14 rfl rfl (by kernel_rfl) rfl (OT.call rfl rfl rfl rfl rfl rfl goes21 ((known_def a _ _ s l hs hS h hr hB).x ?_))
  rintro _ _ _ ⟨rfl, rfl, rfl⟩; refine ⟨Mem.le_refl _, _, List.Perm.refl _, ?_⟩
  refine DO.run 15 rfl rfl (by kernel_rfl) rfl ?_; refine OT.eqBool tab rfl rfl rfl rfl rfl rfl ?_; rw [beq_self_eq_true]; refine ⟨Mem.le_refl _, _, List.Perm.refl _, ?_⟩
  refine DO.pure tab (by repeat (first|exact Calm.ret|refine Calm.then ?_)) (by kernel_rfl) [16, 17] (by kernel_rfl) rfl ?_
  (refine DO.nil0 (by kernel_rfl) ?_)
  rotate_left 1
  refine thenQ_n ?_
  repeat (refine q15 ?_)
  refine retQ_ret rfl (by repeat (first|exact List.Sublist.refl _|refine List.Sublist.cons _ ?_)) ⟨rfl, rfl, ?_⟩
  rfl
end Go.Sep

/-
  The walks of Assignable and Comparable.
-/
set_option linter.unusedVariables false
set_option linter.unusedSimpArgs false
namespace Go.Sep
open Go.Proofs
attribute [local irreducible] TC TO OT TCallX TCall DO DOt thenQ blockQ retQ At

def kid0 (t : Tree) : Tree := t.kids.headD zeroT
theorem sound_kids {a : Tree} (h : a.sound = true) (h5 : a.kind = 5) : a.kids.length = 1 := by
  have := sound_formed h
  rw [formed_eq, Bool.and_eq_true, Bool.and_eq_true, kindB_5 (.inl h5)] at this
  exact of_decide_eq_true this.2.2
theorem sound_kind {a : Tree} (h : a.sound = true) : 1 ≤ a.kind ∧ a.kind ≤ 8 := by
  have := sound_formed h
  rw [formed_eq, Bool.and_eq_true, Bool.and_eq_true] at this
  have hk := this.2.2
  unfold kindB at hk
  split at hk
  · omega
  split at hk
  · omega
  split at hk
  · omega
  split at hk
  · omega
  · cases hk
theorem one_kid {a : Tree} (h : a.kids.length = 1) : a.kids = [kid0 a] := by
  unfold kid0
  match hk : a.kids, h with
  | [k], _ => rfl
theorem toStruct_kid {l : List Decl} {a : Tree} (h : a.kids.length = 1) : toStructD l a = (decide (a.kind = 5) && isStructD l (kid0 a)) := by
  rw [toStructD, one_kid h]

def tassignB (l : List Decl) (a b : Tree) : Bool := tknown (hasD l) b && (if a.kind = 8 then nilableD l b else (teq a b || (isIfaceD l b && (toStructD l a && hasMD l (kid0 a).name b.name))))

set_option maxHeartbeats 1600000 in
theorem tassign_law (a c : Tree) (hkid : a.kind = 5 → a.kids.length = 1) (bt cc : Nat) (es : Ents Str) (l : List Decl) (m : Mem) (L : List Item) (h g : HTree) (hr : TreeRep m h a) (gr : TreeRep m g c) (ho : m.o bt = some (mapO kStr es cc)) (hT : TblRep m es l) :
    TCall Try.prog 58 ⟨[.map (some bt), treeV h, treeV g]⟩ m L (Ret (.bool (tassignB l a c)) m L) := by
  obtain ⟨h1, h2, h3, h4⟩ := id hr
  have g2 := gr.name
  unfold TCall
  refine TCallX.enter Try.func58 rfl 50 rfl ?_
  unfold tassignB
  rw [← h1, ← g2]
  repeat (first|refine q1 ?_|refine q3 ?_)
  refine TO.step rfl (OT.box rfl rfl rfl rfl rfl (fun b => ?_))
  skip
  refine TO.step rfl (OT.box rfl rfl rfl rfl rfl (fun b2 => ?_))
  repeat (first|(first|refine q1 ?_|refine q2 ?_|refine q3 ?_|refine q4 tab rfl rfl ?_|refine q5 ?_|refine q6 ?_)|(refine qs rfl (qz tab 0 rfl rfl rfl rfl rfl rfl ?_)))
  refine TO.step rfl (OT.call rfl rfl rfl rfl rfl rfl goes49 ((tknown_law bt cc es hT.ok c _ _ g gr ho).x ?_));
  rintro _ _ _ ⟨rfl, rfl, rfl⟩
  rw [hT.hasF]
  repeat (first|refine q4 tab rfl rfl ?_|refine q5 ?_|refine q6 ?_)
  refine TC.cond (t := !tknown (hasD l) c) rfl (fun e1 => ?_) (fun e1 => ?_)
  · rw [Bool.not_eq_true'] at e1
    repeat (first|refine q1 ?_|refine q3 ?_|refine q4 tab rfl rfl ?_|refine q5 ?_|refine q6 ?_|refine q8 ?_|refine q9 ?_|refine q15 ?_)
    refine retQ_ret rfl (by repeat (first|exact List.Sublist.refl _|refine List.Sublist.cons _ ?_)) ⟨rfl, rfl, ?_⟩
    rw [e1]; rfl
  · rw [Bool.not_eq_false'] at e1
    repeat (first|(first|refine q1 ?_|refine q3 ?_|refine q4 tab rfl rfl ?_|refine q5 ?_|refine q6 ?_)|(refine qs rfl (ql tab 1 rfl rfl rfl rfl rfl rfl ?_)))
    refine TC.condP rfl (fun e2 => ?_) (fun e2 => ?_)
    · repeat (first|(first|refine q1 ?_|refine q3 ?_|refine q4 tab rfl rfl ?_)|(refine qs rfl (qz tab 0 rfl rfl rfl rfl rfl rfl ?_)))
      refine TO.step rfl (OT.call rfl rfl rfl rfl rfl rfl goes94 ((nilable_law c bt cc es l _ _ g gr ho hT).x ?_));
      rintro _ _ _ ⟨rfl, rfl, rfl⟩
      repeat (first|refine q4 tab rfl rfl ?_|refine q5 ?_|refine q6 ?_|refine q8 ?_|refine q9 ?_|refine q15 ?_)
      refine retQ_ret rfl (by repeat (first|exact List.Sublist.refl _|refine List.Sublist.cons _ ?_)) ⟨rfl, rfl, ?_⟩
      rw [e1, if_pos e2]; rfl
    · repeat (first|(first|refine q1 ?_|refine q3 ?_)|(first|refine qs rfl (qz tab 0 rfl rfl rfl rfl rfl rfl ?_)|refine qs rfl (qz tab 1 rfl rfl rfl rfl rfl rfl ?_)))
      refine TO.step rfl (OT.call rfl rfl rfl rfl rfl rfl goes41 ((equal_law a c _ _ h g hr gr).x ?_));
      rintro _ _ _ ⟨rfl, rfl, rfl⟩
      repeat (first|refine q4 tab rfl rfl ?_|refine q5 ?_|refine q6 ?_)
      refine TC.cond (t := teq a c) rfl (fun e3 => ?_) (fun e3 => ?_)
      · repeat (first|refine q1 ?_|refine q3 ?_|refine q4 tab rfl rfl ?_|refine q5 ?_|refine q6 ?_|refine q8 ?_|refine q9 ?_|refine q15 ?_)
        refine retQ_ret rfl (by repeat (first|exact List.Sublist.refl _|refine List.Sublist.cons _ ?_)) ⟨rfl, rfl, ?_⟩
        rw [e1, if_neg e2, e3]; rfl
      · rw [e1, if_neg e2, e3]
        have hx0 : a.kind = 5 → a.kids[0]? = some (kid0 a) := fun e => by rw [one_kid (hkid e)]; rfl
        have hts : a.kind = 5 → toStructD l a = isStructD l (kid0 a) := fun e => by rw [toStruct_kid (hkid e), decide_eq_true e]; rfl
        repeat (first|refine q1 ?_|refine q6 ?_|refine q7 ?_|refine q13 ?_)
        refine TC.draw0 [] mixed 28 rfl ?_
        refine DO.pure tab (by repeat (first|exact Calm.ret|refine Calm.then ?_)) (by kernel_rfl) [0] (by kernel_rfl) rfl ?_
        (refine DO.loadL (k := 0) tab 1 0 (by repeat (first|exact Calm.ret|refine Calm.then ?_)) (by kernel_rfl) (by kernel_rfl) rfl rfl rfl rfl rfl rfl rfl rfl ?_)
        refine DO.run 2 rfl rfl (by kernel_rfl) rfl (OT.call rfl rfl rfl rfl rfl rfl goes95 ((tiface_law c bt cc es l _ _ g gr ho hT).x ?_))
        rintro _ _ _ ⟨rfl, rfl, rfl⟩; refine ⟨Mem.le_refl _, _, List.Perm.refl _, ?_⟩
        refine DO.pure tab (by repeat (first|exact Calm.ret|refine Calm.then ?_)) (by kernel_rfl) [3] (by kernel_rfl) rfl ?_
        (refine DO.split (d := 26) rfl (fun hg3 => ?_) (fun hg3 => ?_))
        refine DO.pure tab (by repeat (first|exact Calm.ret|refine Calm.then ?_)) (by kernel_rfl) [4] (by kernel_rfl) rfl ?_
        (refine DO.loadL tab 5 1 (by repeat (first|exact Calm.ret|refine Calm.then ?_)) (by kernel_rfl) (by kernel_rfl) rfl rfl rfl rfl rfl rfl rfl rfl ?_)
        refine DO.pure tab (by repeat (first|exact Calm.ret|refine Calm.then ?_)) (by kernel_rfl) [6, 7, 8] (by kernel_rfl) rfl ?_
        (refine DO.splitP (d := 31) rfl (fun hg8 => ?_) (fun hg8 => ?_))
        refine DO.pure tab (by repeat (first|exact Calm.ret|refine Calm.then ?_)) (by kernel_rfl) [9, 10] (by kernel_rfl) rfl ?_
        (refine DO.loadL tab 11 1 (by repeat (first|exact Calm.ret|refine Calm.then ?_)) (by kernel_rfl) (by kernel_rfl) rfl rfl rfl rfl rfl rfl rfl rfl ?_)
        refine DO.index tab rTree 12 0 h4 (by repeat (first|exact Calm.ret|refine Calm.then ?_)) (by kernel_rfl) (by kernel_rfl) rfl rfl rfl rfl rfl rfl rfl (by first | rfl | omega) rfl (hx0 (h1.symm.trans hg8)) ?_
        rintro b' i' h' hrd hA
        (refine DO.loadA (k := 0) tab 13 hA (by repeat (first|exact Calm.ret|refine Calm.then ?_)) (by kernel_rfl) (by kernel_rfl) rfl rfl rfl rfl rfl rfl rfl ?_)
        refine DO.run 14 rfl rfl (by kernel_rfl) rfl (OT.call rfl rfl rfl rfl rfl rfl goes50 ((tstruct_law (kid0 a) bt cc es l _ _ h' (rTree_iff.1 hrd) ho hT).x ?_))
        rintro _ _ _ ⟨rfl, rfl, rfl⟩; refine ⟨Mem.le_refl _, _, List.Perm.refl _, ?_⟩
        refine DO.pure tab (by repeat (first|exact Calm.ret|refine Calm.then ?_)) (by kernel_rfl) [15, 16] (by kernel_rfl) rfl ?_
        (refine DO.split (d := 39) rfl (fun hg16 => ?_) (fun hg16 => ?_))
        refine DO.pure tab (by repeat (first|exact Calm.ret|refine Calm.then ?_)) (by kernel_rfl) [17, 18] (by kernel_rfl) rfl ?_
        (refine DO.loadL tab 19 1 (by repeat (first|exact Calm.ret|refine Calm.then ?_)) (by kernel_rfl) (by kernel_rfl) rfl rfl rfl rfl rfl rfl rfl rfl ?_)
        refine DO.index tab rTree 20 0 h4 (by repeat (first|exact Calm.ret|refine Calm.then ?_)) (by kernel_rfl) (by kernel_rfl) rfl rfl rfl rfl rfl rfl rfl (by first | rfl | omega) rfl (hx0 (h1.symm.trans hg8)) ?_
        rintro b3 i3 h3' hrd3 hA3; have hn3 := (rTree_iff.1 hrd3).name
        refine DO.pure tab (by repeat (first|exact Calm.ret|refine Calm.then ?_)) (by kernel_rfl) [21] (by kernel_rfl) rfl ?_
        (refine DO.loadA tab 22 hA3 (by repeat (first|exact Calm.ret|refine Calm.then ?_)) (by kernel_rfl) (by kernel_rfl) rfl rfl rfl rfl rfl rfl rfl ?_)
        refine DO.pure tab (by repeat (first|exact Calm.ret|refine Calm.then ?_)) (by kernel_rfl) [23] (by kernel_rfl) rfl ?_
        (refine DO.loadL tab 24 0 (by repeat (first|exact Calm.ret|refine Calm.then ?_)) (by kernel_rfl) (by kernel_rfl) rfl rfl rfl rfl rfl rfl rfl rfl ?_)
        refine DO.run 25 rfl rfl (by kernel_rfl) rfl (OT.call rfl rfl rfl rfl rfl rfl goes96 ((has_law h3'.name g.name bt cc es l _ _ ho hT).x ?_))
        rintro _ _ _ ⟨rfl, rfl, rfl⟩; refine ⟨Mem.le_refl _, _, List.Perm.refl _, ?_⟩
        refine DO.pure tab (by repeat (first|exact Calm.ret|refine Calm.then ?_)) (by kernel_rfl) [26, 27] (by kernel_rfl) rfl ?_
        (refine DO.nil0 (by kernel_rfl) ?_)
        rotate_left 1
        refine DO.pure tab (by repeat (first|exact Calm.ret|refine Calm.then ?_)) (by kernel_rfl) [17, 18, 19, 20, 21, 22, 23, 24, 25, 26, 27] (by kernel_rfl) rfl ?_
        (refine DO.nil0 (by kernel_rfl) ?_)
        rotate_left 1
        refine DO.pure tab (by repeat (first|exact Calm.ret|refine Calm.then ?_)) (by kernel_rfl) [9, 10, 11, 12, 13, 14, 15, 16, 17, 18, 19, 20, 21, 22, 23, 24, 25, 26, 27] (by kernel_rfl) rfl ?_
        (refine DO.nil0 (by kernel_rfl) ?_)
        rotate_left 1
        refine DO.pure tab (by repeat (first|exact Calm.ret|refine Calm.then ?_)) (by kernel_rfl) [4, 5, 6, 7, 8, 9, 10, 11, 12, 13, 14, 15, 16, 17, 18, 19, 20, 21, 22, 23, 24, 25, 26, 27] (by kernel_rfl) rfl ?_
        (refine DO.nil0 (by kernel_rfl) ?_)
        rotate_left 1
        · refine thenQ_n ?_
          repeat (refine q15 ?_)
          refine retQ_ret rfl (by repeat (first|exact List.Sublist.refl _|refine List.Sublist.cons _ ?_)) ⟨rfl, rfl, ?_⟩
          rw [hg3, hts (h1.symm.trans hg8), hg16, hn3]; rfl
        · refine thenQ_n ?_
          repeat (refine q15 ?_)
          refine retQ_ret rfl (by repeat (first|exact List.Sublist.refl _|refine List.Sublist.cons _ ?_)) ⟨rfl, rfl, ?_⟩
          rw [hg3, hts (h1.symm.trans hg8), hg16]; rfl
        · refine thenQ_n ?_
          repeat (refine q15 ?_)
          refine retQ_ret rfl (by repeat (first|exact List.Sublist.refl _|refine List.Sublist.cons _ ?_)) ⟨rfl, rfl, ?_⟩
          have : toStructD l a = false := by rw [toStructD, decide_eq_false (fun e => hg8 (h1.trans e))]; rfl
          rw [hg3, this]; rfl
        · refine thenQ_n ?_
          repeat (refine q15 ?_)
          refine retQ_ret rfl (by repeat (first|exact List.Sublist.refl _|refine List.Sublist.cons _ ?_)) ⟨rfl, rfl, ?_⟩
          rw [hg3]; rfl

def assignB (l : List Decl) (a b : Tree) : Bool := okD l [a, b] && (tassignB l a b && (decide (a.kind = 8) || tknown (hasD l) a))
theorem okD_two {l : List Decl} {a b : Tree} : okD l [a, b] = (decide (soundE l = 0) && (a.sound && b.sound)) := by simp [okD]

set_option maxHeartbeats 1600000 in
theorem assign_law (a c : Tree) (m : Mem) (L : List Item) (s : Sl) (l : List Decl) (hs : SlRep rDecl m s l) (hS : TblS l) (h g : HTree) (hr : TreeRep m h a) (gr : TreeRep m g c) (hB : a.bulk ≤ 1048576) (gB : c.bulk ≤ 1048576) : TCall Try.prog 22 ⟨[s.v, treeV h, treeV g]⟩ m L (Ret (.bool (assignB l a c)) m L) := by
  have h1 := hr.kind
  refine TCall.forget ?_
  unfold TCall
  refine TCallX.enter Try.func22 rfl 31 rfl ?_
  repeat (first|refine q1 ?_|refine q3 ?_)
  refine TO.step rfl (OT.box rfl rfl rfl rfl rfl (fun b => ?_))
  skip
  refine TO.step rfl (OT.box rfl rfl rfl rfl rfl (fun b2 => ?_))
  repeat (first|(first|refine q1 ?_|refine q3 ?_|refine q4 tab rfl rfl ?_|refine q5 ?_|refine q6 ?_)|(first|refine qs rfl (qz tab 0 rfl rfl rfl rfl rfl rfl ?_)|refine qs rfl (qz tab 1 rfl rfl rfl rfl rfl rfl ?_)))
  refine TO.step rfl (OT.lit tab rfl rfl rfl rfl (fun b3 => ?_))
  refine TO.freeze fun m1 hm1 hA1 => ?_
  skip
  refine TO.step rfl (OT.call rfl rfl rfl rfl rfl rfl goes56 ((open_law m1 _ s l (hs.mono hm1) hS _ [a, c] (slT2 (h := h) (h' := g) hA1 (hr.mono hm1) (gr.mono hm1)) (fun x hx => by simp only [List.mem_cons, List.not_mem_nil, or_false] at hx; rcases hx with rfl | rfl; exact hB; exact gB)).x ?_));
  rintro _ m2 _ ⟨hm2, rfl, ⟨ok, bt, es, cc, rfl, ho, hT⟩ | ⟨ok, rfl⟩⟩
  · have hm := Mem.le_trans hm1 hm2
    have hok := ok
    rw [okD_two, Bool.and_eq_true, Bool.and_eq_true] at hok
    repeat (first|refine q1 ?_|refine q3 ?_|refine q4 tab rfl rfl ?_|refine q5 ?_|refine q6 ?_)
    refine TO.step rfl (OT.mapNe tab kStr (r := some bt) rfl rfl rfl rfl rfl rfl ?_)
    repeat (first|(refine q4 tab rfl rfl ?_)|(first|refine qs rfl (qz tab 0 rfl rfl rfl rfl rfl rfl ?_)|refine qs rfl (qz tab 1 rfl rfl rfl rfl rfl rfl ?_)))
    refine TO.step rfl (OT.call rfl rfl rfl rfl rfl rfl goes58 ((tassign_law a c (sound_kids hok.2.1) bt cc es l m2 _ h g (hr.mono hm) (gr.mono hm) ho hT).x ?_));
    rintro _ _ _ ⟨rfl, rfl, rfl⟩
    repeat (refine q4 tab rfl rfl ?_)
    refine TO.split (b := tassignB l a c) rfl rfl (fun e1 => ?_) (fun e1 => ?_)
    · repeat (first|(refine q4 tab rfl rfl ?_)|(refine qs rfl (ql tab 1 rfl rfl rfl rfl rfl rfl ?_)))
      (refine TO.splitP rfl rfl (fun e2 => ?_) (fun e2 => ?_))
      · repeat (first|refine q4 tab rfl rfl ?_|refine q5 ?_|refine q6 ?_|refine q15 ?_)
        refine retQ_ret rfl (by repeat (first|exact List.Sublist.refl _|refine List.Sublist.cons _ ?_)) ⟨hm, rfl, ?_⟩
        rw [assignB, ok, e1, ← h1, decide_eq_true e2]; rfl
      · repeat (first|(refine q4 tab rfl rfl ?_)|(refine qs rfl (qz tab 1 rfl rfl rfl rfl rfl rfl ?_)))
        refine TO.step rfl (OT.call rfl rfl rfl rfl rfl rfl goes49 ((tknown_law bt cc es hT.ok a _ _ h (hr.mono hm) ho).x ?_));
        rintro _ _ _ ⟨rfl, rfl, rfl⟩
        rw [hT.hasF]
        repeat (first|refine q4 tab rfl rfl ?_|refine q5 ?_|refine q6 ?_|refine q15 ?_)
        refine retQ_ret rfl (by repeat (first|exact List.Sublist.refl _|refine List.Sublist.cons _ ?_)) ⟨hm, rfl, ?_⟩
        rw [assignB, ok, e1, ← h1, decide_eq_false e2]; rfl
    · repeat (first|refine q4 tab rfl rfl ?_|refine q5 ?_|refine q6 ?_|refine q15 ?_)
      refine retQ_ret rfl (by repeat (first|exact List.Sublist.refl _|refine List.Sublist.cons _ ?_)) ⟨hm, rfl, ?_⟩
      rw [assignB, ok, e1]; rfl
  · repeat (first|refine q1 ?_|refine q3 ?_|refine q4 tab rfl rfl ?_|refine q5 ?_|refine q6 ?_)
    refine TO.step rfl (OT.mapNe tab kStr (r := none) rfl rfl rfl rfl rfl rfl ?_)
    repeat ((first|refine q4 tab rfl rfl ?_|refine q5 ?_|refine q6 ?_|refine q15 ?_))
    refine retQ_ret rfl (by repeat (first|exact List.Sublist.refl _|refine List.Sublist.cons _ ?_)) ⟨Mem.le_trans hm1 hm2, rfl, ?_⟩
    rw [assignB, ok]; rfl

def simpleD (l : List Decl) (a : Tree) : Bool := decide (a.kind ≤ 3) || (decide (a.kind = 5) || isIfaceD l a)
def tcompB (l : List Decl) (a b : Tree) : Bool :=
  if a.kind = 8 then !decide (b.kind = 8) && (tknown (hasD l) b && nilableD l b) else if b.kind = 8 then tknown (hasD l) a && nilableD l a
  else (teq a b && tknown (hasD l) a) && simpleD l a
def compB (l : List Decl) (a b : Tree) : Bool := okD l [a, b] && tcompB l a b

set_option maxHeartbeats 1600000 in
theorem tcomp_law (a c : Tree) (bt cc : Nat) (es : Ents Str) (l : List Decl) (m : Mem) (L : List Item) (h g : HTree) (hr : TreeRep m h a) (gr : TreeRep m g c) (ho : m.o bt = some (mapO kStr es cc)) (hT : TblRep m es l) :
    TCall Try.prog 60 ⟨[.map (some bt), treeV h, treeV g]⟩ m L (Ret (.bool (tcompB l a c)) m L) := by
  have h1 := hr.kind
  have g1 := gr.kind
  unfold TCall
  refine TCallX.enter Try.func60 rfl 60 rfl ?_
  unfold tcompB simpleD
  rw [← h1, ← g1]
  repeat (first|refine q1 ?_|refine q3 ?_)
  refine TO.step rfl (OT.box rfl rfl rfl rfl rfl (fun b => ?_))
  skip
  refine TO.step rfl (OT.box rfl rfl rfl rfl rfl (fun b2 => ?_))
  repeat (first|(first|refine q1 ?_|refine q2 ?_|refine q3 ?_|refine q4 tab rfl rfl ?_|refine q5 ?_|refine q6 ?_)|(refine qs rfl (ql tab 1 rfl rfl rfl rfl rfl rfl ?_)))
  refine TC.condP rfl (fun e1 => ?_) (fun e1 => ?_)
  · rw [if_pos e1]
    repeat (first|(first|refine q1 ?_|refine q3 ?_|refine q4 tab rfl rfl ?_)|(refine qs rfl (ql tab 0 rfl rfl rfl rfl rfl rfl ?_)))
    (refine TO.splitN rfl rfl (fun e2 => ?_) (fun e2 => ?_))
    · repeat (first|(refine q4 tab rfl rfl ?_)|(refine qs rfl (qz tab 0 rfl rfl rfl rfl rfl rfl ?_)))
      refine TO.step rfl (OT.call rfl rfl rfl rfl rfl rfl goes49 ((tknown_law bt cc es hT.ok c _ _ g gr ho).x ?_));
      rintro _ _ _ ⟨rfl, rfl, rfl⟩
      rw [hT.hasF]
      repeat (refine q4 tab rfl rfl ?_)
      refine TO.split (b := tknown (hasD l) c) rfl rfl (fun e3 => ?_) (fun e3 => ?_)
      · repeat (first|(refine q4 tab rfl rfl ?_)|(refine qs rfl (qz tab 0 rfl rfl rfl rfl rfl rfl ?_)))
        refine TO.step rfl (OT.call rfl rfl rfl rfl rfl rfl goes94 ((nilable_law c bt cc es l _ _ g gr ho hT).x ?_));
        rintro _ _ _ ⟨rfl, rfl, rfl⟩
        repeat (first|refine q4 tab rfl rfl ?_|refine q5 ?_|refine q6 ?_|refine q8 ?_|refine q9 ?_|refine q15 ?_)
        refine retQ_ret rfl (by repeat (first|exact List.Sublist.refl _|refine List.Sublist.cons _ ?_)) ⟨rfl, rfl, ?_⟩
        rw [decide_eq_false e2, e3]; rfl
      · repeat (first|refine q4 tab rfl rfl ?_|refine q5 ?_|refine q6 ?_|refine q8 ?_|refine q9 ?_|refine q15 ?_)
        refine retQ_ret rfl (by repeat (first|exact List.Sublist.refl _|refine List.Sublist.cons _ ?_)) ⟨rfl, rfl, ?_⟩
        rw [decide_eq_false e2, e3]; rfl
    · repeat (first|refine q4 tab rfl rfl ?_|refine q5 ?_|refine q6 ?_|refine q8 ?_|refine q9 ?_|refine q15 ?_)
      refine retQ_ret rfl (by repeat (first|exact List.Sublist.refl _|refine List.Sublist.cons _ ?_)) ⟨rfl, rfl, ?_⟩
      rw [decide_eq_true e2]; rfl
  · rw [if_neg e1]
    repeat (first|(first|refine q1 ?_|refine q3 ?_|refine q4 tab rfl rfl ?_|refine q5 ?_|refine q6 ?_)|(refine qs rfl (ql tab 0 rfl rfl rfl rfl rfl rfl ?_)))
    refine TC.condP rfl (fun e2 => ?_) (fun e2 => ?_)
    · rw [if_pos e2]
      repeat (first|(first|refine q1 ?_|refine q3 ?_|refine q4 tab rfl rfl ?_)|(refine qs rfl (qz tab 1 rfl rfl rfl rfl rfl rfl ?_)))
      refine TO.step rfl (OT.call rfl rfl rfl rfl rfl rfl goes49 ((tknown_law bt cc es hT.ok a _ _ h hr ho).x ?_));
      rintro _ _ _ ⟨rfl, rfl, rfl⟩
      rw [hT.hasF]
      repeat (refine q4 tab rfl rfl ?_)
      refine TO.split (b := tknown (hasD l) a) rfl rfl (fun e3 => ?_) (fun e3 => ?_)
      · repeat (first|(refine q4 tab rfl rfl ?_)|(refine qs rfl (qz tab 1 rfl rfl rfl rfl rfl rfl ?_)))
        refine TO.step rfl (OT.call rfl rfl rfl rfl rfl rfl goes94 ((nilable_law a bt cc es l _ _ h hr ho hT).x ?_));
        rintro _ _ _ ⟨rfl, rfl, rfl⟩
        repeat (first|refine q4 tab rfl rfl ?_|refine q5 ?_|refine q6 ?_|refine q8 ?_|refine q9 ?_|refine q15 ?_)
        refine retQ_ret rfl (by repeat (first|exact List.Sublist.refl _|refine List.Sublist.cons _ ?_)) ⟨rfl, rfl, ?_⟩
        rw [e3]; rfl
      · repeat (first|refine q4 tab rfl rfl ?_|refine q5 ?_|refine q6 ?_|refine q8 ?_|refine q9 ?_|refine q15 ?_)
        refine retQ_ret rfl (by repeat (first|exact List.Sublist.refl _|refine List.Sublist.cons _ ?_)) ⟨rfl, rfl, ?_⟩
        rw [e3]; rfl
    · rw [if_neg e2]
      repeat (first|(first|refine q1 ?_|refine q3 ?_)|(first|refine qs rfl (qz tab 0 rfl rfl rfl rfl rfl rfl ?_)|refine qs rfl (qz tab 1 rfl rfl rfl rfl rfl rfl ?_)))
      refine TO.step rfl (OT.call rfl rfl rfl rfl rfl rfl goes41 ((equal_law a c _ _ h g hr gr).x ?_));
      rintro _ _ _ ⟨rfl, rfl, rfl⟩
      repeat (refine q4 tab rfl rfl ?_)
      refine TO.split (b := !teq a c) rfl rfl (fun e3 => ?_) (fun e3 => ?_)
      · rw [Bool.not_eq_true'] at e3
        repeat (first|refine q1 ?_|refine q3 ?_|refine q4 tab rfl rfl ?_|refine q5 ?_|refine q6 ?_|refine q8 ?_|refine q9 ?_|refine q15 ?_|refine q16 rfl ?_)
        refine retQ_ret rfl (by repeat (first|exact List.Sublist.refl _|refine List.Sublist.cons _ ?_)) ⟨rfl, rfl, ?_⟩
        rw [e3]; rfl
      · rw [Bool.not_eq_false'] at e3
        repeat (first|(refine q4 tab rfl rfl ?_)|(refine qs rfl (qz tab 1 rfl rfl rfl rfl rfl rfl ?_)))
        refine TO.step rfl (OT.call rfl rfl rfl rfl rfl rfl goes49 ((tknown_law bt cc es hT.ok a _ _ h hr ho).x ?_));
        rintro _ _ _ ⟨rfl, rfl, rfl⟩
        rw [hT.hasF]
        repeat (first|refine q4 tab rfl rfl ?_|refine q5 ?_|refine q6 ?_)
        refine TC.cond (t := !tknown (hasD l) a) rfl (fun e4 => ?_) (fun e4 => ?_)
        · rw [Bool.not_eq_true'] at e4
          repeat (first|refine q1 ?_|refine q3 ?_|refine q4 tab rfl rfl ?_|refine q5 ?_|refine q6 ?_|refine q8 ?_|refine q9 ?_|refine q15 ?_)
          refine retQ_ret rfl (by repeat (first|exact List.Sublist.refl _|refine List.Sublist.cons _ ?_)) ⟨rfl, rfl, ?_⟩
          rw [e3, e4]; rfl
        · rw [Bool.not_eq_false'] at e4
          repeat (first|(first|refine q1 ?_|refine q3 ?_|refine q4 tab rfl rfl ?_|refine q6 ?_|refine q7 ?_|refine q13 ?_)|(refine qs rfl (ql tab 1 rfl rfl rfl rfl rfl rfl ?_)))
          (refine TO.splitP rfl rfl (fun e5 => ?_) (fun e5 => ?_))
          · repeat (first|refine q4 tab rfl rfl ?_|refine q5 ?_|refine q6 ?_|refine q15 ?_)
            refine retQ_ret rfl (by repeat (first|exact List.Sublist.refl _|refine List.Sublist.cons _ ?_)) ⟨rfl, rfl, ?_⟩
            rw [e3, e4, decide_eq_true e5]; rfl
          · repeat (first|(refine q4 tab rfl rfl ?_)|(refine qs rfl (ql tab 1 rfl rfl rfl rfl rfl rfl ?_)))
            (refine TO.splitP rfl rfl (fun e6 => ?_) (fun e6 => ?_))
            · repeat (first|refine q4 tab rfl rfl ?_|refine q5 ?_|refine q6 ?_|refine q15 ?_)
              refine retQ_ret rfl (by repeat (first|exact List.Sublist.refl _|refine List.Sublist.cons _ ?_)) ⟨rfl, rfl, ?_⟩
              rw [e3, e4, decide_eq_true e6, decide_eq_false e5]; rfl
            · repeat (first|(refine q4 tab rfl rfl ?_)|(refine qs rfl (qz tab 1 rfl rfl rfl rfl rfl rfl ?_)))
              refine TO.step rfl (OT.call rfl rfl rfl rfl rfl rfl goes95 ((tiface_law a bt cc es l _ _ h hr ho hT).x ?_));
              rintro _ _ _ ⟨rfl, rfl, rfl⟩
              repeat (first|refine q4 tab rfl rfl ?_|refine q5 ?_|refine q6 ?_|refine q15 ?_)
              refine retQ_ret rfl (by repeat (first|exact List.Sublist.refl _|refine List.Sublist.cons _ ?_)) ⟨rfl, rfl, ?_⟩
              rw [e3, e4, decide_eq_false e5, decide_eq_false e6]; rfl

set_option maxHeartbeats 1600000 in
theorem comp_law (a c : Tree) (m : Mem) (L : List Item) (s : Sl) (l : List Decl) (hs : SlRep rDecl m s l) (hS : TblS l) (h g : HTree) (hr : TreeRep m h a) (gr : TreeRep m g c) (hB : a.bulk ≤ 1048576) (gB : c.bulk ≤ 1048576) : TCall Try.prog 24 ⟨[s.v, treeV h, treeV g]⟩ m L (Ret (.bool (compB l a c)) m L) := by
  refine TCall.forget ?_
  unfold TCall
  refine TCallX.enter Try.func24 rfl 21 rfl ?_
  repeat (first|refine q1 ?_|refine q3 ?_)
  refine TO.step rfl (OT.box rfl rfl rfl rfl rfl (fun b => ?_))
  skip
  refine TO.step rfl (OT.box rfl rfl rfl rfl rfl (fun b2 => ?_))
  repeat (first|(first|refine q1 ?_|refine q3 ?_|refine q4 tab rfl rfl ?_|refine q5 ?_|refine q6 ?_)|(first|refine qs rfl (qz tab 0 rfl rfl rfl rfl rfl rfl ?_)|refine qs rfl (qz tab 1 rfl rfl rfl rfl rfl rfl ?_)))
  refine TO.step rfl (OT.lit tab rfl rfl rfl rfl (fun b3 => ?_))
  refine TO.freeze fun m1 hm1 hA1 => ?_
  skip
  refine TO.step rfl (OT.call rfl rfl rfl rfl rfl rfl goes56 ((open_law m1 _ s l (hs.mono hm1) hS _ [a, c] (slT2 (h := h) (h' := g) hA1 (hr.mono hm1) (gr.mono hm1)) (fun x hx => by simp only [List.mem_cons, List.not_mem_nil, or_false] at hx; rcases hx with rfl | rfl; exact hB; exact gB)).x ?_));
  rintro _ m2 _ ⟨hm2, rfl, ⟨ok, bt, es, cc, rfl, ho, hT⟩ | ⟨ok, rfl⟩⟩
  · have hm := Mem.le_trans hm1 hm2
    repeat (first|refine q1 ?_|refine q3 ?_|refine q4 tab rfl rfl ?_|refine q5 ?_|refine q6 ?_)
    refine TO.step rfl (OT.mapNe tab kStr (r := some bt) rfl rfl rfl rfl rfl rfl ?_)
    repeat (first|(refine q4 tab rfl rfl ?_)|(first|refine qs rfl (qz tab 0 rfl rfl rfl rfl rfl rfl ?_)|refine qs rfl (qz tab 1 rfl rfl rfl rfl rfl rfl ?_)))
    refine TO.step rfl (OT.call rfl rfl rfl rfl rfl rfl goes60 ((tcomp_law a c bt cc es l m2 _ h g (hr.mono hm) (gr.mono hm) ho hT).x ?_));
    rintro _ _ _ ⟨rfl, rfl, rfl⟩
    repeat (first|refine q4 tab rfl rfl ?_|refine q5 ?_|refine q6 ?_|refine q15 ?_)
    refine retQ_ret rfl (by repeat (first|exact List.Sublist.refl _|refine List.Sublist.cons _ ?_)) ⟨hm, rfl, ?_⟩
    rw [compB, ok]; rfl
  · repeat (first|refine q1 ?_|refine q3 ?_|refine q4 tab rfl rfl ?_|refine q5 ?_|refine q6 ?_)
    refine TO.step rfl (OT.mapNe tab kStr (r := none) rfl rfl rfl rfl rfl rfl ?_)
    repeat ((first|refine q4 tab rfl rfl ?_|refine q5 ?_|refine q6 ?_|refine q15 ?_))
    refine retQ_ret rfl (by repeat (first|exact List.Sublist.refl _|refine List.Sublist.cons _ ?_)) ⟨Mem.le_trans hm1 hm2, rfl, ?_⟩
    rw [compB, ok]; rfl
end Go.Sep

/-
  The walks of the document's Assignable and Comparable.
-/
set_option linter.unusedVariables false
set_option linter.unusedSimpArgs false
namespace Go.Sep
open Go.Proofs
attribute [local irreducible] TC TO OT TCallX TCall DO DOt thenQ blockQ retQ At

def ofD (l : List Decl) (a : Tree) : Tree := if toStructD l a = true then kid0 a else a
def methodsD (l : List Decl) (a : Tree) : List Fld := if (decide ((ofD l a).kind = 4) && hasD l (ofD l a).name) = true then (theD l (ofD l a).name).methods else []

set_option maxHeartbeats 1600000 in
theorem methodOf_ref (a : Tree) (hkid : a.kind = 5 → a.kids.length = 1) (n : Str) (m : Mem) (L : List Item) (s : Sl) (l : List Decl) (hs : SlRep rDecl m s l) (h : HTree) (hr : TreeRep m h a) : TCall Try.prog 64 ⟨[s.v, treeV h, strV n]⟩ m L (MadeM m L (methodsD l a) n) := by
  obtain ⟨h1, h2, h3, h4⟩ := id hr
  unfold TCall
  refine TCallX.enter Try.func64 rfl 38 rfl ?_
  repeat (first|refine q1 ?_|refine q3 ?_)
  refine TO.step rfl (OT.box rfl rfl rfl rfl rfl (fun b => ?_))
  skip
  refine TO.step rfl (OT.alloc tab rfl rfl rfl rfl (fun b6 => ?_))
  refine TO.pureP tab rfl rfl ?_
  refine TO.nil ?_
  refine thenQ_n ?_
  refine TC.seq ?_
  refine TC.cutT (ι := HTree) [0, 2, 4, 6] rfl (fun _ => []) (fun _ => m) (fun x => .cells b6 0 (treeC ⟨0, [], 0, ⟨none, 0, 0⟩⟩) :: .cells b 0 (treeC x) :: L) (fun x => TreeRep m x (ofD l a)) ?_ (fun x hx => ?_)
  · repeat (first|(first|refine q1 ?_|refine q3 ?_|refine q4 tab rfl rfl ?_)|(refine qs rfl (qz tab 1 rfl rfl rfl rfl rfl rfl ?_)))
    refine TO.step rfl (OT.call rfl rfl rfl rfl rfl rfl goes98 ((toStruct_ref a hkid _ _ s l hs h hr).x ?_));
    rintro _ _ _ ⟨rfl, rfl, rfl⟩
    repeat (first|refine q5 ?_|refine q6 ?_)
    refine TC.cond (t := toStructD l a) rfl (fun e1 => ?_) (fun e1 => ?_)
    · have e5 : a.kind = 5 := by
        rw [toStructD, Bool.and_eq_true] at e1
        exact of_decide_eq_true e1.1
      have hx0 : a.kids[0]? = some (kid0 a) := by rw [one_kid (hkid e5)]; rfl
      repeat (first|(first|refine q3 ?_|refine q4 tab rfl rfl ?_)|(refine qs rfl (ql tab 1 rfl rfl rfl rfl rfl rfl ?_)))
      refine TO.step rfl (OT.index tab rTree 0 h4 rfl rfl rfl rfl rfl (by first | rfl | omega) rfl hx0 ?_)
      rintro b' i' h' hrd hA
      (refine TO.step rfl (OT.loadA0 tab hA rfl rfl rfl rfl rfl ?_))
      skip
      (refine TO.step rfl (OT.storeL0 tab 1 rfl rfl rfl rfl rfl rfl rfl rfl ?_))
      repeat (first|refine q5 ?_|refine q6 ?_)
      exact ⟨h', (by repeat (exact trivial)), (by repeat (first|exact trivial|refine And.intro rfl ?_)), rfl, rfl, (by repeat (exact List.Sublist.refl _)), by rw [ofD, if_pos e1]; exact rTree_iff.1 hrd⟩
    · repeat (first|refine q6 ?_|refine q13 ?_)
      exact ⟨h, (by repeat (exact trivial)), (by repeat (first|exact trivial|refine And.intro rfl ?_)), rfl, rfl, (by repeat (exact List.Sublist.refl _)), by rw [ofD, if_neg (by rw [e1]; simp)]; exact hr⟩
  · have x1 := hx.kind
    have x2 := hx.name
    repeat (first|(first|refine q1 ?_|refine q3 ?_|refine q4 tab rfl rfl ?_)|(refine qs rfl (ql tab 1 rfl rfl rfl rfl rfl rfl ?_)))
    (refine TO.splitN rfl rfl (fun e1 => ?_) (fun e1 => ?_))
    · skip
      repeat (first|refine q1 ?_|refine q3 ?_|refine q4 tab rfl rfl ?_|refine q5 ?_|refine q6 ?_|refine q16 rfl ?_)
      (refine TO.step rfl (OT.storeL0 tab 0 rfl rfl rfl rfl rfl rfl rfl rfl ?_))
      repeat (first|refine q4 tab rfl rfl ?_|refine q5 ?_|refine q6 ?_|refine q8 ?_|refine q15 ?_)
      refine retQ_ret_c tab 0 rfl rfl rfl rfl rfl (L' := L) (by repeat (first|exact List.Sublist.refl _|refine List.Sublist.cons _ ?_)) ⟨Mem.le_refl _, rfl, ⟨0, [], 0, ⟨none, 0, 0⟩⟩, ?_, ?_⟩
      · rw [methodsD, ← x1, ← x2, decide_eq_false e1]; rfl
      · rw [methodsD, ← x1, ← x2, decide_eq_false e1]; exact zeroT_rep _
    · repeat (first|(refine q4 tab rfl rfl ?_)|(refine qs rfl (ql tab 1 rfl rfl rfl rfl rfl rfl ?_)))
      refine TO.step rfl (OT.call rfl rfl rfl rfl rfl rfl goes26 ((find_ref _ _ s l x.name hs).x ?_));
      rintro _ _ _ ⟨rfl, rfl, rfl⟩
      have hlt := idxD_lt l x.name
      repeat (first|refine q4 tab rfl rfl ?_|refine q5 ?_|refine q6 ?_)
      refine TC.condP rfl (fun e3 => ?_) (fun e3 => ?_)
      · have hh : hasD l x.name = false := by rw [decide_eq_true e3] at hlt; simpa using hlt.symm
        repeat (first|refine q1 ?_|refine q3 ?_|refine q4 tab rfl rfl ?_)
        (refine TO.step rfl (OT.storeL0 tab 0 rfl rfl rfl rfl rfl rfl rfl rfl ?_))
        repeat (first|refine q4 tab rfl rfl ?_|refine q5 ?_|refine q6 ?_|refine q8 ?_|refine q15 ?_)
        refine retQ_ret_c tab 0 rfl rfl rfl rfl rfl (L' := L) (by repeat (first|exact List.Sublist.refl _|refine List.Sublist.cons _ ?_)) ⟨Mem.le_refl _, rfl, ⟨0, [], 0, ⟨none, 0, 0⟩⟩, ?_, ?_⟩
        · rw [methodsD, ← x1, ← x2, hh, Bool.and_false]; rfl
        · rw [methodsD, ← x1, ← x2, hh, Bool.and_false]; exact zeroT_rep _
      · have hh : hasD l x.name = true := by rw [decide_eq_false e3] at hlt; simpa using hlt.symm
        obtain ⟨j, w1, w2, w3⟩ := idxD_get hh
        repeat (first|(first|refine q1 ?_|refine q3 ?_|refine q4 tab rfl rfl ?_|refine q6 ?_|refine q13 ?_)|(refine qs rfl (ql tab 1 rfl rfl rfl rfl rfl rfl ?_)))
        refine TO.step rfl (OT.call rfl rfl rfl rfl rfl rfl goes26 ((find_ref _ _ s l x.name hs).x ?_));
        rintro _ _ _ ⟨rfl, rfl, rfl⟩
        skip
        refine TO.step rfl (OT.index tab rDecl j hs rfl rfl rfl rfl rfl (by first | rfl | omega) rfl w2 ?_)
        rintro b' i' hd hrd hA
        repeat (refine q4 tab rfl rfl ?_)
        (refine TO.step rfl (OT.loadA tab hA rfl rfl rfl rfl rfl ?_))
        repeat (refine q4 tab rfl rfl ?_)
        refine TO.step rfl (OT.call rfl rfl rfl rfl rfl rfl goes102 ((member_ref _ _ hd.methods (theD l x.name).methods n hrd.methods).x ?_));
        rintro _ m2 _ ⟨hm2, rfl, ht, rfl, hrt⟩
        repeat (refine q4 tab rfl rfl ?_)
        (refine TO.step rfl (OT.storeL0 tab 0 rfl rfl rfl rfl rfl rfl rfl rfl ?_))
        repeat (first|refine q4 tab rfl rfl ?_|refine q5 ?_|refine q6 ?_|refine q15 ?_)
        refine retQ_ret_c tab 0 rfl rfl rfl rfl rfl (L' := L) (by repeat (first|exact List.Sublist.refl _|refine List.Sublist.cons _ ?_)) ⟨hm2, rfl, ht, ?_, ?_⟩
        · rw [methodsD, ← x1, ← x2, decide_eq_true e1, hh]; rfl
        · rw [methodsD, ← x1, ← x2, decide_eq_true e1, hh]; exact hrt

def givesB (l : List Decl) (a b : Tree) : Bool := tassignB l a b && (decide (a.kind = 8) || tknown (hasD l) a)

set_option maxHeartbeats 3200000 in
theorem gives_ref (a c : Tree) (ha : a.sound = true) (hc : c.sound = true) (m : Mem) (L : List Item) (s : Sl) (l : List Decl) (hs : SlRep rDecl m s l) (h g : HTree) (hr : TreeRep m h a) (gr : TreeRep m g c) : TCall Try.prog 59 ⟨[s.v, treeV h, treeV g]⟩ m L (Ret (.bool (givesB l a c)) m L) := by
  have h1 := hr.kind
  have g2 := gr.name
  have hkid := sound_kids ha
  refine TCall.forget ?_
  unfold TCall
  refine TCallX.enter Try.func59 rfl 75 rfl ?_
  unfold givesB tassignB
  rw [← h1, ← g2]
  repeat (first|refine q1 ?_|refine q3 ?_)
  refine TO.step rfl (OT.box rfl rfl rfl rfl rfl (fun b => ?_))
  skip
  refine TO.step rfl (OT.box rfl rfl rfl rfl rfl (fun b2 => ?_))
  repeat (first|(first|refine q1 ?_|refine q3 ?_|refine q4 tab rfl rfl ?_|refine q5 ?_|refine q6 ?_)|(refine qs rfl (qz tab 0 rfl rfl rfl rfl rfl rfl ?_)))
  refine TO.step rfl (OT.call rfl rfl rfl rfl rfl rfl goes57 ((known_ref c _ _ s l hs g gr).x ?_));
  rintro _ _ _ ⟨rfl, rfl, rfl⟩
  rw [knownD_eq hc]
  repeat (first|refine q4 tab rfl rfl ?_|refine q5 ?_|refine q6 ?_)
  refine TC.cond (t := !tknown (hasD l) c) rfl (fun e1 => ?_) (fun e1 => ?_)
  · rw [Bool.not_eq_true'] at e1
    repeat (first|refine q1 ?_|refine q3 ?_|refine q4 tab rfl rfl ?_|refine q5 ?_|refine q6 ?_|refine q8 ?_|refine q15 ?_)
    refine retQ_ret rfl (by repeat (first|exact List.Sublist.refl _|refine List.Sublist.cons _ ?_)) ⟨Mem.le_refl _, rfl, ?_⟩
    rw [e1]; rfl
  · rw [Bool.not_eq_false'] at e1
    rw [e1]
    repeat (first|(first|refine q1 ?_|refine q3 ?_|refine q4 tab rfl rfl ?_|refine q5 ?_|refine q6 ?_|refine q13 ?_)|(refine qs rfl (ql tab 1 rfl rfl rfl rfl rfl rfl ?_)))
    refine TC.condP rfl (fun e2 => ?_) (fun e2 => ?_)
    · rw [if_pos e2, decide_eq_true e2]
      repeat (first|(first|refine q1 ?_|refine q3 ?_|refine q4 tab rfl rfl ?_)|(refine qs rfl (qz tab 0 rfl rfl rfl rfl rfl rfl ?_)))
      refine TO.step rfl (OT.call rfl rfl rfl rfl rfl rfl goes97 ((nilable_ref c _ _ s l hs g gr).x ?_));
      rintro _ _ _ ⟨rfl, rfl, rfl⟩
      repeat (first|refine q4 tab rfl rfl ?_|refine q5 ?_|refine q6 ?_|refine q8 ?_|refine q15 ?_)
      refine retQ_ret rfl (by repeat (first|exact List.Sublist.refl _|refine List.Sublist.cons _ ?_)) ⟨Mem.le_refl _, rfl, ?_⟩
      simp
    · rw [if_neg e2, decide_eq_false e2]
      repeat (first|(first|refine q1 ?_|refine q3 ?_|refine q4 tab rfl rfl ?_|refine q6 ?_|refine q13 ?_)|(refine qs rfl (qz tab 1 rfl rfl rfl rfl rfl rfl ?_)))
      refine TO.step rfl (OT.call rfl rfl rfl rfl rfl rfl goes57 ((known_ref a _ _ s l hs h hr).x ?_));
      rintro _ _ _ ⟨rfl, rfl, rfl⟩
      rw [knownD_eq ha]
      repeat (first|refine q4 tab rfl rfl ?_|refine q5 ?_|refine q6 ?_)
      refine TC.cond (t := !tknown (hasD l) a) rfl (fun e3 => ?_) (fun e3 => ?_)
      · rw [Bool.not_eq_true'] at e3
        repeat (first|refine q1 ?_|refine q3 ?_|refine q4 tab rfl rfl ?_|refine q5 ?_|refine q6 ?_|refine q8 ?_|refine q15 ?_)
        refine retQ_ret rfl (by repeat (first|exact List.Sublist.refl _|refine List.Sublist.cons _ ?_)) ⟨Mem.le_refl _, rfl, ?_⟩
        rw [e3]; simp
      · rw [Bool.not_eq_false'] at e3
        rw [e3]
        repeat (first|(first|refine q1 ?_|refine q3 ?_|refine q6 ?_|refine q13 ?_)|(first|refine qs rfl (qz tab 0 rfl rfl rfl rfl rfl rfl ?_)|refine qs rfl (qz tab 1 rfl rfl rfl rfl rfl rfl ?_)))
        refine TO.step rfl (OT.call rfl rfl rfl rfl rfl rfl goes13 ((equal_ref a c _ _ h g hr gr).x ?_));
        rintro _ _ _ ⟨rfl, rfl, rfl⟩
        repeat (first|refine q5 ?_|refine q6 ?_)
        refine TC.cond (t := teq a c) rfl (fun e4 => ?_) (fun e4 => ?_)
        · repeat (first|refine q1 ?_|refine q3 ?_|refine q4 tab rfl rfl ?_|refine q5 ?_|refine q6 ?_|refine q8 ?_|refine q15 ?_)
          refine retQ_ret rfl (by repeat (first|exact List.Sublist.refl _|refine List.Sublist.cons _ ?_)) ⟨Mem.le_refl _, rfl, ?_⟩
          rw [e4]; rfl
        · rw [e4]
          repeat (first|(first|refine q1 ?_|refine q3 ?_|refine q4 tab rfl rfl ?_|refine q6 ?_|refine q13 ?_)|(refine qs rfl (qz tab 1 rfl rfl rfl rfl rfl rfl ?_)))
          refine TO.step rfl (OT.call rfl rfl rfl rfl rfl rfl goes98 ((toStruct_ref a hkid _ _ s l hs h hr).x ?_));
          rintro _ _ _ ⟨rfl, rfl, rfl⟩
          repeat (refine q4 tab rfl rfl ?_)
          refine TO.split (b := !toStructD l a) rfl rfl (fun e5 => ?_) (fun e5 => ?_)
          · rw [Bool.not_eq_true'] at e5
            repeat (first|refine q1 ?_|refine q3 ?_|refine q4 tab rfl rfl ?_|refine q5 ?_|refine q6 ?_|refine q8 ?_|refine q15 ?_|refine q16 rfl ?_)
            refine retQ_ret rfl (by repeat (first|exact List.Sublist.refl _|refine List.Sublist.cons _ ?_)) ⟨Mem.le_refl _, rfl, ?_⟩
            rw [e5]; simp
          · rw [Bool.not_eq_false'] at e5
            rw [e5]
            repeat (first|(refine q4 tab rfl rfl ?_)|(refine qs rfl (qz tab 0 rfl rfl rfl rfl rfl rfl ?_)))
            refine TO.step rfl (OT.call rfl rfl rfl rfl rfl rfl goes99 ((isIface_ref c _ _ s l hs g gr).x ?_));
            rintro _ _ _ ⟨rfl, rfl, rfl⟩
            repeat (first|refine q4 tab rfl rfl ?_|refine q5 ?_|refine q6 ?_)
            refine TC.cond (t := !isIfaceD l c) rfl (fun e6 => ?_) (fun e6 => ?_)
            · rw [Bool.not_eq_true'] at e6
              repeat (first|refine q1 ?_|refine q3 ?_|refine q4 tab rfl rfl ?_|refine q5 ?_|refine q6 ?_|refine q8 ?_|refine q15 ?_)
              refine retQ_ret rfl (by repeat (first|exact List.Sublist.refl _|refine List.Sublist.cons _ ?_)) ⟨Mem.le_refl _, rfl, ?_⟩
              rw [e6]; simp
            · rw [Bool.not_eq_false'] at e6
              rw [e6]
              have hhas : hasD l g.name = true := by
                rw [g2]
                rw [isIfaceD, Bool.and_eq_true, Bool.and_eq_true] at e6
                exact e6.2.1
              have hmet : methodsD l a = (theD l (kid0 a).name).methods := by
                have hs5 := e5
                have h5 : a.kind = 5 := by
                  rw [toStructD, Bool.and_eq_true] at hs5
                  exact of_decide_eq_true hs5.1
                rw [toStruct_kid (hkid h5), Bool.and_eq_true, isStructD, Bool.and_eq_true, Bool.and_eq_true] at hs5
                rw [methodsD, ofD, if_pos e5, hs5.2.1, hs5.2.2.1]; rfl
              obtain ⟨j, w1, w2, w3⟩ := idxD_get hhas
              repeat (first|(first|refine q1 ?_|refine q3 ?_|refine q4 tab rfl rfl ?_|refine q6 ?_|refine q13 ?_)|(refine qs rfl (ql tab 0 rfl rfl rfl rfl rfl rfl ?_)))
              refine TO.step rfl (OT.call rfl rfl rfl rfl rfl rfl goes26 ((find_ref _ _ s l g.name hs).x ?_));
              rintro _ _ _ ⟨rfl, rfl, rfl⟩
              skip
              refine TO.step rfl (OT.index tab rDecl j hs rfl rfl rfl rfl rfl (by first | rfl | omega) rfl w2 ?_)
              rintro b' i' hd hrd hA
              have hms := hrd.methods
              have hml := hms.len
              have hmsm := hms.small rfl
              repeat (refine q4 tab rfl rfl ?_)
              (refine TO.step rfl (OT.loadA tab hA rfl rfl rfl rfl rfl ?_))
              repeat (first|refine q1 ?_|refine q2 ?_|refine q3 ?_|refine q4 tab rfl rfl ?_|refine q5 ?_|refine q6 ?_)
              refine TC.loopK (ι := Nat × Mem) [0, 4, 5, 7] rfl (fun x => [(8, .int .i64 (x.1 : Int))]) (fun x => x.2) (fun _ => .cells b2 0 (treeC g) :: .cells b 0 (treeC h) :: L) (fun x => x.1 ≤ (theD l g.name).methods.length ∧ m ≤ x.2 ∧ ((theD l g.name).methods.take x.1).all (givesF (theD l (kid0 a).name).methods) = true) (fun x => (theD l g.name).methods.length - x.1) (0, m) (by repeat (first|exact trivial|refine And.intro rfl ?_)) rfl (by repeat (exact List.Sublist.refl _)) ⟨Nat.zero_le _, Mem.le_refl _, rfl⟩ ?_
              rintro ⟨k, m1⟩ ⟨hk, hm1, hI⟩
              simp only at hk hm1 hI ⊢
              have hms1 := hms.mono hm1
              repeat (first|refine q1 ?_|refine q3 ?_|refine q4 tab rfl rfl ?_|refine q5 ?_|refine q6 ?_)
              refine TC.condP rfl (fun e7 => ?_) (fun e7 => ?_)
              · have hlt : k < (theD l g.name).methods.length := by omega
                have hx : (theD l g.name).methods[k]? = some (theD l g.name).methods[k] := by simp [hlt]
                repeat (first|refine q1 ?_|refine q2 ?_|refine q6 ?_|refine q13 ?_)
                refine TC.draw0 [12, 13] mixed 14 rfl ?_
                refine DO.pure tab (by repeat (first|exact Calm.ret|refine Calm.then ?_|refine Calm.block ?_)) (by kernel_rfl) [0] (by kernel_rfl) rfl ?_
                (refine DO.loadL (k := 0) tab 1 1 (by repeat (first|exact Calm.ret|refine Calm.then ?_|refine Calm.block ?_)) (by kernel_rfl) (by kernel_rfl) rfl rfl rfl rfl rfl rfl rfl rfl ?_)
                refine DO.pure tab (by repeat (first|exact Calm.ret|refine Calm.then ?_|refine Calm.block ?_)) (by kernel_rfl) [2, 3] (by kernel_rfl) rfl ?_
                refine DO.index tab rField 4 k hms1 (by repeat (first|exact Calm.ret|refine Calm.then ?_|refine Calm.block ?_)) (by kernel_rfl) (by kernel_rfl) rfl rfl rfl rfl rfl rfl rfl (by first | rfl | omega) rfl hx ?_
                rintro b5 i5 hf hrf hA5
                refine DO.pure tab (by repeat (first|exact Calm.ret|refine Calm.then ?_|refine Calm.block ?_)) (by kernel_rfl) [5] (by kernel_rfl) rfl ?_
                (refine DO.loadA tab 6 hA5 (by repeat (first|exact Calm.ret|refine Calm.then ?_|refine Calm.block ?_)) (by kernel_rfl) (by kernel_rfl) rfl rfl rfl rfl rfl rfl rfl ?_)
                refine DO.fork 7 [11] (by kernel_rfl) ⟨⟨_, rfl, rfl, rfl, ?_⟩, ⟨_, rfl, rfl, rfl, ?_⟩, trivial⟩
                · refine OT.call rfl rfl rfl rfl rfl rfl goes64 ((methodOf_ref a hkid hf.name m1 _ s l (hs.mono hm1) h (hr.mono hm1)).x ?_)
                  rintro _ m2 _ ⟨hm2, rfl, ht, rfl, hrt⟩
                  refine ⟨hm2, _, List.Perm.refl _, ?_⟩
                  refine DO.pure tab (by repeat (first|exact Calm.ret|refine Calm.then ?_|refine Calm.block ?_)) (by kernel_rfl) [8, 9, 10] (by kernel_rfl) rfl ?_
                  refine DO.run 11 rfl rfl (by kernel_rfl) rfl ?_
                  refine OT.alloc tab rfl rfl rfl rfl (fun b9 => ?_)
                  refine ⟨Mem.le_refl _, [_], perm_mid, ?_⟩
                  have hm02 := Mem.le_trans hm1 hm2
                  have hfn := hrf.name
                  have hms2 := hms1.mono hm2
                  refine DO.tail ?_
                  refine DOt.run 12 rfl rfl (by kernel_rfl) rfl ?_
                  refine OT.perm perm_f2 ?_
                  refine OT.storeL0 tab 0 rfl rfl rfl rfl rfl rfl rfl rfl ?_
                  refine DOt.run 13 rfl rfl (by kernel_rfl) rfl ?_
                  refine OT.pureC tab rfl rfl rfl rfl ?_
                  refine DOt.nil (by kernel_rfl) ?_
                  refine thenQ_n ?_
                  repeat (refine q1 ?_)
                  refine TC.draw0 [] mixed 12 rfl ?_
                  refine DO.pure tab (by repeat (first|exact Calm.ret|refine Calm.then ?_|refine Calm.block ?_)) (by kernel_rfl) [0, 1, 2] (by kernel_rfl) rfl ?_
                  (refine DO.split (d := 65) rfl (fun hg2 => ?_) (fun hg2 => ?_))
                  refine DO.pure tab (by repeat (first|exact Calm.ret|refine Calm.then ?_|refine Calm.block ?_)) (by kernel_rfl) [3, 4, 5, 6, 7, 8, 9, 10, 11] (by kernel_rfl) rfl ?_
                  (refine DO.nil0 (by kernel_rfl) ?_)
                  rotate_left 1
                  (refine DO.loadL (k := 0) tab 3 0 (by repeat (first|exact Calm.ret|refine Calm.then ?_|refine Calm.block ?_)) (by kernel_rfl) (by kernel_rfl) rfl rfl rfl rfl rfl rfl rfl rfl ?_)
                  refine DO.pure tab (by repeat (first|exact Calm.ret|refine Calm.then ?_|refine Calm.block ?_)) (by kernel_rfl) [4, 5] (by kernel_rfl) rfl ?_
                  refine DO.index tab rField 6 k hms2 (by repeat (first|exact Calm.ret|refine Calm.then ?_|refine Calm.block ?_)) (by kernel_rfl) (by kernel_rfl) rfl rfl rfl rfl rfl rfl rfl (by first | rfl | omega) rfl hx ?_
                  rintro b7 i7 hf7 hrf7 hA7
                  refine DO.pure tab (by repeat (first|exact Calm.ret|refine Calm.then ?_|refine Calm.block ?_)) (by kernel_rfl) [7] (by kernel_rfl) rfl ?_
                  (refine DO.loadA tab 8 hA7 (by repeat (first|exact Calm.ret|refine Calm.then ?_|refine Calm.block ?_)) (by kernel_rfl) (by kernel_rfl) rfl rfl rfl rfl rfl rfl rfl ?_)
                  refine DO.run 9 rfl rfl (by kernel_rfl) rfl (OT.call rfl rfl rfl rfl rfl rfl goes13 ((equal_ref _ _ _ _ ht hf7.type hrt hrf7.type).x ?_))
                  rintro _ _ _ ⟨rfl, rfl, rfl⟩; refine ⟨Mem.le_refl _, _, List.Perm.refl _, ?_⟩
                  refine DO.pure tab (by repeat (first|exact Calm.ret|refine Calm.then ?_|refine Calm.block ?_)) (by kernel_rfl) [10, 11] (by kernel_rfl) rfl ?_
                  (refine DO.nil0 (by kernel_rfl) ?_)
                  rotate_left 1
                  · refine thenQ_n ?_
                    repeat (first|refine q1 ?_|refine q3 ?_|refine q4 tab rfl rfl ?_|refine q5 ?_|refine q6 ?_|refine q8 ?_|refine q9 ?_|refine q15 ?_|refine q16 rfl ?_)
                    refine retQ_ret rfl (by repeat (first|exact List.Sublist.refl _|refine List.Sublist.cons _ ?_)) ⟨hm02, rfl, ?_⟩
                    rw [Bool.not_eq_true'] at hg2
                    rw [hasMD, List.all_eq_false.2 ⟨_, List.getElem_mem hlt, by rw [givesF, ← hfn, ← hmet, hg2]; simp⟩]; rfl
                  · refine thenQ_n ?_
                    skip
                    rw [Bool.not_eq_false'] at hg2
                    refine TC.cond (t := !teq (memT (methodsD l a) hf.name) (theD l g.name).methods[k].type) rfl (fun e9 => ?_) (fun e9 => ?_)
                    · rw [Bool.not_eq_true', hfn, hmet] at e9
                      repeat (first|refine q1 ?_|refine q3 ?_|refine q4 tab rfl rfl ?_|refine q5 ?_|refine q6 ?_|refine q8 ?_|refine q9 ?_|refine q15 ?_)
                      refine retQ_ret rfl (by repeat (first|exact List.Sublist.refl _|refine List.Sublist.cons _ ?_)) ⟨hm02, rfl, ?_⟩
                      rw [hasMD, List.all_eq_false.2 ⟨_, List.getElem_mem hlt, by rw [givesF, e9]; simp⟩]; rfl
                    · rw [Bool.not_eq_false', hfn, hmet] at e9
                      rw [hfn, hmet] at hg2
                      repeat (first|refine q3 ?_|refine q4 tab rfl rfl ?_|refine q6 ?_|refine q7 ?_|refine q13 ?_)
                      refine TO.step rfl (OT.arith (r' := ((k + 1 : Nat) : Int)) rfl rfl rfl rfl rfl rfl rfl (by omega) ?_)
                      repeat (first|refine q4 tab rfl rfl ?_|refine q5 ?_|refine q6 ?_)
                      exact ⟨(k + 1, m2), (by repeat (first|exact trivial|refine And.intro rfl ?_)), (by repeat (first|exact trivial|refine And.intro rfl ?_)), rfl, rfl, (by repeat (first|exact List.Sublist.refl _|refine List.Sublist.cons _ ?_)), ⟨by simp only; omega, hm02, by rw [List.take_succ_eq_append_getElem hlt, List.all_append, hI, List.all_cons, givesF, hg2, e9]; rfl⟩, by simp only; omega⟩
                · refine OT.alloc tab rfl rfl rfl rfl (fun b9 => ?_)
                  refine ⟨Mem.le_refl _, [_], perm_mid, ?_⟩
                  refine DO.run 7 rfl rfl (by kernel_rfl) rfl ?_
                  refine OT.call rfl rfl rfl rfl rfl rfl goes64 ((methodOf_ref a hkid hf.name m1 _ s l (hs.mono hm1) h (hr.mono hm1)).x ?_)
                  rintro _ m2 _ ⟨hm2, rfl, ht, rfl, hrt⟩
                  refine ⟨hm2, _, List.Perm.refl _, ?_⟩
                  refine DO.pure tab (by repeat (first|exact Calm.ret|refine Calm.then ?_|refine Calm.block ?_)) (by kernel_rfl) [8, 9, 10] (by kernel_rfl) rfl ?_
                  have hm02 := Mem.le_trans hm1 hm2
                  have hfn := hrf.name
                  have hms2 := hms1.mono hm2
                  refine DO.tail ?_
                  refine DOt.run 12 rfl rfl (by kernel_rfl) rfl ?_
                  refine OT.perm perm_f2 ?_
                  refine OT.storeL0 tab 0 rfl rfl rfl rfl rfl rfl rfl rfl ?_
                  refine DOt.run 13 rfl rfl (by kernel_rfl) rfl ?_
                  refine OT.pureC tab rfl rfl rfl rfl ?_
                  refine DOt.nil (by kernel_rfl) ?_
                  refine thenQ_n ?_
                  repeat (refine q1 ?_)
                  refine TC.draw0 [] mixed 12 rfl ?_
                  refine DO.pure tab (by repeat (first|exact Calm.ret|refine Calm.then ?_|refine Calm.block ?_)) (by kernel_rfl) [0, 1, 2] (by kernel_rfl) rfl ?_
                  (refine DO.split (d := 65) rfl (fun hg2 => ?_) (fun hg2 => ?_))
                  refine DO.pure tab (by repeat (first|exact Calm.ret|refine Calm.then ?_|refine Calm.block ?_)) (by kernel_rfl) [3, 4, 5, 6, 7, 8, 9, 10, 11] (by kernel_rfl) rfl ?_
                  (refine DO.nil0 (by kernel_rfl) ?_)
                  rotate_left 1
                  (refine DO.loadL (k := 0) tab 3 0 (by repeat (first|exact Calm.ret|refine Calm.then ?_|refine Calm.block ?_)) (by kernel_rfl) (by kernel_rfl) rfl rfl rfl rfl rfl rfl rfl rfl ?_)
                  refine DO.pure tab (by repeat (first|exact Calm.ret|refine Calm.then ?_|refine Calm.block ?_)) (by kernel_rfl) [4, 5] (by kernel_rfl) rfl ?_
                  refine DO.index tab rField 6 k hms2 (by repeat (first|exact Calm.ret|refine Calm.then ?_|refine Calm.block ?_)) (by kernel_rfl) (by kernel_rfl) rfl rfl rfl rfl rfl rfl rfl (by first | rfl | omega) rfl hx ?_
                  rintro b7 i7 hf7 hrf7 hA7
                  refine DO.pure tab (by repeat (first|exact Calm.ret|refine Calm.then ?_|refine Calm.block ?_)) (by kernel_rfl) [7] (by kernel_rfl) rfl ?_
                  (refine DO.loadA tab 8 hA7 (by repeat (first|exact Calm.ret|refine Calm.then ?_|refine Calm.block ?_)) (by kernel_rfl) (by kernel_rfl) rfl rfl rfl rfl rfl rfl rfl ?_)
                  refine DO.run 9 rfl rfl (by kernel_rfl) rfl (OT.call rfl rfl rfl rfl rfl rfl goes13 ((equal_ref _ _ _ _ ht hf7.type hrt hrf7.type).x ?_))
                  rintro _ _ _ ⟨rfl, rfl, rfl⟩; refine ⟨Mem.le_refl _, _, List.Perm.refl _, ?_⟩
                  refine DO.pure tab (by repeat (first|exact Calm.ret|refine Calm.then ?_|refine Calm.block ?_)) (by kernel_rfl) [10, 11] (by kernel_rfl) rfl ?_
                  (refine DO.nil0 (by kernel_rfl) ?_)
                  rotate_left 1
                  · refine thenQ_n ?_
                    repeat (first|refine q1 ?_|refine q3 ?_|refine q4 tab rfl rfl ?_|refine q5 ?_|refine q6 ?_|refine q8 ?_|refine q9 ?_|refine q15 ?_|refine q16 rfl ?_)
                    refine retQ_ret rfl (by repeat (first|exact List.Sublist.refl _|refine List.Sublist.cons _ ?_)) ⟨hm02, rfl, ?_⟩
                    rw [Bool.not_eq_true'] at hg2
                    rw [hasMD, List.all_eq_false.2 ⟨_, List.getElem_mem hlt, by rw [givesF, ← hfn, ← hmet, hg2]; simp⟩]; rfl
                  · refine thenQ_n ?_
                    skip
                    rw [Bool.not_eq_false'] at hg2
                    refine TC.cond (t := !teq (memT (methodsD l a) hf.name) (theD l g.name).methods[k].type) rfl (fun e9 => ?_) (fun e9 => ?_)
                    · rw [Bool.not_eq_true', hfn, hmet] at e9
                      repeat (first|refine q1 ?_|refine q3 ?_|refine q4 tab rfl rfl ?_|refine q5 ?_|refine q6 ?_|refine q8 ?_|refine q9 ?_|refine q15 ?_)
                      refine retQ_ret rfl (by repeat (first|exact List.Sublist.refl _|refine List.Sublist.cons _ ?_)) ⟨hm02, rfl, ?_⟩
                      rw [hasMD, List.all_eq_false.2 ⟨_, List.getElem_mem hlt, by rw [givesF, e9]; simp⟩]; rfl
                    · rw [Bool.not_eq_false', hfn, hmet] at e9
                      rw [hfn, hmet] at hg2
                      repeat (first|refine q3 ?_|refine q4 tab rfl rfl ?_|refine q6 ?_|refine q7 ?_|refine q13 ?_)
                      refine TO.step rfl (OT.arith (r' := ((k + 1 : Nat) : Int)) rfl rfl rfl rfl rfl rfl rfl (by omega) ?_)
                      repeat (first|refine q4 tab rfl rfl ?_|refine q5 ?_|refine q6 ?_)
                      exact ⟨(k + 1, m2), (by repeat (first|exact trivial|refine And.intro rfl ?_)), (by repeat (first|exact trivial|refine And.intro rfl ?_)), rfl, rfl, (by repeat (first|exact List.Sublist.refl _|refine List.Sublist.cons _ ?_)), ⟨by simp only; omega, hm02, by rw [List.take_succ_eq_append_getElem hlt, List.all_append, hI, List.all_cons, givesF, hg2, e9]; rfl⟩, by simp only; omega⟩
              · rw [List.take_of_length_le (by omega)] at hI
                repeat (first|refine q1 ?_|refine q3 ?_|refine q4 tab rfl rfl ?_|refine q5 ?_|refine q6 ?_|refine q10 ?_|refine q11 ?_|refine q14 ?_|refine q15 ?_)
                refine retQ_ret rfl (by repeat (first|exact List.Sublist.refl _|refine List.Sublist.cons _ ?_)) ⟨hm1, rfl, ?_⟩
                rw [hasMD, hI]; rfl
end Go.Sep

/-
  The walks of the document's Assignable and Comparable; the laws TypesFit and TypesLaws.
-/
set_option linter.unusedVariables false
set_option linter.unusedSimpArgs false
namespace Go.Sep
open Go.Proofs
attribute [local irreducible] TC TO OT TCallX TCall DO DOt thenQ blockQ retQ At

theorem assignB_gives {l : List Decl} {a b : Tree} : assignB l a b = (decide (soundE l = 0) && (a.sound && (b.sound && givesB l a b))) := by
  rw [assignB, okD_two, givesB]
  cases decide (soundE l = 0) <;> cases a.sound <;> cases b.sound <;> rfl

set_option maxHeartbeats 1600000 in
theorem assign_def (a c : Tree) (m : Mem) (L : List Item) (s : Sl) (l : List Decl) (hs : SlRep rDecl m s l) (hS : TblS l) (h g : HTree) (hr : TreeRep m h a) (gr : TreeRep m g c) (hB : a.bulk ≤ 1048576) (gB : c.bulk ≤ 1048576) : TCall Try.prog 23 ⟨[s.v, treeV h, treeV g]⟩ m L (Ret (.bool (assignB l a c)) m L) := by
  unfold TCall
  refine TCallX.enter Try.func23 rfl 24 rfl ?_
  rw [assignB_gives]
  repeat (first|refine q1 ?_|refine q3 ?_)
  refine TO.step rfl (OT.box rfl rfl rfl rfl rfl (fun b => ?_))
  skip
  refine TO.step rfl (OT.box rfl rfl rfl rfl rfl (fun b2 => ?_))
  repeat (first|refine q1 ?_|refine q3 ?_|refine q4 tab rfl rfl ?_|refine q5 ?_|refine q6 ?_)
  refine TO.step rfl (OT.call rfl rfl rfl rfl rfl rfl goes19 ((sound_def m _ s l hs hS).x ?_));
  rintro _ _ _ ⟨rfl, rfl, rfl⟩
  repeat (refine q4 tab rfl rfl ?_)
  (refine TO.splitP rfl rfl (fun e1 => ?_) (fun e1 => ?_))
  · repeat ((refine qs rfl (qz tab 1 rfl rfl rfl rfl rfl rfl ?_)))
    refine TO.step rfl (OT.call rfl rfl rfl rfl rfl rfl goes42 ((isSound_ref a m _ h hr hB).x ?_));
    rintro _ _ _ ⟨rfl, rfl, rfl⟩
    repeat (refine q4 tab rfl rfl ?_)
    refine TO.split (b := a.sound) rfl rfl (fun e2 => ?_) (fun e2 => ?_)
    · repeat ((refine qs rfl (qz tab 0 rfl rfl rfl rfl rfl rfl ?_)))
      refine TO.step rfl (OT.call rfl rfl rfl rfl rfl rfl goes42 ((isSound_ref c m _ g gr gB).x ?_));
      rintro _ _ _ ⟨rfl, rfl, rfl⟩
      repeat (refine q4 tab rfl rfl ?_)
      refine TO.split (b := c.sound) rfl rfl (fun e3 => ?_) (fun e3 => ?_)
      · repeat (first|(refine q4 tab rfl rfl ?_)|(first|refine qs rfl (qz tab 0 rfl rfl rfl rfl rfl rfl ?_)|refine qs rfl (qz tab 1 rfl rfl rfl rfl rfl rfl ?_)))
        refine TO.step rfl (OT.call rfl rfl rfl rfl rfl rfl goes59 ((gives_ref a c e2 e3 m _ s l hs h g hr gr).x ?_));
        rintro _ _ _ ⟨rfl, rfl, rfl⟩
        repeat (first|refine q4 tab rfl rfl ?_|refine q5 ?_|refine q6 ?_|refine q15 ?_)
        refine retQ_ret rfl (by repeat (first|exact List.Sublist.refl _|refine List.Sublist.cons _ ?_)) ⟨rfl, rfl, ?_⟩
        rw [decide_eq_true e1, e2, e3]; rfl
      · repeat (first|refine q4 tab rfl rfl ?_|refine q5 ?_|refine q6 ?_|refine q15 ?_)
        refine retQ_ret rfl (by repeat (first|exact List.Sublist.refl _|refine List.Sublist.cons _ ?_)) ⟨rfl, rfl, ?_⟩
        rw [decide_eq_true e1, e2, e3]; rfl
    · repeat (first|refine q4 tab rfl rfl ?_|refine q5 ?_|refine q6 ?_|refine q15 ?_)
      refine retQ_ret rfl (by repeat (first|exact List.Sublist.refl _|refine List.Sublist.cons _ ?_)) ⟨rfl, rfl, ?_⟩
      rw [decide_eq_true e1, e2]; rfl
  · repeat (first|refine q4 tab rfl rfl ?_|refine q5 ?_|refine q6 ?_|refine q15 ?_)
    refine retQ_ret rfl (by repeat (first|exact List.Sublist.refl _|refine List.Sublist.cons _ ?_)) ⟨rfl, rfl, ?_⟩
    rw [decide_eq_false e1]; rfl

def dcompB (l : List Decl) (a b : Tree) : Bool := tcompB l a b
theorem compB_conds {l : List Decl} {a b : Tree} : compB l a b = (decide (soundE l = 0) && (a.sound && (b.sound && dcompB l a b))) := by
  rw [compB, okD_two, dcompB]
  cases decide (soundE l = 0) <;> cases a.sound <;> cases b.sound <;> rfl

set_option maxHeartbeats 3200000 in
theorem compares_ref (a c : Tree) (ha : a.sound = true) (hc : c.sound = true) (m : Mem) (L : List Item) (s : Sl) (l : List Decl) (hs : SlRep rDecl m s l) (h g : HTree) (hr : TreeRep m h a) (gr : TreeRep m g c) : TCall Try.prog 61 ⟨[s.v, treeV h, treeV g]⟩ m L (Ret (.bool (dcompB l a c)) m L) := by
  have h1 := hr.kind
  have g1 := gr.kind
  have hk := sound_kind ha
  unfold TCall
  refine TCallX.enter Try.func61 rfl 72 rfl ?_
  unfold dcompB tcompB simpleD
  rw [← h1, ← g1]
  repeat (first|refine q1 ?_|refine q3 ?_)
  refine TO.step rfl (OT.box rfl rfl rfl rfl rfl (fun b => ?_))
  skip
  refine TO.step rfl (OT.box rfl rfl rfl rfl rfl (fun b2 => ?_))
  refine TO.pureP tab rfl rfl ?_
  refine TO.nil ?_
  refine thenQ_n ?_
  refine TC.seq ?_
  refine TC.seq ?_
  refine TC.cutT (ι := Bool) [0, 4, 5] rfl (fun v => [(15, .bool v)]) (fun _ => m) (fun _ => .cells b2 0 (treeC g) :: .cells b 0 (treeC h) :: L) (fun v => v = (decide (h.kind = 8) && decide (g.kind = 8))) ?_ (fun v hv => ?_)
  · repeat (first|(first|refine q3 ?_|refine q4 tab rfl rfl ?_)|(refine qs rfl (ql tab 1 rfl rfl rfl rfl rfl rfl ?_)))
    (refine TO.splitP rfl rfl (fun e1 => ?_) (fun e1 => ?_))
    · repeat (first|(first|refine q4 tab rfl rfl ?_|refine q5 ?_|refine q6 ?_)|(refine qs rfl (ql tab 0 rfl rfl rfl rfl rfl rfl ?_)))
      exact ⟨decide (g.kind = 8), (by repeat (first|exact trivial|refine And.intro rfl ?_)), (by repeat (first|exact trivial|refine And.intro rfl ?_)), rfl, rfl, (by repeat (exact List.Sublist.refl _)), by rw [decide_eq_true e1]; rfl⟩
    · repeat (first|refine q4 tab rfl rfl ?_|refine q5 ?_|refine q6 ?_)
      exact ⟨false, (by repeat (first|exact trivial|refine And.intro rfl ?_)), (by repeat (first|exact trivial|refine And.intro rfl ?_)), rfl, rfl, (by repeat (exact List.Sublist.refl _)), by rw [decide_eq_false e1]; rfl⟩
  · refine TC.cond (t := v) rfl (fun e => ?_) (fun e => ?_)
    · subst e
      have hv := hv.symm
      simp only [Bool.and_eq_true, decide_eq_true_eq] at hv
      repeat (first|refine q1 ?_|refine q3 ?_|refine q4 tab rfl rfl ?_|refine q5 ?_|refine q6 ?_|refine q8 ?_|refine q15 ?_)
      refine retQ_ret rfl (by repeat (first|exact List.Sublist.refl _|refine List.Sublist.cons _ ?_)) ⟨rfl, rfl, ?_⟩
      rw [if_pos hv.1, decide_eq_true hv.2]; rfl
    · subst e
      repeat (first|(first|refine q1 ?_|refine q3 ?_|refine q4 tab rfl rfl ?_|refine q5 ?_|refine q6 ?_|refine q13 ?_)|(refine qs rfl (ql tab 1 rfl rfl rfl rfl rfl rfl ?_)))
      refine TC.condP rfl (fun e1 => ?_) (fun e1 => ?_)
      · have hv := hv.symm
        rw [decide_eq_true e1, Bool.true_and] at hv
        rw [if_pos e1, hv]
        repeat (first|(first|refine q1 ?_|refine q3 ?_|refine q4 tab rfl rfl ?_)|(refine qs rfl (qz tab 0 rfl rfl rfl rfl rfl rfl ?_)))
        refine TO.step rfl (OT.call rfl rfl rfl rfl rfl rfl goes57 ((known_ref c _ _ s l hs g gr).x ?_));
        rintro _ _ _ ⟨rfl, rfl, rfl⟩
        rw [knownD_eq hc]
        repeat (refine q4 tab rfl rfl ?_)
        refine TO.split (b := tknown (hasD l) c) rfl rfl (fun e3 => ?_) (fun e3 => ?_)
        · repeat (first|(refine q4 tab rfl rfl ?_)|(refine qs rfl (qz tab 0 rfl rfl rfl rfl rfl rfl ?_)))
          refine TO.step rfl (OT.call rfl rfl rfl rfl rfl rfl goes97 ((nilable_ref c _ _ s l hs g gr).x ?_));
          rintro _ _ _ ⟨rfl, rfl, rfl⟩
          repeat (first|refine q4 tab rfl rfl ?_|refine q5 ?_|refine q6 ?_|refine q8 ?_|refine q15 ?_)
          refine retQ_ret rfl (by repeat (first|exact List.Sublist.refl _|refine List.Sublist.cons _ ?_)) ⟨rfl, rfl, ?_⟩
          rw [e3]; rfl
        · repeat (first|refine q4 tab rfl rfl ?_|refine q5 ?_|refine q6 ?_|refine q8 ?_|refine q15 ?_)
          refine retQ_ret rfl (by repeat (first|exact List.Sublist.refl _|refine List.Sublist.cons _ ?_)) ⟨rfl, rfl, ?_⟩
          rw [e3]; rfl
      · rw [if_neg e1]
        repeat (first|(first|refine q1 ?_|refine q3 ?_|refine q4 tab rfl rfl ?_|refine q5 ?_|refine q6 ?_|refine q13 ?_)|(refine qs rfl (ql tab 0 rfl rfl rfl rfl rfl rfl ?_)))
        refine TC.condP rfl (fun e2 => ?_) (fun e2 => ?_)
        · rw [if_pos e2]
          repeat (first|(first|refine q1 ?_|refine q3 ?_|refine q4 tab rfl rfl ?_)|(refine qs rfl (qz tab 1 rfl rfl rfl rfl rfl rfl ?_)))
          refine TO.step rfl (OT.call rfl rfl rfl rfl rfl rfl goes57 ((known_ref a _ _ s l hs h hr).x ?_));
          rintro _ _ _ ⟨rfl, rfl, rfl⟩
          rw [knownD_eq ha]
          repeat (refine q4 tab rfl rfl ?_)
          refine TO.split (b := tknown (hasD l) a) rfl rfl (fun e3 => ?_) (fun e3 => ?_)
          · repeat (first|(refine q4 tab rfl rfl ?_)|(refine qs rfl (qz tab 1 rfl rfl rfl rfl rfl rfl ?_)))
            refine TO.step rfl (OT.call rfl rfl rfl rfl rfl rfl goes97 ((nilable_ref a _ _ s l hs h hr).x ?_));
            rintro _ _ _ ⟨rfl, rfl, rfl⟩
            repeat (first|refine q4 tab rfl rfl ?_|refine q5 ?_|refine q6 ?_|refine q8 ?_|refine q15 ?_)
            refine retQ_ret rfl (by repeat (first|exact List.Sublist.refl _|refine List.Sublist.cons _ ?_)) ⟨rfl, rfl, ?_⟩
            rw [e3]; rfl
          · repeat (first|refine q4 tab rfl rfl ?_|refine q5 ?_|refine q6 ?_|refine q8 ?_|refine q15 ?_)
            refine retQ_ret rfl (by repeat (first|exact List.Sublist.refl _|refine List.Sublist.cons _ ?_)) ⟨rfl, rfl, ?_⟩
            rw [e3]; rfl
        · rw [if_neg e2]
          refine TC.skip ?_
          refine thenQ_n ?_
          refine TC.seq ?_
          refine TC.cutT (ι := Bool) [0, 4, 5] rfl (fun v => [(7, .bool v)]) (fun _ => m) (fun _ => .cells b2 0 (treeC g) :: .cells b 0 (treeC h) :: L) (fun v => v = (decide (h.kind ≤ 3) || (decide (h.kind = 5) || isIfaceD l a))) ?_ (fun v hv => ?_)
          · repeat (first|(first|refine q3 ?_|refine q4 tab rfl rfl ?_)|(refine qs rfl (ql tab 1 rfl rfl rfl rfl rfl rfl ?_)))
            (refine TO.splitP rfl rfl (fun d1 => ?_) (fun d1 => ?_))
            · repeat (first|refine q4 tab rfl rfl ?_|refine q5 ?_|refine q6 ?_)
              exact ⟨true, (by repeat (first|exact trivial|refine And.intro rfl ?_)), (by repeat (first|exact trivial|refine And.intro rfl ?_)), rfl, rfl, (by repeat (exact List.Sublist.refl _)), by rw [decide_eq_true (show h.kind ≤ 3 by omega)]; rfl⟩
            · repeat (first|(refine q4 tab rfl rfl ?_)|(refine qs rfl (ql tab 1 rfl rfl rfl rfl rfl rfl ?_)))
              (refine TO.splitP rfl rfl (fun d2 => ?_) (fun d2 => ?_))
              · repeat (first|refine q4 tab rfl rfl ?_|refine q5 ?_|refine q6 ?_)
                exact ⟨true, (by repeat (first|exact trivial|refine And.intro rfl ?_)), (by repeat (first|exact trivial|refine And.intro rfl ?_)), rfl, rfl, (by repeat (exact List.Sublist.refl _)), by rw [decide_eq_true (show h.kind ≤ 3 by omega)]; rfl⟩
              · repeat (first|(refine q4 tab rfl rfl ?_)|(refine qs rfl (ql tab 1 rfl rfl rfl rfl rfl rfl ?_)))
                (refine TO.splitP rfl rfl (fun d3 => ?_) (fun d3 => ?_))
                · repeat (first|refine q4 tab rfl rfl ?_|refine q5 ?_|refine q6 ?_)
                  exact ⟨true, (by repeat (first|exact trivial|refine And.intro rfl ?_)), (by repeat (first|exact trivial|refine And.intro rfl ?_)), rfl, rfl, (by repeat (exact List.Sublist.refl _)), by rw [decide_eq_true (show h.kind ≤ 3 by omega)]; rfl⟩
                · repeat (first|(refine q4 tab rfl rfl ?_)|(refine qs rfl (ql tab 1 rfl rfl rfl rfl rfl rfl ?_)))
                  (refine TO.splitP rfl rfl (fun d5 => ?_) (fun d5 => ?_))
                  · repeat (first|refine q4 tab rfl rfl ?_|refine q5 ?_|refine q6 ?_)
                    exact ⟨true, (by repeat (first|exact trivial|refine And.intro rfl ?_)), (by repeat (first|exact trivial|refine And.intro rfl ?_)), rfl, rfl, (by repeat (exact List.Sublist.refl _)), by rw [decide_eq_true d5]; simp⟩
                  · repeat (first|(refine q4 tab rfl rfl ?_)|(refine qs rfl (qz tab 1 rfl rfl rfl rfl rfl rfl ?_)))
                    refine TO.step rfl (OT.call rfl rfl rfl rfl rfl rfl goes99 ((isIface_ref a _ _ s l hs h hr).x ?_));
                    rintro _ _ _ ⟨rfl, rfl, rfl⟩
                    repeat (first|refine q4 tab rfl rfl ?_|refine q5 ?_|refine q6 ?_)
                    exact ⟨isIfaceD l a, (by repeat (first|exact trivial|refine And.intro rfl ?_)), (by repeat (first|exact trivial|refine And.intro rfl ?_)), rfl, rfl, (by repeat (exact List.Sublist.refl _)), by rw [decide_eq_false d5, decide_eq_false (show ¬ h.kind ≤ 3 by omega)]; rfl⟩
          · rw [← hv]
            repeat (first|(first|refine q1 ?_|refine q3 ?_|refine q4 tab rfl rfl ?_)|(refine qs rfl (qz tab 1 rfl rfl rfl rfl rfl rfl ?_)))
            refine TO.step rfl (OT.call rfl rfl rfl rfl rfl rfl goes57 ((known_ref a _ _ s l hs h hr).x ?_));
            rintro _ _ _ ⟨rfl, rfl, rfl⟩
            rw [knownD_eq ha]
            repeat (refine q4 tab rfl rfl ?_)
            refine TO.split (b := tknown (hasD l) a) rfl rfl (fun e3 => ?_) (fun e3 => ?_)
            · repeat ((first|refine qs rfl (qz tab 0 rfl rfl rfl rfl rfl rfl ?_)|refine qs rfl (qz tab 1 rfl rfl rfl rfl rfl rfl ?_)))
              refine TO.step rfl (OT.call rfl rfl rfl rfl rfl rfl goes13 ((equal_ref a c _ _ h g hr gr).x ?_));
              rintro _ _ _ ⟨rfl, rfl, rfl⟩
              repeat (refine q4 tab rfl rfl ?_)
              refine TO.split (b := teq a c) rfl rfl (fun e4 => ?_) (fun e4 => ?_)
              · repeat (first|refine q4 tab rfl rfl ?_|refine q5 ?_|refine q6 ?_|refine q15 ?_)
                refine retQ_ret rfl (by repeat (first|exact List.Sublist.refl _|refine List.Sublist.cons _ ?_)) ⟨rfl, rfl, ?_⟩
                rw [e3, e4]; rfl
              · repeat (first|refine q4 tab rfl rfl ?_|refine q5 ?_|refine q6 ?_|refine q15 ?_)
                refine retQ_ret rfl (by repeat (first|exact List.Sublist.refl _|refine List.Sublist.cons _ ?_)) ⟨rfl, rfl, ?_⟩
                rw [e4]; rfl
            · repeat (first|refine q4 tab rfl rfl ?_|refine q5 ?_|refine q6 ?_|refine q15 ?_)
              refine retQ_ret rfl (by repeat (first|exact List.Sublist.refl _|refine List.Sublist.cons _ ?_)) ⟨rfl, rfl, ?_⟩
              rw [e3, Bool.and_false]; rfl

set_option maxHeartbeats 1600000 in
theorem comp_def (a c : Tree) (m : Mem) (L : List Item) (s : Sl) (l : List Decl) (hs : SlRep rDecl m s l) (hS : TblS l) (h g : HTree) (hr : TreeRep m h a) (gr : TreeRep m g c) (hB : a.bulk ≤ 1048576) (gB : c.bulk ≤ 1048576) : TCall Try.prog 25 ⟨[s.v, treeV h, treeV g]⟩ m L (Ret (.bool (compB l a c)) m L) := by
  unfold TCall
  refine TCallX.enter Try.func25 rfl 24 rfl ?_
  rw [compB_conds]
  repeat (first|refine q1 ?_|refine q3 ?_)
  refine TO.step rfl (OT.box rfl rfl rfl rfl rfl (fun b => ?_))
  skip
  refine TO.step rfl (OT.box rfl rfl rfl rfl rfl (fun b2 => ?_))
  repeat (first|refine q1 ?_|refine q3 ?_|refine q4 tab rfl rfl ?_|refine q5 ?_|refine q6 ?_)
  refine TO.step rfl (OT.call rfl rfl rfl rfl rfl rfl goes19 ((sound_def m _ s l hs hS).x ?_));
  rintro _ _ _ ⟨rfl, rfl, rfl⟩
  repeat (refine q4 tab rfl rfl ?_)
  (refine TO.splitP rfl rfl (fun e1 => ?_) (fun e1 => ?_))
  · repeat ((refine qs rfl (qz tab 1 rfl rfl rfl rfl rfl rfl ?_)))
    refine TO.step rfl (OT.call rfl rfl rfl rfl rfl rfl goes42 ((isSound_ref a m _ h hr hB).x ?_));
    rintro _ _ _ ⟨rfl, rfl, rfl⟩
    repeat (refine q4 tab rfl rfl ?_)
    refine TO.split (b := a.sound) rfl rfl (fun e2 => ?_) (fun e2 => ?_)
    · repeat ((refine qs rfl (qz tab 0 rfl rfl rfl rfl rfl rfl ?_)))
      refine TO.step rfl (OT.call rfl rfl rfl rfl rfl rfl goes42 ((isSound_ref c m _ g gr gB).x ?_));
      rintro _ _ _ ⟨rfl, rfl, rfl⟩
      repeat (refine q4 tab rfl rfl ?_)
      refine TO.split (b := c.sound) rfl rfl (fun e3 => ?_) (fun e3 => ?_)
      · repeat (first|(refine q4 tab rfl rfl ?_)|(first|refine qs rfl (qz tab 0 rfl rfl rfl rfl rfl rfl ?_)|refine qs rfl (qz tab 1 rfl rfl rfl rfl rfl rfl ?_)))
        refine TO.step rfl (OT.call rfl rfl rfl rfl rfl rfl goes61 ((compares_ref a c e2 e3 m _ s l hs h g hr gr).x ?_));
        rintro _ _ _ ⟨rfl, rfl, rfl⟩
        repeat (first|refine q4 tab rfl rfl ?_|refine q5 ?_|refine q6 ?_|refine q15 ?_)
        refine retQ_ret rfl (by repeat (first|exact List.Sublist.refl _|refine List.Sublist.cons _ ?_)) ⟨rfl, rfl, ?_⟩
        rw [decide_eq_true e1, e2, e3]; rfl
      · repeat (first|refine q4 tab rfl rfl ?_|refine q5 ?_|refine q6 ?_|refine q15 ?_)
        refine retQ_ret rfl (by repeat (first|exact List.Sublist.refl _|refine List.Sublist.cons _ ?_)) ⟨rfl, rfl, ?_⟩
        rw [decide_eq_true e1, e2, e3]; rfl
    · repeat (first|refine q4 tab rfl rfl ?_|refine q5 ?_|refine q6 ?_|refine q15 ?_)
      refine retQ_ret rfl (by repeat (first|exact List.Sublist.refl _|refine List.Sublist.cons _ ?_)) ⟨rfl, rfl, ?_⟩
      rw [decide_eq_true e1, e2]; rfl
  · repeat (first|refine q4 tab rfl rfl ?_|refine q5 ?_|refine q6 ?_|refine q15 ?_)
    refine retQ_ret rfl (by repeat (first|exact List.Sublist.refl _|refine List.Sublist.cons _ ?_)) ⟨rfl, rfl, ?_⟩
    rw [decide_eq_false e1]; rfl

set_option maxHeartbeats 3200000 in
theorem typesFit_law (a c : Tree) (m : Mem) (L : List Item) (s : Sl) (l : List Decl) (hs : SlRep rDecl m s l) (hS : TblS l) (h g : HTree) (hr : TreeRep m h a) (gr : TreeRep m g c) (hB : a.bulk ≤ 1048576) (gB : c.bulk ≤ 1048576) : TCall Try.prog 6 ⟨[s.v, treeV h, treeV g]⟩ m L (Ret (.bool true) m L) := by
  unfold TCall
  refine TCallX.enter Try.func6 rfl 30 rfl ?_
  repeat (first|refine q1 ?_|refine q3 ?_)
  refine TO.step rfl (OT.box rfl rfl rfl rfl rfl (fun b => ?_))
  skip
  refine TO.step rfl (OT.box rfl rfl rfl rfl rfl (fun b2 => ?_))
  repeat (first|refine q1 ?_|refine q4 tab rfl rfl ?_|refine q5 ?_|refine q6 ?_)
  refine TC.draw0 [] mixed 24 rfl ?_
  refine DO.run 0 rfl rfl (by kernel_rfl) rfl (OT.call rfl rfl rfl rfl rfl rfl goes12 ((awake_law _ _).x ?_))
  rintro _ _ _ ⟨rfl, rfl, rfl⟩; refine ⟨Mem.le_refl _, _, List.Perm.refl _, ?_⟩
  refine DO.pure tab (by repeat (first|exact Calm.ret|refine Calm.then ?_)) (by kernel_rfl) [1, 2] (by kernel_rfl) rfl ?_
  (refine DO.loadL (k := 0) tab 3 1 (by repeat (first|exact Calm.ret|refine Calm.then ?_)) (by kernel_rfl) (by kernel_rfl) rfl rfl rfl rfl rfl rfl rfl rfl ?_)
  (refine DO.loadL (k := 0) tab 4 0 (by repeat (first|exact Calm.ret|refine Calm.then ?_)) (by kernel_rfl) (by kernel_rfl) rfl rfl rfl rfl rfl rfl rfl rfl ?_)
  refine DO.pure tab (by repeat (first|exact Calm.ret|refine Calm.then ?_)) (by kernel_rfl) [6] (by kernel_rfl) rfl ?_
  (refine DO.loadL (k := 0) tab 7 1 (by repeat (first|exact Calm.ret|refine Calm.then ?_)) (by kernel_rfl) (by kernel_rfl) rfl rfl rfl rfl rfl rfl rfl rfl ?_)
  (refine DO.loadL (k := 0) tab 8 0 (by repeat (first|exact Calm.ret|refine Calm.then ?_)) (by kernel_rfl) (by kernel_rfl) rfl rfl rfl rfl rfl rfl rfl rfl ?_)
  refine DO.run 5 rfl rfl (by kernel_rfl) rfl (OT.call rfl rfl rfl rfl rfl rfl goes22 ((assign_law a c _ _ s l hs hS h g hr gr hB gB).x ?_))
  rintro _ _ _ ⟨rfl, rfl, rfl⟩; refine ⟨Mem.le_refl _, _, List.Perm.refl _, ?_⟩
  refine DO.run 9 rfl rfl (by kernel_rfl) rfl (OT.call rfl rfl rfl rfl rfl rfl goes23 ((assign_def a c _ _ s l hs hS h g hr gr hB gB).x ?_))
  rintro _ _ _ ⟨rfl, rfl, rfl⟩; refine ⟨Mem.le_refl _, _, List.Perm.refl _, ?_⟩
  refine DO.run 10 rfl rfl (by kernel_rfl) rfl ?_; refine OT.eqBool tab rfl rfl rfl rfl rfl rfl ?_; rw [beq_self_eq_true]; refine ⟨Mem.le_refl _, _, List.Perm.refl _, ?_⟩
  refine DO.pure tab (by repeat (first|exact Calm.ret|refine Calm.then ?_)) (by kernel_rfl) [11, 12, 13] (by kernel_rfl) rfl ?_
  (refine DO.loadL (k := 0) tab 14 1 (by repeat (first|exact Calm.ret|refine Calm.then ?_)) (by kernel_rfl) (by kernel_rfl) rfl rfl rfl rfl rfl rfl rfl rfl ?_)
  (refine DO.loadL (k := 0) tab 15 0 (by repeat (first|exact Calm.ret|refine Calm.then ?_)) (by kernel_rfl) (by kernel_rfl) rfl rfl rfl rfl rfl rfl rfl rfl ?_)
  refine DO.pure tab (by repeat (first|exact Calm.ret|refine Calm.then ?_)) (by kernel_rfl) [17] (by kernel_rfl) rfl ?_
  (refine DO.loadL (k := 0) tab 18 1 (by repeat (first|exact Calm.ret|refine Calm.then ?_)) (by kernel_rfl) (by kernel_rfl) rfl rfl rfl rfl rfl rfl rfl rfl ?_)
  (refine DO.loadL (k := 0) tab 19 0 (by repeat (first|exact Calm.ret|refine Calm.then ?_)) (by kernel_rfl) (by kernel_rfl) rfl rfl rfl rfl rfl rfl rfl rfl ?_)
  refine DO.run 16 rfl rfl (by kernel_rfl) rfl (OT.call rfl rfl rfl rfl rfl rfl goes24 ((comp_law a c _ _ s l hs hS h g hr gr hB gB).x ?_))
  rintro _ _ _ ⟨rfl, rfl, rfl⟩; refine ⟨Mem.le_refl _, _, List.Perm.refl _, ?_⟩
  refine DO.run 20 rfl rfl (by kernel_rfl) rfl (OT.call rfl rfl rfl rfl rfl rfl goes25 ((comp_def a c _ _ s l hs hS h g hr gr hB gB).x ?_))
  rintro _ _ _ ⟨rfl, rfl, rfl⟩; refine ⟨Mem.le_refl _, _, List.Perm.refl _, ?_⟩
  refine DO.run 21 rfl rfl (by kernel_rfl) rfl ?_; refine OT.eqBool tab rfl rfl rfl rfl rfl rfl ?_; rw [beq_self_eq_true]; refine ⟨Mem.le_refl _, _, List.Perm.refl _, ?_⟩
  refine DO.pure tab (by repeat (first|exact Calm.ret|refine Calm.then ?_)) (by kernel_rfl) [22, 23] (by kernel_rfl) rfl ?_
  (refine DO.nil0 (by kernel_rfl) ?_)
  rotate_left 1
  refine thenQ_n ?_
  repeat (refine q15 ?_)
  refine retQ_ret rfl (by repeat (first|exact List.Sublist.refl _|refine List.Sublist.cons _ ?_)) ⟨rfl, rfl, ?_⟩
  rfl

theorem teq_true {a c : Tree} (h : teq a c = true) : a = c := (teq_iff a c).1 h
theorem okD_comm {l : List Decl} {a b : Tree} : okD l [a, b] = okD l [b, a] := by
  rw [okD_two, okD_two, Bool.and_comm a.sound]
theorem comp_comm {l : List Decl} {a b : Tree} : compB l a b = compB l b a := by
  rw [compB, compB, okD_comm]
  cases hok : okD l [b, a] with
  | false => rfl
  | true =>
    rw [Bool.true_and, Bool.true_and, tcompB, tcompB]
    by_cases e1 : a.kind = 8
    · rw [if_pos e1]
      by_cases e2 : b.kind = 8
      · rw [if_pos e2, decide_eq_true e1, decide_eq_true e2]; rfl
      · rw [if_neg e2, if_pos e1, decide_eq_false e2]; rfl
    · rw [if_neg e1]
      by_cases e2 : b.kind = 8
      · rw [if_pos e2, if_pos e2, decide_eq_false e1]; rfl
      · rw [if_neg e2, if_neg e2, if_neg e1, teq_comm b a]
        cases e3 : teq a b with
        | false => rfl
        | true => rw [teq_true e3]
/-- what is assignable both ways is the same -/
theorem assign_both {l : List Decl} {a b : Tree} (h1 : assignB l a b = true) (h2 : assignB l b a = true) : sameB a b = true := by
  have hk1 : a.sound = true ∧ b.sound = true := by
    rw [assignB_gives] at h1
    simp only [Bool.and_eq_true] at h1
    exact ⟨h1.2.1, h1.2.2.1⟩
  rw [assignB] at h1 h2
  simp only [Bool.and_eq_true, tassignB] at h1 h2
  obtain ⟨_, ⟨k1, t1⟩, _⟩ := h1
  obtain ⟨_, ⟨k2, t2⟩, _⟩ := h2
  have n1 : ¬ b.kind = 8 := fun e => by rw [tknown_eq, decide_eq_true e] at k1; simp at k1
  have n2 : ¬ a.kind = 8 := fun e => by rw [tknown_eq, decide_eq_true e] at k2; simp at k2
  rw [if_neg n2] at t1
  rw [if_neg n1] at t2
  cases e : teq a b with
  | true => rw [sameB, hk1.1, hk1.2, e]; rfl
  | false =>
    rw [e, Bool.false_or, Bool.and_eq_true, Bool.and_eq_true] at t1
    rw [teq_comm b a, e, Bool.false_or, Bool.and_eq_true, Bool.and_eq_true] at t2
    have g1 := t1.1
    have g2 := t2.2.1
    rw [isIfaceD, Bool.and_eq_true] at g1
    rw [toStructD, Bool.and_eq_true] at g2
    have := of_decide_eq_true g1.1
    have := of_decide_eq_true g2.1
    omega
theorem assign_self {l : List Decl} {a : Tree} (h1 : knownB l a = true) : assignB l a a = true := by
  rw [knownB, Bool.and_eq_true] at h1
  have hok : okD l [a, a] = true := by
    have := h1.1
    rw [okD, List.all_cons, List.all_nil, Bool.and_true, Bool.and_eq_true] at this
    rw [okD_two, this.1, this.2]; rfl
  have n1 : ¬ a.kind = 8 := fun e => by have := h1.2; rw [tknown_eq, decide_eq_true e] at this; simp at this
  rw [assignB, hok, tassignB, h1.2, if_neg n1, teq_refl]
  simp

set_option maxHeartbeats 3200000 in
theorem typesLaws_law (a c : Tree) (m : Mem) (L : List Item) (s : Sl) (l : List Decl) (hs : SlRep rDecl m s l) (hS : TblS l) (h g : HTree) (hr : TreeRep m h a) (gr : TreeRep m g c) (hB : a.bulk ≤ 1048576) (gB : c.bulk ≤ 1048576) : TCall Try.prog 7 ⟨[s.v, treeV h, treeV g]⟩ m L (Ret (.bool true) m L) := by
  unfold TCall
  refine TCallX.enter Try.func7 rfl 50 rfl ?_
  repeat (first|refine q1 ?_|refine q3 ?_)
  refine TO.step rfl (OT.box rfl rfl rfl rfl rfl (fun b => ?_))
  skip
  refine TO.step rfl (OT.box rfl rfl rfl rfl rfl (fun b2 => ?_))
  repeat (first|refine q1 ?_|refine q3 ?_|refine q4 tab rfl rfl ?_|refine q5 ?_|refine q6 ?_)
  refine TO.step rfl (OT.call rfl rfl rfl rfl rfl rfl goes12 ((awake_law _ _).x ?_));
  rintro _ _ _ ⟨rfl, rfl, rfl⟩
  repeat (first|(first|refine q1 ?_|refine q3 ?_|refine q4 tab rfl rfl ?_|refine q5 ?_|refine q6 ?_|refine q13 ?_|refine q17 rfl ?_)|(refine qs rfl (qz tab 1 rfl rfl rfl rfl rfl rfl ?_)))
  refine TO.step rfl (OT.call rfl rfl rfl rfl rfl rfl goes20 ((known_law a _ _ s l hs hS h hr hB).x ?_));
  rintro _ _ _ ⟨rfl, rfl, rfl⟩
  repeat (refine q4 tab rfl rfl ?_)
  refine TO.split (b := knownB l a) rfl rfl (fun e1 => ?_) (fun e1 => ?_)
  · repeat (refine q4 tab rfl rfl ?_)
    refine TO.step rfl (OT.call rfl rfl rfl rfl rfl rfl goes18 ((sound_tbl _ _ s l hs hS).x ?_));
    rintro _ _ _ ⟨rfl, rfl, rfl⟩
    repeat (refine q4 tab rfl rfl ?_)
    (refine TO.splitP rfl rfl (fun e2 => ?_) (fun e2 => ?_))
    · repeat (first|(refine q4 tab rfl rfl ?_)|(refine qs rfl (qz tab 1 rfl rfl rfl rfl rfl rfl ?_)))
      refine TO.step rfl (OT.call rfl rfl rfl rfl rfl rfl goes22 ((assign_law a a _ _ s l hs hS h h hr hr hB hB).x ?_));
      rintro _ _ _ ⟨rfl, rfl, rfl⟩
      rw [assign_self e1]
      repeat (first|refine q1 ?_|refine q4 tab rfl rfl ?_|refine q5 ?_|refine q6 ?_|refine q13 ?_|refine q17 rfl ?_)
      skip
      refine TC.draw0 [] mixed 9 rfl ?_
      refine DO.pure tab (by repeat (first|exact Calm.ret|refine Calm.then ?_)) (by kernel_rfl) [0] (by kernel_rfl) rfl ?_
      (refine DO.loadL (k := 0) tab 1 1 (by repeat (first|exact Calm.ret|refine Calm.then ?_)) (by kernel_rfl) (by kernel_rfl) rfl rfl rfl rfl rfl rfl rfl rfl ?_)
      (refine DO.loadL (k := 0) tab 2 0 (by repeat (first|exact Calm.ret|refine Calm.then ?_)) (by kernel_rfl) (by kernel_rfl) rfl rfl rfl rfl rfl rfl rfl rfl ?_)
      refine DO.pure tab (by repeat (first|exact Calm.ret|refine Calm.then ?_)) (by kernel_rfl) [4] (by kernel_rfl) rfl ?_
      (refine DO.loadL (k := 0) tab 5 0 (by repeat (first|exact Calm.ret|refine Calm.then ?_)) (by kernel_rfl) (by kernel_rfl) rfl rfl rfl rfl rfl rfl rfl rfl ?_)
      (refine DO.loadL (k := 0) tab 6 1 (by repeat (first|exact Calm.ret|refine Calm.then ?_)) (by kernel_rfl) (by kernel_rfl) rfl rfl rfl rfl rfl rfl rfl rfl ?_)
      refine DO.run 3 rfl rfl (by kernel_rfl) rfl (OT.call rfl rfl rfl rfl rfl rfl goes24 ((comp_law a c _ _ s l hs hS h g hr gr hB gB).x ?_))
      rintro _ _ _ ⟨rfl, rfl, rfl⟩; refine ⟨Mem.le_refl _, _, List.Perm.refl _, ?_⟩
      refine DO.run 7 rfl rfl (by kernel_rfl) rfl (OT.call rfl rfl rfl rfl rfl rfl goes24 ((comp_law c a _ _ s l hs hS g h gr hr gB hB).x ?_))
      rintro _ _ _ ⟨rfl, rfl, rfl⟩; refine ⟨Mem.le_refl _, _, List.Perm.refl _, ?_⟩
      refine DO.run 8 rfl rfl (by kernel_rfl) rfl ?_; rw [comp_comm (a := c) (b := a)]; refine OT.neqBool tab rfl rfl rfl rfl rfl rfl ?_; rw [beq_self_eq_true]; refine ⟨Mem.le_refl _, _, List.Perm.refl _, ?_⟩
      (refine DO.nil0 (by kernel_rfl) ?_)
      rotate_left 1
      refine thenQ_n ?_
      repeat (first|(first|refine q1 ?_|refine q3 ?_|refine q4 tab rfl rfl ?_|refine q6 ?_|refine q13 ?_|refine q17 rfl ?_)|(first|refine qs rfl (qz tab 0 rfl rfl rfl rfl rfl rfl ?_)|refine qs rfl (qz tab 1 rfl rfl rfl rfl rfl rfl ?_)))
      refine TO.step rfl (OT.call rfl rfl rfl rfl rfl rfl goes22 ((assign_law a c _ _ s l hs hS h g hr gr hB gB).x ?_));
      rintro _ _ _ ⟨rfl, rfl, rfl⟩
      repeat (refine q4 tab rfl rfl ?_)
      refine TO.split (b := !assignB l a c) rfl rfl (fun d1 => ?_) (fun d1 => ?_)
      · repeat (first|refine q4 tab rfl rfl ?_|refine q5 ?_|refine q6 ?_|refine q15 ?_)
        refine retQ_ret rfl (by repeat (first|exact List.Sublist.refl _|refine List.Sublist.cons _ ?_)) ⟨rfl, rfl, ?_⟩
        rfl
      · rw [Bool.not_eq_false'] at d1
        repeat (first|(refine q4 tab rfl rfl ?_)|(first|refine qs rfl (qz tab 0 rfl rfl rfl rfl rfl rfl ?_)|refine qs rfl (qz tab 1 rfl rfl rfl rfl rfl rfl ?_)))
        refine TO.step rfl (OT.call rfl rfl rfl rfl rfl rfl goes22 ((assign_law c a _ _ s l hs hS g h gr hr gB hB).x ?_));
        rintro _ _ _ ⟨rfl, rfl, rfl⟩
        repeat (refine q4 tab rfl rfl ?_)
        refine TO.split (b := !assignB l c a) rfl rfl (fun d2 => ?_) (fun d2 => ?_)
        · repeat (first|refine q4 tab rfl rfl ?_|refine q5 ?_|refine q6 ?_|refine q15 ?_)
          refine retQ_ret rfl (by repeat (first|exact List.Sublist.refl _|refine List.Sublist.cons _ ?_)) ⟨rfl, rfl, ?_⟩
          rfl
        · rw [Bool.not_eq_false'] at d2
          repeat ((first|refine qs rfl (qz tab 0 rfl rfl rfl rfl rfl rfl ?_)|refine qs rfl (qz tab 1 rfl rfl rfl rfl rfl rfl ?_)))
          refine TO.step rfl (OT.call rfl rfl rfl rfl rfl rfl goes14 ((same_law a c _ _ h g hr gr hB gB).x ?_));
          rintro _ _ _ ⟨rfl, rfl, rfl⟩
          repeat (first|refine q4 tab rfl rfl ?_|refine q5 ?_|refine q6 ?_|refine q15 ?_)
          refine retQ_ret rfl (by repeat (first|exact List.Sublist.refl _|refine List.Sublist.cons _ ?_)) ⟨rfl, rfl, ?_⟩
          rw [assign_both d1 d2]
    · skip
      repeat (first|refine q1 ?_|refine q4 tab rfl rfl ?_|refine q5 ?_|refine q6 ?_|refine q13 ?_|refine q17 rfl ?_)
      refine TC.draw0 [] mixed 9 rfl ?_
      refine DO.pure tab (by repeat (first|exact Calm.ret|refine Calm.then ?_)) (by kernel_rfl) [0] (by kernel_rfl) rfl ?_
      (refine DO.loadL (k := 0) tab 1 1 (by repeat (first|exact Calm.ret|refine Calm.then ?_)) (by kernel_rfl) (by kernel_rfl) rfl rfl rfl rfl rfl rfl rfl rfl ?_)
      (refine DO.loadL (k := 0) tab 2 0 (by repeat (first|exact Calm.ret|refine Calm.then ?_)) (by kernel_rfl) (by kernel_rfl) rfl rfl rfl rfl rfl rfl rfl rfl ?_)
      refine DO.pure tab (by repeat (first|exact Calm.ret|refine Calm.then ?_)) (by kernel_rfl) [4] (by kernel_rfl) rfl ?_
      (refine DO.loadL (k := 0) tab 5 0 (by repeat (first|exact Calm.ret|refine Calm.then ?_)) (by kernel_rfl) (by kernel_rfl) rfl rfl rfl rfl rfl rfl rfl rfl ?_)
      (refine DO.loadL (k := 0) tab 6 1 (by repeat (first|exact Calm.ret|refine Calm.then ?_)) (by kernel_rfl) (by kernel_rfl) rfl rfl rfl rfl rfl rfl rfl rfl ?_)
      refine DO.run 3 rfl rfl (by kernel_rfl) rfl (OT.call rfl rfl rfl rfl rfl rfl goes24 ((comp_law a c _ _ s l hs hS h g hr gr hB gB).x ?_))
      rintro _ _ _ ⟨rfl, rfl, rfl⟩; refine ⟨Mem.le_refl _, _, List.Perm.refl _, ?_⟩
      refine DO.run 7 rfl rfl (by kernel_rfl) rfl (OT.call rfl rfl rfl rfl rfl rfl goes24 ((comp_law c a _ _ s l hs hS g h gr hr gB hB).x ?_))
      rintro _ _ _ ⟨rfl, rfl, rfl⟩; refine ⟨Mem.le_refl _, _, List.Perm.refl _, ?_⟩
      refine DO.run 8 rfl rfl (by kernel_rfl) rfl ?_; rw [comp_comm (a := c) (b := a)]; refine OT.neqBool tab rfl rfl rfl rfl rfl rfl ?_; rw [beq_self_eq_true]; refine ⟨Mem.le_refl _, _, List.Perm.refl _, ?_⟩
      (refine DO.nil0 (by kernel_rfl) ?_)
      rotate_left 1
      refine thenQ_n ?_
      repeat (first|(first|refine q1 ?_|refine q3 ?_|refine q4 tab rfl rfl ?_|refine q6 ?_|refine q13 ?_|refine q17 rfl ?_)|(first|refine qs rfl (qz tab 0 rfl rfl rfl rfl rfl rfl ?_)|refine qs rfl (qz tab 1 rfl rfl rfl rfl rfl rfl ?_)))
      refine TO.step rfl (OT.call rfl rfl rfl rfl rfl rfl goes22 ((assign_law a c _ _ s l hs hS h g hr gr hB gB).x ?_));
      rintro _ _ _ ⟨rfl, rfl, rfl⟩
      repeat (refine q4 tab rfl rfl ?_)
      refine TO.split (b := !assignB l a c) rfl rfl (fun d1 => ?_) (fun d1 => ?_)
      · repeat (first|refine q4 tab rfl rfl ?_|refine q5 ?_|refine q6 ?_|refine q15 ?_)
        refine retQ_ret rfl (by repeat (first|exact List.Sublist.refl _|refine List.Sublist.cons _ ?_)) ⟨rfl, rfl, ?_⟩
        rfl
      · rw [Bool.not_eq_false'] at d1
        repeat (first|(refine q4 tab rfl rfl ?_)|(first|refine qs rfl (qz tab 0 rfl rfl rfl rfl rfl rfl ?_)|refine qs rfl (qz tab 1 rfl rfl rfl rfl rfl rfl ?_)))
        refine TO.step rfl (OT.call rfl rfl rfl rfl rfl rfl goes22 ((assign_law c a _ _ s l hs hS g h gr hr gB hB).x ?_));
        rintro _ _ _ ⟨rfl, rfl, rfl⟩
        repeat (refine q4 tab rfl rfl ?_)
        refine TO.split (b := !assignB l c a) rfl rfl (fun d2 => ?_) (fun d2 => ?_)
        · repeat (first|refine q4 tab rfl rfl ?_|refine q5 ?_|refine q6 ?_|refine q15 ?_)
          refine retQ_ret rfl (by repeat (first|exact List.Sublist.refl _|refine List.Sublist.cons _ ?_)) ⟨rfl, rfl, ?_⟩
          rfl
        · rw [Bool.not_eq_false'] at d2
          repeat ((first|refine qs rfl (qz tab 0 rfl rfl rfl rfl rfl rfl ?_)|refine qs rfl (qz tab 1 rfl rfl rfl rfl rfl rfl ?_)))
          refine TO.step rfl (OT.call rfl rfl rfl rfl rfl rfl goes14 ((same_law a c _ _ h g hr gr hB gB).x ?_));
          rintro _ _ _ ⟨rfl, rfl, rfl⟩
          repeat (first|refine q4 tab rfl rfl ?_|refine q5 ?_|refine q6 ?_|refine q15 ?_)
          refine retQ_ret rfl (by repeat (first|exact List.Sublist.refl _|refine List.Sublist.cons _ ?_)) ⟨rfl, rfl, ?_⟩
          rw [assign_both d1 d2]
  · skip
    repeat (first|refine q1 ?_|refine q4 tab rfl rfl ?_|refine q5 ?_|refine q6 ?_|refine q13 ?_|refine q17 rfl ?_)
    refine TC.draw0 [] mixed 9 rfl ?_
    refine DO.pure tab (by repeat (first|exact Calm.ret|refine Calm.then ?_)) (by kernel_rfl) [0] (by kernel_rfl) rfl ?_
    (refine DO.loadL (k := 0) tab 1 1 (by repeat (first|exact Calm.ret|refine Calm.then ?_)) (by kernel_rfl) (by kernel_rfl) rfl rfl rfl rfl rfl rfl rfl rfl ?_)
    (refine DO.loadL (k := 0) tab 2 0 (by repeat (first|exact Calm.ret|refine Calm.then ?_)) (by kernel_rfl) (by kernel_rfl) rfl rfl rfl rfl rfl rfl rfl rfl ?_)
    refine DO.pure tab (by repeat (first|exact Calm.ret|refine Calm.then ?_)) (by kernel_rfl) [4] (by kernel_rfl) rfl ?_
    (refine DO.loadL (k := 0) tab 5 0 (by repeat (first|exact Calm.ret|refine Calm.then ?_)) (by kernel_rfl) (by kernel_rfl) rfl rfl rfl rfl rfl rfl rfl rfl ?_)
    (refine DO.loadL (k := 0) tab 6 1 (by repeat (first|exact Calm.ret|refine Calm.then ?_)) (by kernel_rfl) (by kernel_rfl) rfl rfl rfl rfl rfl rfl rfl rfl ?_)
    refine DO.run 3 rfl rfl (by kernel_rfl) rfl (OT.call rfl rfl rfl rfl rfl rfl goes24 ((comp_law a c _ _ s l hs hS h g hr gr hB gB).x ?_))
    rintro _ _ _ ⟨rfl, rfl, rfl⟩; refine ⟨Mem.le_refl _, _, List.Perm.refl _, ?_⟩
    refine DO.run 7 rfl rfl (by kernel_rfl) rfl (OT.call rfl rfl rfl rfl rfl rfl goes24 ((comp_law c a _ _ s l hs hS g h gr hr gB hB).x ?_))
    rintro _ _ _ ⟨rfl, rfl, rfl⟩; refine ⟨Mem.le_refl _, _, List.Perm.refl _, ?_⟩
    refine DO.run 8 rfl rfl (by kernel_rfl) rfl ?_; rw [comp_comm (a := c) (b := a)]; refine OT.neqBool tab rfl rfl rfl rfl rfl rfl ?_; rw [beq_self_eq_true]; refine ⟨Mem.le_refl _, _, List.Perm.refl _, ?_⟩
    (refine DO.nil0 (by kernel_rfl) ?_)
    rotate_left 1
    refine thenQ_n ?_
    repeat (first|(first|refine q1 ?_|refine q3 ?_|refine q4 tab rfl rfl ?_|refine q6 ?_|refine q13 ?_|refine q17 rfl ?_)|(first|refine qs rfl (qz tab 0 rfl rfl rfl rfl rfl rfl ?_)|refine qs rfl (qz tab 1 rfl rfl rfl rfl rfl rfl ?_)))
    refine TO.step rfl (OT.call rfl rfl rfl rfl rfl rfl goes22 ((assign_law a c _ _ s l hs hS h g hr gr hB gB).x ?_));
    rintro _ _ _ ⟨rfl, rfl, rfl⟩
    repeat (refine q4 tab rfl rfl ?_)
    refine TO.split (b := !assignB l a c) rfl rfl (fun d1 => ?_) (fun d1 => ?_)
    · repeat (first|refine q4 tab rfl rfl ?_|refine q5 ?_|refine q6 ?_|refine q15 ?_)
      refine retQ_ret rfl (by repeat (first|exact List.Sublist.refl _|refine List.Sublist.cons _ ?_)) ⟨rfl, rfl, ?_⟩
      rfl
    · rw [Bool.not_eq_false'] at d1
      repeat (first|(refine q4 tab rfl rfl ?_)|(first|refine qs rfl (qz tab 0 rfl rfl rfl rfl rfl rfl ?_)|refine qs rfl (qz tab 1 rfl rfl rfl rfl rfl rfl ?_)))
      refine TO.step rfl (OT.call rfl rfl rfl rfl rfl rfl goes22 ((assign_law c a _ _ s l hs hS g h gr hr gB hB).x ?_));
      rintro _ _ _ ⟨rfl, rfl, rfl⟩
      repeat (refine q4 tab rfl rfl ?_)
      refine TO.split (b := !assignB l c a) rfl rfl (fun d2 => ?_) (fun d2 => ?_)
      · repeat (first|refine q4 tab rfl rfl ?_|refine q5 ?_|refine q6 ?_|refine q15 ?_)
        refine retQ_ret rfl (by repeat (first|exact List.Sublist.refl _|refine List.Sublist.cons _ ?_)) ⟨rfl, rfl, ?_⟩
        rfl
      · rw [Bool.not_eq_false'] at d2
        repeat ((first|refine qs rfl (qz tab 0 rfl rfl rfl rfl rfl rfl ?_)|refine qs rfl (qz tab 1 rfl rfl rfl rfl rfl rfl ?_)))
        refine TO.step rfl (OT.call rfl rfl rfl rfl rfl rfl goes14 ((same_law a c _ _ h g hr gr hB gB).x ?_));
        rintro _ _ _ ⟨rfl, rfl, rfl⟩
        repeat (first|refine q4 tab rfl rfl ?_|refine q5 ?_|refine q6 ?_|refine q15 ?_)
        refine retQ_ret rfl (by repeat (first|exact List.Sublist.refl _|refine List.Sublist.cons _ ?_)) ⟨rfl, rfl, ?_⟩
        rw [assign_both d1 d2]
end Go.Sep

/-
  Rows of several cells an element that the call owns: a copy is made, elements are overwritten.
-/
set_option linter.unusedVariables false
set_option linter.unusedSimpArgs false
namespace Go.Sep
theorem encs_cons {H α : Type} (r : R H α) (x : H) (xs : List H) : encs r (x :: xs) = r.enc x ++ encs r xs := by simp [encs]
theorem encs_split {H α : Type} (r : R H α) {hs : List H} {k : Nat} {h : H} (hk : hs[k]? = some h) : encs r hs = encs r (hs.take k) ++ (r.enc h ++ encs r (hs.drop (k + 1))) := by
  obtain ⟨hlt, rfl⟩ := List.getElem?_eq_some_iff.1 hk
  rw [← encs_cons, ← encs_append, ← List.drop_eq_getElem_cons hlt, List.take_append_drop]
theorem encs_take_len {H α : Type} (r : R H α) {hs : List H} {k : Nat} {h : H} (hk : hs[k]? = some h) : (encs r (hs.take k)).length = k * r.size := by
  obtain ⟨hlt, _⟩ := List.getElem?_eq_some_iff.1 hk
  rw [encs_len, List.length_take, Nat.min_eq_left (by omega)]
theorem encs_drop {H α : Type} (r : R H α) {hs : List H} {k : Nat} {h : H} (hk : hs[k]? = some h) (j : Nat) : (encs r hs).drop (k * r.size + j) = (r.enc h ++ encs r (hs.drop (k + 1))).drop j := by
  rw [encs_split r hk, ← encs_take_len r hk, List.drop_append, List.drop_of_length_le (by omega), List.nil_append]
  congr 1; omega
theorem encs_set {H α : Type} (r : R H α) {hs : List H} {k : Nat} {h : H} (hk : hs[k]? = some h) (h2 : H) : encs r (hs.set k h2) = encs r (hs.take k) ++ (r.enc h2 ++ encs r (hs.drop (k + 1))) := by
  obtain ⟨hlt, _⟩ := List.getElem?_eq_some_iff.1 hk
  have hk2 : (hs.set k h2)[k]? = some h2 := by simp [hlt]
  rw [encs_split r hk2, List.take_set, List.drop_set_of_lt (by omega)]
  congr 2
  exact List.set_eq_of_length_le (by simp; omega)
theorem load_drop {P : Program} (T : Tab P) {t : TypeId} {cs cs2 : List Value} {k j : Nat} (h : cs.drop k = cs2.drop j) : T.load t cs k = T.load t cs2 j := by
  have hg : cs[k]? = cs2[j]? := by
    have := congrArg List.head? h
    simpa using this
  unfold Tab.load
  rw [h, hg]
/-- a part of an element of an owned row -/
theorem load_encs {P : Program} (T : Tab P) {H α : Type} (r : R H α) {t : TypeId} {hs : List H} {k j : Nat} {h : H} {v : Value} (hk : hs[k]? = some h) (hv : ∀ rest, T.load t (r.enc h ++ rest) j = some v) : T.load t (encs r hs) (k * r.size + j) = some v := by
  rw [load_drop T (encs_drop r hk j)]
  exact hv _
theorem putAt_right : ∀ (cs a b : List Value) (j : Nat), putAt (a ++ b) (a.length + j) cs = a ++ putAt b j cs
  | [], a, b, j => rfl
  | c :: cs, a, b, j => by
    rw [putAt, putAt, List.set_append_right _ _ (by omega), Nat.add_sub_cancel_left, Nat.add_assoc]
    exact putAt_right cs a (b.set j c) (j + 1)
theorem putAt_encs {H α : Type} (r : R H α) {hs : List H} {k j : Nat} {h h2 : H} {cs : List Value} (hk : hs[k]? = some h) (hp : ∀ rest, putAt (r.enc h ++ rest) j cs = r.enc h2 ++ rest) : putAt (encs r hs) (k * r.size + j) cs = encs r (hs.set k h2) := by
  rw [encs_split r hk, encs_set r hk, ← encs_take_len r hk, putAt_right, hp]
theorem All2.set' {H α : Type} {r : H → α → Prop} : ∀ {hs : List H} {l : List α} (k : Nat) {h : H} {a : α}, All2 r hs l → l[k]? = some a → r h a → All2 r (hs.set k h) l
  | [], [], k, h, a, _, hk, _ => by simp at hk
  | x :: xs, y :: ys, 0, h, a, hh, hk, hr => by simp at hk; subst hk; exact ⟨hr, hh.2⟩
  | x :: xs, y :: ys, k + 1, h, a, hh, hk, hr => ⟨hh.1, All2.set' k hh.2 (by simpa using hk) hr⟩
  | [], _ :: _, _, _, _, hh, _, _ => hh.elim
  | _ :: _, [], _, _, _, hh, _, _ => hh.elim
section
variable {P : Program} {N : Nat} {ρ : Env} {D : List Deferred} {m : Mem} {L : List Item} {Q : EPost} {full : List Oper} {o : Oper} {K : Env → Mem → List Item → Prop}
/-- append([]T{}, s...), s not empty: the copy's cells are one's own -/
theorem OT.cloneOwn {H α : Type} (T : Tab P) (r : R H α) {s2 : Sl} {l : List α} {a0 : Option Addr} {x y : Operand} {t t2 : TypeId} {d : Nat} (hs2 : SlRep r m s2 l) (hpos : 0 < s2.len)
    (ho : o.op = .call ⟨.builtin .append, ⟨[x, y]⟩, ⟨[t, t2]⟩⟩) (hd : o.dst = some d) (hN : Nat.blt d N = true) (hx : ev ρ x = some (.slice a0 0 0)) (hy : ev ρ y = some s2.v) (hT : T.okElem t t2 r.size r.bytes = true)
    (hK : ∀ hs b c, All2 (r.rep m) hs l → s2.len ≤ c → K ((d, .slice (some ⟨b, 0, none⟩) s2.len c) :: ρ) m (.cells b 0 (encs r hs) :: L)) : OT P N o ρ D m L Q K := by
  obtain ⟨e, e2, ei, ei2, q1, q2, q3, q4, q5, q6⟩ := okElem_get hT
  intro a w ha
  obtain ⟨hl2, k1, k2, k3, k4⟩ := hs2.src ha.st
  have hbp : 0 < ei.bytes := by omega
  have hfit := hs2.fit
  rw [← q4] at hfit
  obtain ⟨ti, h4, h5, h6⟩ := elem_get q1
  obtain ⟨ti2, p4, p5, p6⟩ := elem_get q2
  obtain ⟨_, _, hu, _⟩ := T.ok t ti h4
  rw [h5] at hu
  obtain ⟨_, _, hu2, _⟩ := T.ok t2 ti2 p4
  rw [p5] at hu2
  obtain ⟨info, r1, r2, r3, r4, r5⟩ := T.ok e ei h6
  have hbound : s2.len ≤ 140737488355328 := Nat.le_trans (Nat.le_mul_of_pos_right _ hbp) hfit
  have h48 : ¬ (Builtin.nextslicecap s2.len 0 * ei.bytes > 281474976710656) := by
    have := growslice_fits (need := s2.len) (old := 0) (bytes := ei.bytes) (by omega) hfit
    omega
  have hnew' := run_first (P := P) (k2.drew)
  have hold := run_first (P := P) (w := w.drew) (s := ⟨a0, 0, 0⟩) (size := ei.size) (news := []) ⟨by simp, .inl rfl⟩
  rw [← q3] at hnew'
  obtain ⟨nc, hnc, hge⟩ : ∃ nc, nc = (Question.appendCap s2.len 0 e).cut (w.tape w.drawn (.appendCap s2.len 0 e)) ∧ s2.len ≤ nc := ⟨_, rfl, by simp [Question.cut]⟩
  have hst := ha.st.drew.allocCells ((⟨encs r hl2⟩ : Array Value) ++ Builtin.zeroCells ei.zero.cells (nc - s2.len)) e
  have hl1 : ((⟨encs r hl2⟩ : Array Value) ++ Builtin.zeroCells ei.zero.cells (nc - s2.len)).toList = encs r hl2 ++ (Builtin.zeroCells ei.zero.cells (nc - s2.len)).toList := by simp
  rw [hl1] at hst
  have hst2 := hst.split.sub (L' := .cells w.drew.heap.size 0 (encs r hl2) :: L) (List.Sublist.cons_cons _ (List.sublist_cons_self _ _))
  have hb0 : ei.bytes ≠ 0 := by omega
  have hmax : ¬ (9223372036854775807 < (s2.len : Int)) := by omega
  have hne : ¬ (s2.len = 0) := by omega
  have hr : (Builtin.append_ #[t, t2] o.type #[.slice a0 0 0, s2.v]).run P w = .ok (.slice (some ⟨w.heap.size, 0, none⟩) s2.len nc) (w.drew.alloc (.cells ((⟨encs r hl2⟩ : Array Value) ++ Builtin.zeroCells ei.zero.cells (nc - s2.len)) e)) := by
    simp only [Sl.v] at hnew' hold
    simp [Builtin.append_, run_underlying hu, run_underlying hu2, sizeOf, typeInfo, zeroValue, r1, r3, r4, r5, Builtin.lenOf, hne, hnew', hold, h48, hmax, Question.forced, newRow, ← hnc, IntKind.max, IntKind.signed, IntKind.bits, hb0]
  have he' : (execOp a.eval o).run P w = .ok (.value (.slice (some ⟨w.heap.size, 0, none⟩) s2.len nc)) (w.drew.alloc (.cells ((⟨encs r hl2⟩ : Array Value) ++ Builtin.zeroCells ei.zero.cells (nc - s2.len)) e)) := by
    simp only [execOp, ho, resolve, invoke, builtin, Sem.run_bind, Sem.run_pure, Result.andThen_ok, List.map_toArray, List.map_cons, List.map_nil, ha.env.eval hx, ha.env.eval hy, hr]
  simp only [Oper.wp, he', Oper.upon, hd]
  have hp := ha.put hN (.slice (some ⟨w.heap.size, 0, none⟩) s2.len nc)
  exact ⟨_, _, _, ⟨hp.size, hp.env, hp.defers, hst2⟩, hK hl2 w.heap.size nc k1 hge⟩
/-- an element's part, of a row that the call owns -/
theorem OT.loadE {H α : Type} (T : Tab P) (i : Nat) (r : R H α) {hs : List H} {k j q : Nat} {h : H} {v : Value} {x : Operand} {t : TypeId} {b d : Nat} (hk : hs[k]? = some h) (hq : q = k * r.size + j) (hv : ∀ rest, T.load t (r.enc h ++ rest) j = some v) (ho : o.op = .load t x) (hd : o.dst = some d) (hN : Nat.blt d N = true)
    (hx : ev ρ x = some (.pointer (some ⟨b, q, none⟩))) (hi : L[i]? = some (.cells b 0 (encs r hs))) (hK : K ((d, v) :: ρ) m L) : OT P N o ρ D m L Q K := by
  subst hq
  exact OT.loadL (off := 0) (k := k * r.size + j) T i ho hd hN (by rw [Nat.zero_add]; exact hx) hi (load_encs T r hk hv) hK
theorem OT.storeE {H α : Type} (T : Tab P) (i : Nat) (r : R H α) {hs : List H} {k j q : Nat} {h h2 : H} {v : Value} {cs : List Value} {x y : Operand} {t : TypeId} {b : Nat} (hk : hs[k]? = some h) (hq : q = k * r.size + j) (hp : ∀ rest, putAt (r.enc h ++ rest) j cs = r.enc h2 ++ rest) (hj : j + cs.length ≤ r.size) (ho : o.op = .store t x y) (hd : o.dst = none)
    (hx : ev ρ x = some (.pointer (some ⟨b, q, none⟩))) (hy : ev ρ y = some v) (hv : cellsF v = some cs) (hs' : T.sizeOk t cs = true) (hi : L[i]? = some (.cells b 0 (encs r hs))) (hK : K ρ m (L.set i (.cells b 0 (encs r (hs.set k h2))))) : OT P N o ρ D m L Q K := by
  subst hq
  have hl := (List.getElem?_eq_some_iff.1 hk).1
  have hkl : (k + 1) * r.size ≤ hs.length * r.size := Nat.mul_le_mul_right _ hl
  refine OT.storeG (off := 0) (k := k * r.size + j) T i ho hd (by rw [Nat.zero_add]; exact hx) hy hv hs' hi (by rw [encs_len]; rw [Nat.add_mul] at hkl; omega) ?_
  rw [putAt_encs r hk hp]
  exact hK
end
end Go.Sep

/-
  The walks of own and of the copies of rows.
-/
set_option linter.unusedVariables false
set_option linter.unusedSimpArgs false
namespace Go.Sep
open Go.Proofs
attribute [local irreducible] TC TO OT TCallX TCall DO DOt thenQ blockQ retQ At

theorem SlRep.none {H α : Type} {r : R H α} {m : Mem} {s : Sl} {l : List α} (h : SlRep r m s l) (ha : s.a = Option.none) : l = [] := by
  obtain ⟨hs, h1, h2⟩ := h.cells
  rcases h2 with h2 | ⟨b, o, h3, _⟩
  · exact h2.1
  · rw [ha] at h3; cases h3

/-- a copy: nothing, or a row of one's own -/
def MadeC {H α : Type} (r : R H α) (m : Mem) (L : List Item) (l : List α) : Value → Mem → List Item → Prop := fun v m' L' => m ≤ m' ∧
  ((l = [] ∧ ∃ s : Sl, v = s.v ∧ SlRep r m' s [] ∧ L' = L) ∨ ∃ b c hs, v = .slice (some ⟨b, 0, none⟩) l.length c ∧ l.length ≤ c ∧ All2 (r.rep m') hs l ∧ L' = .cells b 0 (encs r hs) :: L)

set_option maxHeartbeats 800000 in
theorem clone_type (m : Mem) (L : List Item) (s : Sl) (l : List Tree) (hs : SlRep rTree m s l) : TCall Try.prog 101 ⟨[s.v]⟩ m L (MadeC rTree m L l) := by
  have hl := hs.len
  have hf := hs.fit
  unfold TCall
  refine TCallX.enter Try.func101 rfl 8 rfl ?_
  repeat (first|refine q1 ?_|refine q3 ?_|refine q4 tab rfl rfl ?_|refine q5 ?_|refine q6 ?_)
  refine TO.step rfl (OT.nilSlice (s := s) tab rfl rfl rfl rfl rfl rfl ?_)
  repeat (first|refine q5 ?_|refine q6 ?_)
  refine TC.condP rfl (fun hn => ?_) (fun hn => ?_)
  · repeat (first|refine q1 ?_|refine q3 ?_|refine q4 tab rfl rfl ?_|refine q5 ?_|refine q6 ?_|refine q8 ?_|refine q15 ?_)
    refine retQ_ret rfl (by repeat (exact List.Sublist.refl _)) ⟨Mem.le_refl _, .inl ⟨hs.none hn, ⟨none, 0, 0⟩, rfl, SlRep.nil _ _, rfl⟩⟩
  · repeat (first|refine q1 ?_|refine q3 ?_|refine q6 ?_|refine q13 ?_)
    refine TO.step rfl (OT.lit tab rfl rfl rfl rfl (fun bl => ?_))
    repeat (refine q4 tab rfl rfl ?_)
    refine TO.drop (L' := L) (List.sublist_cons_self _ _) ?_
    by_cases hz : l = []
    · subst hz
      refine TO.growL (size := rTree.size) bl ?_
      refine TO.step rfl (OT.append tab rTree 0 (SlRep.lit0 rTree _ bl) (Own.lit bl 0 0) hs rfl rfl rfl rfl rfl rfl rfl (by simp) (fun s' m' hm' hs' ho' => ?_))
      repeat (first|refine q4 tab rfl rfl ?_|refine q5 ?_|refine q6 ?_|refine q15 ?_)
      exact retQ_ret rfl (L' := L) (by repeat (first|exact List.Sublist.refl _|refine List.Sublist.cons _ ?_)) ⟨hm', .inl ⟨rfl, s', rfl, hs', rfl⟩⟩
    · have hp : 0 < s.len := by rw [hl]; exact List.length_pos_iff.2 hz
      refine TO.step rfl (OT.cloneOwn tab rTree hs hp rfl rfl rfl rfl rfl rfl (fun hh b c h2 hc => ?_))
      rw [hl] at hc ⊢
      repeat (first|refine q4 tab rfl rfl ?_|refine q5 ?_|refine q6 ?_|refine q15 ?_)
      exact retQ_ret rfl (by repeat (exact List.Sublist.refl _)) ⟨Mem.le_refl _, .inr ⟨b, c, hh, rfl, hc, h2, rfl⟩⟩
set_option maxHeartbeats 800000 in
theorem clone_fld (m : Mem) (L : List Item) (s : Sl) (l : List Fld) (hs : SlRep rField m s l) : TCall Try.prog 66 ⟨[s.v]⟩ m L (MadeC rField m L l) := by
  have hl := hs.len
  have hf := hs.fit
  unfold TCall
  refine TCallX.enter Try.func66 rfl 8 rfl ?_
  repeat (first|refine q1 ?_|refine q3 ?_|refine q4 tab rfl rfl ?_|refine q5 ?_|refine q6 ?_)
  refine TO.step rfl (OT.nilSlice (s := s) tab rfl rfl rfl rfl rfl rfl ?_)
  repeat (first|refine q5 ?_|refine q6 ?_)
  refine TC.condP rfl (fun hn => ?_) (fun hn => ?_)
  · repeat (first|refine q1 ?_|refine q3 ?_|refine q4 tab rfl rfl ?_|refine q5 ?_|refine q6 ?_|refine q8 ?_|refine q15 ?_)
    refine retQ_ret rfl (by repeat (exact List.Sublist.refl _)) ⟨Mem.le_refl _, .inl ⟨hs.none hn, ⟨none, 0, 0⟩, rfl, SlRep.nil _ _, rfl⟩⟩
  · repeat (first|refine q1 ?_|refine q3 ?_|refine q6 ?_|refine q13 ?_)
    refine TO.step rfl (OT.lit tab rfl rfl rfl rfl (fun bl => ?_))
    repeat (refine q4 tab rfl rfl ?_)
    refine TO.drop (L' := L) (List.sublist_cons_self _ _) ?_
    by_cases hz : l = []
    · subst hz
      refine TO.growL (size := rField.size) bl ?_
      refine TO.step rfl (OT.append tab rField 0 (SlRep.lit0 rField _ bl) (Own.lit bl 0 0) hs rfl rfl rfl rfl rfl rfl rfl (by simp) (fun s' m' hm' hs' ho' => ?_))
      repeat (first|refine q4 tab rfl rfl ?_|refine q5 ?_|refine q6 ?_|refine q15 ?_)
      exact retQ_ret rfl (L' := L) (by repeat (first|exact List.Sublist.refl _|refine List.Sublist.cons _ ?_)) ⟨hm', .inl ⟨rfl, s', rfl, hs', rfl⟩⟩
    · have hp : 0 < s.len := by rw [hl]; exact List.length_pos_iff.2 hz
      refine TO.step rfl (OT.cloneOwn tab rField hs hp rfl rfl rfl rfl rfl rfl (fun hh b c h2 hc => ?_))
      rw [hl] at hc ⊢
      repeat (first|refine q4 tab rfl rfl ?_|refine q5 ?_|refine q6 ?_|refine q15 ?_)
      exact retQ_ret rfl (by repeat (exact List.Sublist.refl _)) ⟨Mem.le_refl _, .inr ⟨b, c, hh, rfl, hc, h2, rfl⟩⟩

theorem loadT (rest : List Value) (h : HTree) : tab.load 27 (treeC h ++ rest) 0 = some (treeV h) := rfl
theorem putT (rest : List Value) (h h2 : HTree) : putAt (treeC h ++ rest) 0 (treeC h2) = treeC h2 ++ rest := rfl

set_option maxHeartbeats 3200000 in
theorem own_law (a : Tree) : ∀ (m : Mem) (L : List Item) (h : HTree) (hr : TreeRep m h a), TCall Try.prog 63 ⟨[treeV h]⟩ m L (MadeT m L a) := by
  induction a using Tree.ind with
  | h a ih =>
  intro m L h hr
  obtain ⟨h1, h2, h3, h4⟩ := hr
  have hl := h4.len
  have hsm := h4.small rfl
  obtain ⟨kd, nm, nu, s⟩ := h
  unfold TCall
  refine TCallX.enter Try.func63 rfl 25 rfl ?_
  repeat (first|refine q1 ?_|refine q3 ?_)
  refine TO.step rfl (OT.box rfl rfl rfl rfl rfl (fun b => ?_))
  skip
  refine TO.step rfl (OT.alloc tab rfl rfl rfl rfl (fun b2 => ?_))
  repeat (first|(first|refine q1 ?_|refine q3 ?_|refine q4 tab rfl rfl ?_|refine q5 ?_|refine q6 ?_)|(refine qs rfl (ql tab 1 rfl rfl rfl rfl rfl rfl ?_)))
  refine TO.step rfl (OT.call rfl rfl rfl rfl rfl rfl goes101 ((clone_type m _ s a.kids h4).x ?_));
  rintro _ m1 _ ⟨hm1, ⟨hnil, s', rfl, hs', rfl⟩ | ⟨bc, c, hs, rfl, hc, hh, rfl⟩⟩
  · have hz : s'.len = 0 := hs'.len
    repeat (refine q4 tab rfl rfl ?_)
    (refine TO.step rfl (OT.storeL tab 1 rfl rfl rfl rfl rfl rfl rfl rfl ?_))
    repeat (first|(first|refine q1 ?_|refine q2 ?_|refine q3 ?_|refine q4 tab rfl rfl ?_|refine q5 ?_|refine q6 ?_)|(refine qs rfl (ql tab 1 rfl rfl rfl rfl rfl rfl ?_)))
    refine TC.loopK (ι := Unit) [1, 2, 10, 11] rfl (fun _ => [(12, .int .i64 0)]) (fun _ => m1) (fun _ => .cells b2 0 (treeC ⟨0, [], 0, ⟨none, 0, 0⟩⟩) :: .cells b 0 (treeC ⟨kd, nm, nu, s'⟩) :: L) (fun _ => True) (fun _ => 0) () (by repeat (first|exact trivial|refine And.intro rfl ?_)) rfl (by repeat (exact List.Sublist.refl _)) trivial ?_
    rintro _ _
    repeat (first|refine q1 ?_|refine q3 ?_|refine q4 tab rfl rfl ?_|refine q5 ?_|refine q6 ?_)
    refine TC.condP rfl (fun e => ?_) (fun e => ?_)
    · omega
    · repeat (first|(first|refine q1 ?_|refine q3 ?_|refine q6 ?_|refine q10 ?_|refine q11 ?_|refine q14 ?_)|(refine qs rfl (qz tab 1 rfl rfl rfl rfl rfl rfl ?_)))
      (refine TO.step rfl (OT.storeL0 tab 0 rfl rfl rfl rfl rfl rfl rfl rfl ?_))
      repeat (first|refine q5 ?_|refine q6 ?_|refine q15 ?_)
      refine retQ_ret_c1 tab 0 rfl rfl rfl rfl (L' := L) (by repeat (first|exact List.Sublist.refl _|refine List.Sublist.cons _ ?_)) ⟨hm1, rfl, ⟨kd, nm, nu, s'⟩, rfl, h1, h2, h3, by rw [hnil]; exact hs'⟩
  · repeat (refine q4 tab rfl rfl ?_)
    (refine TO.step rfl (OT.storeL tab 2 rfl rfl rfl rfl rfl rfl rfl rfl ?_))
    repeat (first|(first|refine q1 ?_|refine q2 ?_|refine q3 ?_|refine q4 tab rfl rfl ?_|refine q5 ?_|refine q6 ?_)|(refine qs rfl (ql tab 2 rfl rfl rfl rfl rfl rfl ?_)))
    refine TC.loopK (ι := Nat × List HTree × Mem) [1, 2, 10, 11] rfl (fun x => [(12, .int .i64 (x.1 : Int))]) (fun x => x.2.2) (fun x => .cells bc 0 (encs rTree x.2.1) :: .cells b2 0 (treeC ⟨0, [], 0, ⟨none, 0, 0⟩⟩) :: .cells b 0 (treeC ⟨kd, nm, nu, ⟨some ⟨bc, 0, none⟩, a.kids.length, c⟩⟩) :: L) (fun x => x.1 ≤ a.kids.length ∧ m ≤ x.2.2 ∧ All2 (rTree.rep x.2.2) x.2.1 a.kids) (fun x => a.kids.length - x.1) (0, hs, m1) (by repeat (first|exact trivial|refine And.intro rfl ?_)) rfl (by repeat (exact List.Sublist.refl _)) ⟨Nat.zero_le _, hm1, hh⟩ ?_
    rintro ⟨k, hk, m2⟩ ⟨hkl, hm2, hA⟩
    simp only at hkl hm2 hA ⊢
    repeat (first|refine q1 ?_|refine q3 ?_|refine q4 tab rfl rfl ?_|refine q5 ?_|refine q6 ?_)
    refine TC.condP rfl (fun e => ?_) (fun e => ?_)
    · have hlt : k < a.kids.length := by omega
      have hx : a.kids[k]? = some a.kids[k] := by simp [hlt]
      obtain ⟨hd, g1, g2⟩ := hA.get hx
      repeat (first|refine q1 ?_|refine q2 ?_|refine q3 ?_|refine q4 tab rfl rfl ?_|refine q6 ?_|refine q13 ?_)
      refine TO.step rfl (OT.indexP (sz := 4) tab k rfl rfl rfl rfl rfl rfl rfl hlt ?_)
      refine TO.step rfl (OT.loadE tab 0 rTree (k := k) (j := 0) g1 (by simp [rTree, mkR]) (fun rest => loadT rest hd) rfl rfl rfl rfl rfl ?_)
      skip
      refine TO.step rfl (OT.alloc tab rfl rfl rfl rfl (fun b4 => ?_))
      repeat (refine q4 tab rfl rfl ?_)
      (refine TO.step rfl (OT.storeL0 tab 0 rfl rfl rfl rfl rfl rfl rfl rfl ?_))
      repeat (first|refine q5 ?_|refine q6 ?_)
      refine TC.draw0 [6] mixed 7 rfl ?_
      refine DO.pure tab (by repeat (first|exact Calm.ret|refine Calm.then ?_|refine Calm.block ?_)) (by kernel_rfl) [0] (by kernel_rfl) rfl ?_
      (refine DO.loadL tab 1 3 (by repeat (first|exact Calm.ret|refine Calm.then ?_|refine Calm.block ?_)) (by kernel_rfl) (by kernel_rfl) rfl rfl rfl rfl rfl rfl rfl rfl ?_)
      refine DO.pure tab (by repeat (first|exact Calm.ret|refine Calm.then ?_|refine Calm.block ?_)) (by kernel_rfl) [2] (by kernel_rfl) rfl ?_
      (refine DO.loadL (k := 0) tab 3 0 (by repeat (first|exact Calm.ret|refine Calm.then ?_|refine Calm.block ?_)) (by kernel_rfl) (by kernel_rfl) rfl rfl rfl rfl rfl rfl rfl rfl ?_)
      refine DO.run 4 rfl rfl (by kernel_rfl) rfl (OT.call rfl rfl rfl rfl rfl rfl goes63 ((ih _ (List.getElem_mem hlt) m2 _ hd (rTree_iff.1 g2)).x ?_))
      rintro _ m3 _ ⟨hm3, rfl, h', rfl, hrt⟩; refine ⟨hm3, _, List.Perm.refl _, ?_⟩
      refine DO.indexP (sz := 4) tab 5 k (by repeat (first|exact Calm.ret|refine Calm.then ?_|refine Calm.block ?_)) (by kernel_rfl) (by kernel_rfl) rfl rfl rfl rfl rfl rfl rfl rfl rfl hlt ?_
      refine DO.tail ?_
      refine DOt.run 6 rfl rfl (by kernel_rfl) rfl ?_
      refine OT.perm (by rw [List.append_nil]) ?_; refine OT.storeE tab 1 rTree (k := k) (j := 0) (h2 := h') g1 (by simp [rTree, mkR]) (fun rest => putT rest hd h') (by show 0 + 4 ≤ 4; decide) rfl rfl rfl rfl rfl rfl rfl ?_
      refine DOt.nil (by kernel_rfl) ?_
      rotate_left 1
      repeat (first|refine q3 ?_|refine q6 ?_|refine q7 ?_)
      refine TO.step rfl (OT.arith (r' := ((k + 1 : Nat) : Int)) rfl rfl rfl rfl rfl rfl rfl (by omega) ?_)
      repeat (first|refine q4 tab rfl rfl ?_|refine q5 ?_|refine q6 ?_)
      exact ⟨(k + 1, hk.set k h', m3), (by repeat (first|exact trivial|refine And.intro rfl ?_)), (by repeat (first|exact trivial|refine And.intro rfl ?_)), rfl, rfl, (by repeat (first|exact List.Sublist.refl _|refine List.Sublist.cons _ ?_)), ⟨by simp only; omega, Mem.le_trans hm2 hm3, (hA.mono fun _ _ => rTree.mono hm3).set' k hx (rTree_iff.2 hrt)⟩, by simp only; omega⟩
    · refine TC.freeze fun m3 hm3 hbc => ?_
      repeat (first|(first|refine q1 ?_|refine q3 ?_|refine q6 ?_|refine q10 ?_|refine q11 ?_|refine q14 ?_)|(refine qs rfl (qz tab 1 rfl rfl rfl rfl rfl rfl ?_)))
      (refine TO.step rfl (OT.storeL0 tab 0 rfl rfl rfl rfl rfl rfl rfl rfl ?_))
      repeat (first|refine q5 ?_|refine q6 ?_|refine q15 ?_)
      have hf : a.kids.length * 56 ≤ 140737488355328 := by have := h4.fit; rw [hl] at this; exact this
      refine retQ_ret_c1 tab 0 rfl rfl rfl rfl (L' := L) (by repeat (first|exact List.Sublist.refl _|refine List.Sublist.cons _ ?_)) ⟨Mem.le_trans hm2 hm3, rfl, ⟨kd, nm, nu, ⟨some ⟨bc, 0, none⟩, a.kids.length, c⟩⟩, rfl, h1, h2, h3, ⟨rfl, hc, hf, hk, hA.mono fun _ _ => rTree.mono hm3, .inr ⟨bc, 0, rfl, hbc⟩⟩⟩
end Go.Sep

/-
  The law TypesMembers.
-/
set_option linter.unusedVariables false
set_option linter.unusedSimpArgs false
namespace Go.Sep
open Go.Proofs
attribute [local irreducible] TC TO OT TCallX TCall DO DOt thenQ blockQ retQ At

def methodsO (l : List Decl) (a : Tree) : List Fld := if okD l [a] = true then methodsD l a else []
theorem memF_nil (n : Str) : memF [] n = none := rfl
theorem memT_nil (n : Str) : memT [] n = zeroT := rfl
theorem theD_no {l : List Decl} {n : Str} (h : hasD l n = false) : theD l n = zeroD := by
  rw [hasD_find] at h
  cases hf : findD l n with
  | none => rw [theD, hf]; rfl
  | some d => rw [hf] at h; cases h
theorem methodsD_kind {l : List Decl} {a : Tree} : methodsD l a = if (ofD l a).kind = 4 then (theD l (ofD l a).name).methods else [] := by
  rw [methodsD]
  by_cases h : (ofD l a).kind = 4
  · rw [decide_eq_true h, if_pos h]
    cases hh : hasD l (ofD l a).name with
    | true => rfl
    | false => rw [theD_no hh]; rfl
  · rw [decide_eq_false h, if_neg h]; rfl

set_option maxHeartbeats 1600000 in
theorem tmethod_law (a : Tree) (hkid : a.kind = 5 → a.kids.length = 1) (n : Str) (bt cc : Nat) (es : Ents Str) (l : List Decl) (m : Mem) (L : List Item) (h : HTree) (hr : TreeRep m h a) (ho : m.o bt = some (mapO kStr es cc)) (hT : TblRep m es l) :
    TCall Try.prog 62 ⟨[.map (some bt), treeV h, strV n]⟩ m L (MadeM m L (methodsD l a) n) := by
  obtain ⟨h1, h2, h3, h4⟩ := id hr
  have hx0 : a.kind = 5 → a.kids[0]? = some (kid0 a) := fun e => by rw [one_kid (hkid e)]; rfl
  have hts : a.kind = 5 → toStructD l a = isStructD l (kid0 a) := fun e => by rw [toStruct_kid (hkid e), decide_eq_true e]; rfl
  unfold TCall
  refine TCallX.enter Try.func62 rfl 36 rfl ?_
  rw [methodsD_kind]
  repeat (first|refine q1 ?_|refine q3 ?_)
  refine TO.step rfl (OT.box rfl rfl rfl rfl rfl (fun b => ?_))
  skip
  refine TO.step rfl (OT.alloc tab rfl rfl rfl rfl (fun b6 => ?_))
  refine TO.pureP tab rfl rfl ?_
  refine TO.nil ?_
  refine thenQ_n ?_
  refine TC.seq ?_
  refine TC.cutT (ι := HTree) [0, 2, 4, 6] rfl (fun _ => []) (fun _ => m) (fun x => .cells b6 0 (treeC ⟨0, [], 0, ⟨none, 0, 0⟩⟩) :: .cells b 0 (treeC x) :: L) (fun x => TreeRep m x (ofD l a)) ?_ (fun x hx => ?_)
  · repeat (first|(first|refine q1 ?_|refine q3 ?_|refine q4 tab rfl rfl ?_)|(refine qs rfl (ql tab 1 rfl rfl rfl rfl rfl rfl ?_)))
    (refine TO.splitP rfl rfl (fun e1 => ?_) (fun e1 => ?_))
    · have e5 : a.kind = 5 := by omega
      repeat (first|(refine q4 tab rfl rfl ?_)|(refine qs rfl (ql tab 1 rfl rfl rfl rfl rfl rfl ?_)))
      refine TO.step rfl (OT.index tab rTree 0 h4 rfl rfl rfl rfl rfl (by first | rfl | omega) rfl (hx0 e5) ?_)
      rintro b' i' h' hrd hA
      (refine TO.step rfl (OT.loadA0 tab hA rfl rfl rfl rfl rfl ?_))
      skip
      refine TO.step rfl (OT.call rfl rfl rfl rfl rfl rfl goes50 ((tstruct_law (kid0 a) bt cc es l _ _ h' (rTree_iff.1 hrd) ho hT).x ?_));
      rintro _ _ _ ⟨rfl, rfl, rfl⟩
      repeat (first|refine q4 tab rfl rfl ?_|refine q5 ?_|refine q6 ?_)
      refine TC.cond (t := isStructD l (kid0 a)) rfl (fun e2 => ?_) (fun e2 => ?_)
      · repeat (first|(first|refine q3 ?_|refine q4 tab rfl rfl ?_)|(refine qs rfl (ql tab 1 rfl rfl rfl rfl rfl rfl ?_)))
        refine TO.step rfl (OT.index tab rTree 0 h4 rfl rfl rfl rfl rfl (by first | rfl | omega) rfl (hx0 e5) ?_)
        rintro b3 i3 h3' hrd3 hA3
        (refine TO.step rfl (OT.loadA0 tab hA3 rfl rfl rfl rfl rfl ?_))
        skip
        (refine TO.step rfl (OT.storeL0 tab 1 rfl rfl rfl rfl rfl rfl rfl rfl ?_))
        repeat (first|refine q5 ?_|refine q6 ?_)
        exact ⟨h3', (by repeat (exact trivial)), (by repeat (first|exact trivial|refine And.intro rfl ?_)), rfl, rfl, (by repeat (exact List.Sublist.refl _)), by rw [ofD, hts e5, if_pos e2]; exact rTree_iff.1 hrd3⟩
      · repeat (first|refine q6 ?_|refine q13 ?_)
        exact ⟨h, (by repeat (exact trivial)), (by repeat (first|exact trivial|refine And.intro rfl ?_)), rfl, rfl, (by repeat (exact List.Sublist.refl _)), by rw [ofD, hts e5, if_neg (by rw [e2]; simp)]; exact hr⟩
    · repeat (first|refine q4 tab rfl rfl ?_|refine q5 ?_|refine q6 ?_|refine q13 ?_|refine q17 rfl ?_)
      have : toStructD l a = false := by rw [toStructD, decide_eq_false (fun e => e1 (by omega))]; rfl
      exact ⟨h, (by repeat (exact trivial)), (by repeat (first|exact trivial|refine And.intro rfl ?_)), rfl, rfl, (by repeat (exact List.Sublist.refl _)), by rw [ofD, if_neg (by rw [this]; simp)]; exact hr⟩
  · have x1 := hx.kind
    have x2 := hx.name
    repeat (first|(first|refine q1 ?_|refine q3 ?_|refine q4 tab rfl rfl ?_|refine q5 ?_|refine q6 ?_)|(refine qs rfl (ql tab 1 rfl rfl rfl rfl rfl rfl ?_)))
    refine TC.condN rfl (fun e1 => ?_) (fun e1 => ?_)
    · repeat (first|refine q1 ?_|refine q3 ?_|refine q4 tab rfl rfl ?_)
      (refine TO.step rfl (OT.storeL0 tab 0 rfl rfl rfl rfl rfl rfl rfl rfl ?_))
      repeat (first|refine q4 tab rfl rfl ?_|refine q5 ?_|refine q6 ?_|refine q8 ?_|refine q15 ?_)
      refine retQ_ret_c tab 0 rfl rfl rfl rfl rfl (L' := L) (by repeat (first|exact List.Sublist.refl _|refine List.Sublist.cons _ ?_)) ⟨Mem.le_refl _, rfl, ⟨0, [], 0, ⟨none, 0, 0⟩⟩, ?_, ?_⟩
      · rw [if_neg (by omega)]; rfl
      · rw [if_neg (by omega)]; exact zeroT_rep _
    · obtain ⟨hd, hhd, hrd⟩ := hT.look x.name
      repeat (first|(first|refine q1 ?_|refine q3 ?_|refine q4 tab rfl rfl ?_|refine q6 ?_|refine q13 ?_)|(refine qs rfl (ql tab 1 rfl rfl rfl rfl rfl rfl ?_)))
      refine TO.step rfl (OT.lookupP tab kStr x.name rfl rfl rfl rfl rfl rfl rfl ho ?_)
      refine TO.conv ?_ hhd
      repeat (refine q4 tab rfl rfl ?_)
      refine TO.step rfl (OT.call rfl rfl rfl rfl rfl rfl goes100 ((member_law _ _ hd.methods (theD l x.name).methods n hrd.methods).x ?_));
      rintro _ m2 _ ⟨hm2, rfl, ht, rfl, hrt⟩
      repeat (refine q4 tab rfl rfl ?_)
      (refine TO.step rfl (OT.storeL0 tab 0 rfl rfl rfl rfl rfl rfl rfl rfl ?_))
      repeat (first|refine q4 tab rfl rfl ?_|refine q5 ?_|refine q6 ?_|refine q15 ?_)
      refine retQ_ret_c tab 0 rfl rfl rfl rfl rfl (L' := L) (by repeat (first|exact List.Sublist.refl _|refine List.Sublist.cons _ ?_)) ⟨hm2, rfl, ht, ?_, ?_⟩
      · rw [if_pos (by omega), ← x2]
      · rw [if_pos (by omega), ← x2]; exact hrt

set_option maxHeartbeats 1600000 in
theorem method_law (a : Tree) (n : Str) (m : Mem) (L : List Item) (s : Sl) (l : List Decl) (hs : SlRep rDecl m s l) (hS : TblS l) (h : HTree) (hr : TreeRep m h a) (hB : a.bulk ≤ 1048576) : TCall Try.prog 28 ⟨[s.v, treeV h, strV n]⟩ m L (MadeM m L (methodsO l a) n) := by
  unfold TCall
  refine TCallX.enter Try.func28 rfl 28 rfl ?_
  repeat (first|refine q1 ?_|refine q3 ?_)
  refine TO.step rfl (OT.box rfl rfl rfl rfl rfl (fun b => ?_))
  skip
  refine TO.step rfl (OT.alloc tab rfl rfl rfl rfl (fun b6 => ?_))
  repeat (first|(first|refine q1 ?_|refine q3 ?_|refine q4 tab rfl rfl ?_|refine q5 ?_|refine q6 ?_)|(refine qs rfl (qz tab 1 rfl rfl rfl rfl rfl rfl ?_)))
  refine TO.step rfl (OT.lit tab rfl rfl rfl rfl (fun b2 => ?_))
  refine TO.freeze fun m1 hm1 hA1 => ?_
  skip
  refine TO.step rfl (OT.call rfl rfl rfl rfl rfl rfl goes56 ((open_law m1 _ s l (hs.mono hm1) hS _ [a] (slT1 (h := h) hA1 (hr.mono hm1)) (fun x hx => by rw [List.mem_singleton.1 hx]; exact hB)).x ?_));
  rintro _ m2 _ ⟨hm2, rfl, ⟨ok, bt, es, c, rfl, ho, hT⟩ | ⟨ok, rfl⟩⟩
  · have hm := Mem.le_trans hm1 hm2
    have hsound : a.sound = true := by
      rw [okD, List.all_cons, List.all_nil, Bool.and_true, Bool.and_eq_true] at ok
      exact ok.2
    rw [methodsO, if_pos ok]
    repeat (first|refine q1 ?_|refine q3 ?_|refine q4 tab rfl rfl ?_|refine q5 ?_|refine q6 ?_)
    refine TO.step rfl (OT.mapEq tab kStr (r := some bt) rfl rfl rfl rfl rfl rfl ?_)
    repeat (first|(first|refine q1 ?_|refine q3 ?_|refine q4 tab rfl rfl ?_|refine q5 ?_|refine q6 ?_|refine q13 ?_|refine q17 rfl ?_)|(refine qs rfl (qz tab 1 rfl rfl rfl rfl rfl rfl ?_)))
    refine TO.step rfl (OT.call rfl rfl rfl rfl rfl rfl goes62 ((tmethod_law a (sound_kids hsound) n bt c es l m2 _ h (hr.mono hm) ho hT).x ?_));
    rintro _ m3 _ ⟨hm3, rfl, ht, rfl, hrt⟩
    repeat (refine q4 tab rfl rfl ?_)
    refine TO.step rfl (OT.alloc tab rfl rfl rfl rfl (fun b9 => ?_))
    skip
    (refine TO.step rfl (OT.storeL0 tab 0 rfl rfl rfl rfl rfl rfl rfl rfl ?_))
    repeat (first|(first|refine q1 ?_|refine q3 ?_|refine q4 tab rfl rfl ?_|refine q5 ?_|refine q6 ?_)|(refine qs rfl (qz tab 0 rfl rfl rfl rfl rfl rfl ?_)))
    refine TO.step rfl (OT.call rfl rfl rfl rfl rfl rfl goes63 ((own_law _ m3 _ ht hrt).x ?_));
    rintro _ m4 _ ⟨hm4, rfl, h', rfl, hr'⟩
    repeat (refine q4 tab rfl rfl ?_)
    (refine TO.step rfl (OT.storeL0 tab 1 rfl rfl rfl rfl rfl rfl rfl rfl ?_))
    repeat (first|refine q4 tab rfl rfl ?_|refine q5 ?_|refine q6 ?_|refine q15 ?_)
    refine retQ_ret_c tab 1 rfl rfl rfl rfl rfl (L' := L) (by repeat (first|exact List.Sublist.refl _|refine List.Sublist.cons _ ?_)) ⟨Mem.le_trans hm (Mem.le_trans hm3 hm4), rfl, h', rfl, hr'⟩
  · rw [methodsO, if_neg (by rw [ok]; simp)]
    repeat (first|refine q1 ?_|refine q3 ?_|refine q4 tab rfl rfl ?_|refine q5 ?_|refine q6 ?_)
    refine TO.step rfl (OT.mapEq tab kStr (r := none) rfl rfl rfl rfl rfl rfl ?_)
    repeat (first|refine q1 ?_|refine q3 ?_|refine q4 tab rfl rfl ?_|refine q5 ?_|refine q6 ?_|refine q16 rfl ?_)
    (refine TO.step rfl (OT.storeL0 tab 0 rfl rfl rfl rfl rfl rfl rfl rfl ?_))
    repeat (first|refine q4 tab rfl rfl ?_|refine q5 ?_|refine q6 ?_|refine q8 ?_|refine q15 ?_)
    refine retQ_ret_c tab 0 rfl rfl rfl rfl rfl (L' := L) (by repeat (first|exact List.Sublist.refl _|refine List.Sublist.cons _ ?_)) ⟨Mem.le_trans hm1 hm2, rfl, ⟨0, [], 0, ⟨none, 0, 0⟩⟩, rfl, zeroT_rep _⟩

theorem okD_one {l : List Decl} {a : Tree} : okD l [a] = (decide (soundE l = 0) && a.sound) := by simp [okD]

set_option maxHeartbeats 1600000 in
theorem method_def (a : Tree) (n : Str) (m : Mem) (L : List Item) (s : Sl) (l : List Decl) (hs : SlRep rDecl m s l) (hS : TblS l) (h : HTree) (hr : TreeRep m h a) (hB : a.bulk ≤ 1048576) : TCall Try.prog 29 ⟨[s.v, treeV h, strV n]⟩ m L (MadeM m L (methodsO l a) n) := by
  unfold TCall
  refine TCallX.enter Try.func29 rfl 23 rfl ?_
  repeat (first|refine q1 ?_|refine q3 ?_)
  refine TO.step rfl (OT.box rfl rfl rfl rfl rfl (fun b => ?_))
  skip
  refine TO.step rfl (OT.alloc tab rfl rfl rfl rfl (fun b6 => ?_))
  repeat (first|refine q1 ?_|refine q3 ?_|refine q4 tab rfl rfl ?_|refine q5 ?_|refine q6 ?_)
  refine TO.step rfl (OT.call rfl rfl rfl rfl rfl rfl goes19 ((sound_def m _ s l hs hS).x ?_));
  rintro _ _ _ ⟨rfl, rfl, rfl⟩
  repeat (refine q4 tab rfl rfl ?_)
  (refine TO.splitN rfl rfl (fun e1 => ?_) (fun e1 => ?_))
  · rw [methodsO, if_neg (by rw [okD_one, decide_eq_false e1]; simp)]
    repeat (first|refine q1 ?_|refine q3 ?_|refine q4 tab rfl rfl ?_|refine q5 ?_|refine q6 ?_|refine q16 rfl ?_)
    (refine TO.step rfl (OT.storeL0 tab 0 rfl rfl rfl rfl rfl rfl rfl rfl ?_))
    repeat (first|refine q4 tab rfl rfl ?_|refine q5 ?_|refine q6 ?_|refine q8 ?_|refine q15 ?_)
    refine retQ_ret_c tab 0 rfl rfl rfl rfl rfl (L' := L) (by repeat (first|exact List.Sublist.refl _|refine List.Sublist.cons _ ?_)) ⟨Mem.le_refl _, rfl, ⟨0, [], 0, ⟨none, 0, 0⟩⟩, rfl, zeroT_rep _⟩
  · repeat ((refine qs rfl (qz tab 1 rfl rfl rfl rfl rfl rfl ?_)))
    refine TO.step rfl (OT.call rfl rfl rfl rfl rfl rfl goes42 ((isSound_ref a m _ h hr hB).x ?_));
    rintro _ _ _ ⟨rfl, rfl, rfl⟩
    repeat (first|refine q4 tab rfl rfl ?_|refine q5 ?_|refine q6 ?_)
    refine TC.cond (t := !a.sound) rfl (fun e2 => ?_) (fun e2 => ?_)
    · rw [Bool.not_eq_true'] at e2
      rw [methodsO, if_neg (by rw [okD_one, e2]; simp)]
      repeat (first|refine q1 ?_|refine q3 ?_|refine q4 tab rfl rfl ?_)
      (refine TO.step rfl (OT.storeL0 tab 0 rfl rfl rfl rfl rfl rfl rfl rfl ?_))
      repeat (first|refine q4 tab rfl rfl ?_|refine q5 ?_|refine q6 ?_|refine q8 ?_|refine q15 ?_)
      refine retQ_ret_c tab 0 rfl rfl rfl rfl rfl (L' := L) (by repeat (first|exact List.Sublist.refl _|refine List.Sublist.cons _ ?_)) ⟨Mem.le_refl _, rfl, ⟨0, [], 0, ⟨none, 0, 0⟩⟩, rfl, zeroT_rep _⟩
    · rw [Bool.not_eq_false'] at e2
      rw [methodsO, if_pos (by rw [okD_one, e2, decide_eq_true e1]; rfl)]
      repeat (first|(first|refine q1 ?_|refine q3 ?_|refine q4 tab rfl rfl ?_|refine q6 ?_|refine q13 ?_)|(refine qs rfl (qz tab 1 rfl rfl rfl rfl rfl rfl ?_)))
      refine TO.step rfl (OT.call rfl rfl rfl rfl rfl rfl goes64 ((methodOf_ref a (sound_kids e2) n _ _ s l hs h hr).x ?_));
      rintro _ m2 _ ⟨hm2, rfl, ht, rfl, hrt⟩
      repeat (refine q4 tab rfl rfl ?_)
      (refine TO.step rfl (OT.storeL0 tab 0 rfl rfl rfl rfl rfl rfl rfl rfl ?_))
      repeat (first|refine q4 tab rfl rfl ?_|refine q5 ?_|refine q6 ?_|refine q15 ?_)
      refine retQ_ret_c tab 0 rfl rfl rfl rfl rfl (L' := L) (by repeat (first|exact List.Sublist.refl _|refine List.Sublist.cons _ ?_)) ⟨hm2, rfl, ht, rfl, hrt⟩

/-! fields -/
def ofK (a : Tree) : Tree := if a.kind = 5 then kid0 a else a
def fieldsD (l : List Decl) (a : Tree) : Option (List Fld) := if isStructD l (ofK a) = true then some (theD l (ofK a).name).fields else none
def fieldsO (l : List Decl) (a : Tree) : Option (List Fld) := if okD l [a] = true then fieldsD l a else none
@[reducible] def MadeF (m : Mem) (L : List Item) (x : Option (List Fld)) : Value → Mem → List Item → Prop := Made m L fun r m' => ∃ s : Sl, r = .tuple ⟨[s.v, .bool x.isSome]⟩ ∧ SlRep rField m' s (x.getD [])

set_option maxHeartbeats 1600000 in
theorem tfields_law (a : Tree) (hkid : a.kind = 5 → a.kids.length = 1) (bt cc : Nat) (es : Ents Str) (l : List Decl) (m : Mem) (L : List Item) (h : HTree) (hr : TreeRep m h a) (ho : m.o bt = some (mapO kStr es cc)) (hT : TblRep m es l) :
    TCall Try.prog 65 ⟨[.map (some bt), treeV h]⟩ m L (MadeF m L (fieldsD l a)) := by
  obtain ⟨h1, h2, h3, h4⟩ := id hr
  have hx0 : a.kind = 5 → a.kids[0]? = some (kid0 a) := fun e => by rw [one_kid (hkid e)]; rfl
  unfold TCall
  refine TCallX.enter Try.func65 rfl 22 rfl ?_
  repeat (first|refine q1 ?_|refine q3 ?_)
  refine TO.step rfl (OT.box rfl rfl rfl rfl rfl (fun b => ?_))
  refine TO.pureP tab rfl rfl ?_
  refine TO.nil ?_
  refine thenQ_n ?_
  refine TC.seq ?_
  refine TC.cutT (ι := HTree) [0, 3] rfl (fun _ => []) (fun _ => m) (fun x => .cells b 0 (treeC x) :: L) (fun x => TreeRep m x (ofK a)) ?_ (fun x hx => ?_)
  · repeat (first|(first|refine q1 ?_|refine q3 ?_|refine q4 tab rfl rfl ?_|refine q5 ?_|refine q6 ?_)|(refine qs rfl (ql tab 0 rfl rfl rfl rfl rfl rfl ?_)))
    refine TC.condP rfl (fun e1 => ?_) (fun e1 => ?_)
    · have e5 : a.kind = 5 := by omega
      repeat (first|(first|refine q3 ?_|refine q4 tab rfl rfl ?_)|(refine qs rfl (ql tab 0 rfl rfl rfl rfl rfl rfl ?_)))
      refine TO.step rfl (OT.index tab rTree 0 h4 rfl rfl rfl rfl rfl (by first | rfl | omega) rfl (hx0 e5) ?_)
      rintro b' i' h' hrd hA
      (refine TO.step rfl (OT.loadA0 tab hA rfl rfl rfl rfl rfl ?_))
      skip
      (refine TO.step rfl (OT.storeL0 tab 0 rfl rfl rfl rfl rfl rfl rfl rfl ?_))
      repeat (first|refine q5 ?_|refine q6 ?_)
      exact ⟨h', (by repeat (exact trivial)), (by repeat (first|exact trivial|refine And.intro rfl ?_)), rfl, rfl, (by repeat (exact List.Sublist.refl _)), by rw [ofK, if_pos e5]; exact rTree_iff.1 hrd⟩
    · repeat (first|refine q6 ?_|refine q13 ?_)
      exact ⟨h, (by repeat (exact trivial)), (by repeat (first|exact trivial|refine And.intro rfl ?_)), rfl, rfl, (by repeat (exact List.Sublist.refl _)), by rw [ofK, if_neg (by omega)]; exact hr⟩
  · have x2 := hx.name
    repeat (first|(first|refine q1 ?_|refine q3 ?_|refine q4 tab rfl rfl ?_)|(refine qs rfl (qz tab 0 rfl rfl rfl rfl rfl rfl ?_)))
    refine TO.step rfl (OT.call rfl rfl rfl rfl rfl rfl goes50 ((tstruct_law (ofK a) bt cc es l _ _ x hx ho hT).x ?_));
    rintro _ _ _ ⟨rfl, rfl, rfl⟩
    repeat (first|refine q4 tab rfl rfl ?_|refine q5 ?_|refine q6 ?_)
    refine TC.cond (t := !isStructD l (ofK a)) rfl (fun e1 => ?_) (fun e1 => ?_)
    · rw [Bool.not_eq_true'] at e1
      repeat (first|refine q1 ?_|refine q3 ?_|refine q4 tab rfl rfl ?_|refine q5 ?_|refine q6 ?_|refine q8 ?_|refine q15 ?_)
      refine retQ_ret rfl (L' := L) (by repeat (first|exact List.Sublist.refl _|refine List.Sublist.cons _ ?_)) ⟨Mem.le_refl _, rfl, ⟨none, 0, 0⟩, by rw [fieldsD, if_neg (by rw [e1]; simp)]; rfl, by rw [fieldsD, if_neg (by rw [e1]; simp)]; exact SlRep.nil _ _⟩
    · rw [Bool.not_eq_false'] at e1
      obtain ⟨hd, hhd, hrd⟩ := hT.look x.name
      repeat (first|(first|refine q1 ?_|refine q3 ?_|refine q4 tab rfl rfl ?_|refine q6 ?_|refine q13 ?_)|(refine qs rfl (ql tab 0 rfl rfl rfl rfl rfl rfl ?_)))
      refine TO.step rfl (OT.lookupP tab kStr x.name rfl rfl rfl rfl rfl rfl rfl ho ?_)
      refine TO.conv ?_ hhd
      repeat (first|refine q4 tab rfl rfl ?_|refine q5 ?_|refine q6 ?_|refine q15 ?_)
      refine retQ_ret rfl (L' := L) (by repeat (first|exact List.Sublist.refl _|refine List.Sublist.cons _ ?_)) ⟨Mem.le_refl _, rfl, hd.fields, by rw [fieldsD, if_pos e1]; rfl, by rw [fieldsD, if_pos e1, ← x2]; exact hrd.fields⟩

theorem loadF (rest : List Value) (h : HFld) : tab.load 27 (fieldC h ++ rest) 1 = some (treeV h.type) := rfl
theorem putF (rest : List Value) (h : HFld) (t : HTree) : putAt (fieldC h ++ rest) 1 (treeC t) = fieldC ⟨h.name, t⟩ ++ rest := rfl

set_option maxHeartbeats 3200000 in
theorem fields_law (a : Tree) (m : Mem) (L : List Item) (s : Sl) (l : List Decl) (hs : SlRep rDecl m s l) (hS : TblS l) (h : HTree) (hr : TreeRep m h a) (hB : a.bulk ≤ 1048576) : TCall Try.prog 30 ⟨[s.v, treeV h]⟩ m L (MadeF m L (fieldsO l a)) := by
  unfold TCall
  refine TCallX.enter Try.func30 rfl 42 rfl ?_
  repeat (first|refine q1 ?_|refine q3 ?_)
  refine TO.step rfl (OT.box rfl rfl rfl rfl rfl (fun b => ?_))
  repeat (first|(first|refine q1 ?_|refine q3 ?_|refine q4 tab rfl rfl ?_|refine q5 ?_|refine q6 ?_)|(refine qs rfl (qz tab 0 rfl rfl rfl rfl rfl rfl ?_)))
  refine TO.step rfl (OT.lit tab rfl rfl rfl rfl (fun b2 => ?_))
  refine TO.freeze fun m1 hm1 hA1 => ?_
  skip
  refine TO.step rfl (OT.call rfl rfl rfl rfl rfl rfl goes56 ((open_law m1 _ s l (hs.mono hm1) hS _ [a] (slT1 (h := h) hA1 (hr.mono hm1)) (fun x hx => by rw [List.mem_singleton.1 hx]; exact hB)).x ?_));
  rintro _ m2 _ ⟨hm2, rfl, ⟨ok, bt, es, c, rfl, ho, hT⟩ | ⟨ok, rfl⟩⟩
  · have hm := Mem.le_trans hm1 hm2
    have hsound : a.sound = true := by
      rw [okD_one, Bool.and_eq_true] at ok
      exact ok.2
    rw [fieldsO, if_pos ok]
    repeat (first|refine q1 ?_|refine q3 ?_|refine q4 tab rfl rfl ?_|refine q5 ?_|refine q6 ?_)
    refine TO.step rfl (OT.mapEq tab kStr (r := some bt) rfl rfl rfl rfl rfl rfl ?_)
    repeat (first|(first|refine q1 ?_|refine q3 ?_|refine q4 tab rfl rfl ?_|refine q5 ?_|refine q6 ?_|refine q13 ?_|refine q17 rfl ?_)|(refine qs rfl (qz tab 0 rfl rfl rfl rfl rfl rfl ?_)))
    refine TO.step rfl (OT.call rfl rfl rfl rfl rfl rfl goes65 ((tfields_law a (sound_kids hsound) bt c es l m2 _ h (hr.mono hm) ho hT).x ?_));
    rintro _ m3 _ ⟨hm3, rfl, t, rfl, hrt⟩
    generalize fieldsD l a = fo at *
    generalize hfl : fo.getD [] = fl at *
    have hm03 := Mem.le_trans hm hm3
    have hft := hrt.fit
    have hfl' := hrt.len
    have hfsm := hrt.small rfl
    repeat (first|refine q1 ?_|refine q3 ?_|refine q4 tab rfl rfl ?_|refine q5 ?_|refine q6 ?_)
    refine TO.step rfl (OT.call rfl rfl rfl rfl rfl rfl goes66 ((clone_fld m3 _ t fl hrt).x ?_));
    rintro _ m4 _ ⟨hm4, ⟨hnil, s', rfl, hs', rfl⟩ | ⟨bc, c2, hs, rfl, hc, hh, rfl⟩⟩
    · have hz : s'.len = 0 := hs'.len
      repeat (first|refine q1 ?_|refine q2 ?_|refine q3 ?_|refine q4 tab rfl rfl ?_|refine q5 ?_|refine q6 ?_)
      refine TC.loopK (ι := Unit) [7, 8, 25] rfl (fun _ => [(26, .int .i64 0)]) (fun _ => m4) (fun _ => L) (fun _ => True) (fun _ => 0) () (by repeat (first|exact trivial|refine And.intro rfl ?_)) rfl (by repeat (first|exact List.Sublist.refl _|refine List.Sublist.cons _ ?_)) trivial ?_
      rintro _ _
      repeat (first|refine q1 ?_|refine q3 ?_|refine q4 tab rfl rfl ?_|refine q5 ?_|refine q6 ?_)
      refine TC.condP rfl (fun e => ?_) (fun e => ?_)
      · omega
      · repeat (first|refine q1 ?_|refine q3 ?_|refine q4 tab rfl rfl ?_|refine q5 ?_|refine q6 ?_|refine q10 ?_|refine q11 ?_|refine q14 ?_|refine q15 ?_)
        refine retQ_ret rfl (L' := L) (by repeat (exact List.Sublist.refl _)) ⟨Mem.le_trans hm03 hm4, rfl, s', rfl, by rw [hfl, hnil]; exact hs'⟩
    · repeat (first|refine q1 ?_|refine q2 ?_|refine q3 ?_|refine q4 tab rfl rfl ?_|refine q5 ?_|refine q6 ?_)
      refine TC.loopK (ι := Nat × List HFld × Mem) [7, 8, 25] rfl (fun x => [(26, .int .i64 (x.1 : Int))]) (fun x => x.2.2) (fun x => .cells bc 0 (encs rField x.2.1) :: L) (fun x => x.1 ≤ fl.length ∧ m4 ≤ x.2.2 ∧ All2 (rField.rep x.2.2) x.2.1 fl) (fun x => fl.length - x.1) (0, hs, m4) (by repeat (first|exact trivial|refine And.intro rfl ?_)) rfl (by repeat (first|exact List.Sublist.refl _|refine List.Sublist.cons_cons _ ?_|refine List.Sublist.cons _ ?_)) ⟨Nat.zero_le _, Mem.le_refl _, hh⟩ ?_
      rintro ⟨k, hk, m5⟩ ⟨hkl, hm5, hA⟩
      simp only at hkl hm5 hA ⊢
      repeat (first|refine q1 ?_|refine q3 ?_|refine q4 tab rfl rfl ?_|refine q5 ?_|refine q6 ?_)
      refine TC.condP rfl (fun e => ?_) (fun e => ?_)
      · have hlt : k < fl.length := by omega
        have hx : fl[k]? = some fl[k] := by simp [hlt]
        obtain ⟨hd, g1, g2⟩ := hA.get hx
        repeat (first|refine q1 ?_|refine q2 ?_|refine q3 ?_|refine q4 tab rfl rfl ?_|refine q5 ?_|refine q6 ?_|refine q13 ?_)
        refine TO.step rfl (OT.indexP (sz := 5) tab k rfl rfl rfl rfl rfl rfl rfl hlt ?_)
        repeat (refine q4 tab rfl rfl ?_)
        refine TO.step rfl (OT.loadE tab 0 rField (k := k) (j := 1) g1 (by simp [rField]) (fun rest => loadF rest hd) rfl rfl rfl rfl rfl ?_)
        skip
        refine TO.step rfl (OT.call rfl rfl rfl rfl rfl rfl goes63 ((own_law _ m5 _ hd.type g2.type).x ?_));
        rintro _ m6 _ ⟨hm6, rfl, h', rfl, hrt'⟩
        skip
        refine TO.step rfl (OT.indexP (sz := 5) tab k rfl rfl rfl rfl rfl rfl rfl hlt ?_)
        repeat (refine q4 tab rfl rfl ?_)
        refine TO.step rfl (OT.storeE tab 0 rField (k := k) (j := 1) (h2 := ⟨hd.name, h'⟩) g1 (by simp [rField]) (fun rest => putF rest hd h') (by show 1 + 4 ≤ 5; decide) rfl rfl rfl rfl rfl rfl rfl ?_)
        repeat (first|refine q3 ?_|refine q5 ?_|refine q6 ?_|refine q7 ?_)
        refine TO.step rfl (OT.arith (r' := ((k + 1 : Nat) : Int)) rfl rfl rfl rfl rfl rfl rfl (by omega) ?_)
        repeat (first|refine q4 tab rfl rfl ?_|refine q5 ?_|refine q6 ?_)
        exact ⟨(k + 1, hk.set k ⟨hd.name, h'⟩, m6), (by repeat (first|exact trivial|refine And.intro rfl ?_)), (by repeat (first|exact trivial|refine And.intro rfl ?_)), rfl, rfl, (by repeat (exact List.Sublist.refl _)), ⟨by simp only; omega, Mem.le_trans hm5 hm6, (hA.mono fun _ _ => rField.mono hm6).set' k hx ⟨g2.name, hrt'⟩⟩, by simp only; omega⟩
      · refine TC.freeze fun m6 hm6 hbc => ?_
        repeat (first|refine q1 ?_|refine q3 ?_|refine q4 tab rfl rfl ?_|refine q5 ?_|refine q6 ?_|refine q10 ?_|refine q11 ?_|refine q14 ?_|refine q15 ?_)
        have hf : fl.length * 72 ≤ 140737488355328 := by have := hrt.fit; rw [hfl'] at this; exact this
        refine retQ_ret rfl (L' := L) (by repeat (exact List.Sublist.refl _)) ⟨Mem.le_trans hm03 (Mem.le_trans hm4 (Mem.le_trans hm5 hm6)), rfl, ⟨some ⟨bc, 0, none⟩, fl.length, c2⟩, rfl, by rw [hfl]; exact ⟨rfl, hc, hf, hk, hA.mono fun _ _ => rField.mono hm6, .inr ⟨bc, 0, rfl, hbc⟩⟩⟩
  · rw [fieldsO, if_neg (by rw [ok]; simp)]
    repeat (first|refine q1 ?_|refine q3 ?_|refine q4 tab rfl rfl ?_|refine q5 ?_|refine q6 ?_)
    refine TO.step rfl (OT.mapEq tab kStr (r := none) rfl rfl rfl rfl rfl rfl ?_)
    repeat (first|refine q1 ?_|refine q3 ?_|refine q4 tab rfl rfl ?_|refine q5 ?_|refine q6 ?_|refine q8 ?_|refine q15 ?_|refine q16 rfl ?_)
    refine retQ_ret rfl (L' := L) (by repeat (first|exact List.Sublist.refl _|refine List.Sublist.cons _ ?_)) ⟨Mem.le_trans hm1 hm2, rfl, ⟨none, 0, 0⟩, rfl, SlRep.nil _ _⟩
end Go.Sep
