/- ScBase -/
import Derived.Lib.Bytealg
import Derived.Test.YtlfiikhclgeadaaGreatDoorB5
set_option linter.unusedVariables false
set_option linter.unusedSimpArgs false
namespace Go.Sep
open Go.Proofs
attribute [local irreducible] TC TO OT TCallX TCall DO DOt thenQ blockQ retQ At
theorem indexByte_lite (m : Mem) (L : List Item) (s : Str) (c : UInt8) : TCall Tryz.prog 89 ⟨[strV s, byteV c]⟩ m L (Ret (.int .i64 (Lib.indexByte s c)) m L) := by
 unfold TCall
 refine TCallX.enter Tryz.func89 rfl 8 rfl ?_
 repeat (first|refine q1 ?_|refine q3 ?_|refine q4 tab rfl rfl ?_|refine q5 ?_|refine q6 ?_)
 refine TO.step rfl (OT.callX (E := Extern.BytealgIndexByte.indexByte) (vs := [strV s, byteV c]) (v := .int .i64 (Lib.indexByte s c)) rfl rfl rfl rfl rfl Tryz.func115 (by kernel_rfl) (by kernel_rfl) (by kernel_rfl) (by kernel_rfl) (fun w _ => ?_) ?_)
 ·have := Lib.run_indexByteString (P := Tryz.prog) ⟨⟨s⟩⟩ (c.toNat : Int) w
  simpa using this
 ·repeat (first|refine q4 tab rfl rfl ?_|refine q5 ?_|refine q6 ?_|refine q15 ?_)
  refine retQ_ret rfl (by repeat (exact List.Sublist.refl _)) ⟨rfl, rfl, ?_⟩
  rfl
theorem indexByte_law (m : Mem) (L : List Item) (s : Str) (c : UInt8) : TCall Tryz.prog 54 ⟨[strV s, byteV c]⟩ m L (Ret (.int .i64 (Lib.indexByte s c)) m L) := by
 unfold TCall
 refine TCallX.enter Tryz.func54 rfl 8 rfl ?_
 repeat (first|refine q1 ?_|refine q3 ?_|refine q4 tab rfl rfl ?_|refine q5 ?_|refine q6 ?_)
 refine TO.step rfl (OT.call rfl rfl rfl rfl rfl rfl goes89 ((indexByte_lite _ _ s c).x ?_));
 rintro _ _ _ ⟨rfl, rfl, rfl⟩
 repeat (first|refine q4 tab rfl rfl ?_|refine q5 ?_|refine q6 ?_|refine q15 ?_)
 refine retQ_ret rfl (by repeat (exact List.Sublist.refl _)) ⟨rfl, rfl, ?_⟩
 rfl
def prefixB (p s : Str) : Bool := decide (p.length ≤ s.length) && decide (s.take p.length = p)
theorem prefix_lite (m : Mem) (L : List Item) (s p : Str) : TCall Tryz.prog 90 ⟨[strV s, strV p]⟩ m L (Ret (.bool (prefixB p s)) m L) := by
 unfold TCall
 refine TCallX.enter Tryz.func90 rfl 18 rfl ?_
 repeat (first|refine q1 ?_|refine q3 ?_|refine q4 tab rfl rfl ?_|refine q5 ?_|refine q6 ?_)
 (refine TO.splitP rfl rfl (fun e1 => ?_) (fun e1 => ?_))
 ·repeat (refine q4 tab rfl rfl ?_)
  refine TO.step rfl (OT.sub tab 0 p.length rfl rfl rfl rfl rfl rfl rfl (.inl ⟨rfl, rfl⟩) (.inr rfl) (Nat.zero_le _) (by omega) ?_)
  repeat (first|refine q4 tab rfl rfl ?_|refine q5 ?_|refine q6 ?_|refine q15 ?_)
  refine retQ_ret rfl (by repeat (exact List.Sublist.refl _)) ⟨rfl, rfl, ?_⟩
  rw [prefixB, decide_eq_true (show p.length ≤ s.length by omega)]; rfl
 ·repeat (first|refine q4 tab rfl rfl ?_|refine q5 ?_|refine q6 ?_|refine q15 ?_)
  refine retQ_ret rfl (by repeat (exact List.Sublist.refl _)) ⟨rfl, rfl, ?_⟩
  rw [prefixB, decide_eq_false (show ¬ p.length ≤ s.length by omega)]; rfl
theorem prefix_law (m : Mem) (L : List Item) (s p : Str) : TCall Tryz.prog 55 ⟨[strV s, strV p]⟩ m L (Ret (.bool (prefixB p s)) m L) := by
 unfold TCall
 refine TCallX.enter Tryz.func55 rfl 8 rfl ?_
 repeat (first|refine q1 ?_|refine q3 ?_|refine q4 tab rfl rfl ?_|refine q5 ?_|refine q6 ?_)
 refine TO.step rfl (OT.call rfl rfl rfl rfl rfl rfl goes90 ((prefix_lite _ _ s p).x ?_));
 rintro _ _ _ ⟨rfl, rfl, rfl⟩
 repeat (first|refine q4 tab rfl rfl ?_|refine q5 ?_|refine q6 ?_|refine q15 ?_)
 refine retQ_ret rfl (by repeat (exact List.Sublist.refl _)) ⟨rfl, rfl, ?_⟩
 rfl
def lowerN (c : UInt8) : Nat := c.toNat ||| 32
theorem lower_law (m : Mem) (L : List Item) (c : UInt8) : TCall Tryz.prog 132 ⟨[byteV c]⟩ m L (Ret (.int .u8 (lowerN c : Int)) m L) := by
 unfold TCall
 refine TCallX.enter Tryz.func132 rfl 5 rfl ?_
 repeat (first|refine q1 ?_|refine q3 ?_|refine q4 tab rfl rfl ?_|refine q5 ?_|refine q6 ?_)
 refine TO.step rfl (OT.orU8 (a := c.toNat) (b := 32) rfl rfl rfl rfl rfl c.toNat_lt (by omega) ?_)
 repeat (first|refine q4 tab rfl rfl ?_|refine q5 ?_|refine q6 ?_|refine q15 ?_)
 refine retQ_ret rfl (by repeat (exact List.Sublist.refl _)) ⟨rfl, rfl, ?_⟩
 rfl
end Go.Sep


/- SepZa -/
set_option linter.unusedVariables false
set_option linter.unusedSimpArgs false
namespace Go.Sep
section
variable {P : Program} {N : Nat} {ρ : Env} {D : List Deferred} {m : Mem} {L : List Item} {Q : EPost} {full : List Oper} {o : Oper} {K : Env → Mem → List Item → Prop}
theorem OT.makeT (T : Tab P) {t : TypeId} {n d : Nat} {z : Value} {x y : Operand} {e : TypeId} {ei : TI} (ho : o.op = .makeSlice t x y) (hd : o.dst = some d) (hN : Nat.blt d N = true)
  (hx : ev ρ x = some (.int .i64 (n : Int))) (hy : ev ρ y = some (.int .i64 (n : Int))) (he : T.elem t = some (e, ei)) (hs : Nat.beq ei.size 1 = true) (hz : cellsF ei.zero = some [z]) (hfit : n * ei.bytes ≤ 281474976710656) (hb : Nat.blt 0 ei.bytes = true)
  (hK : ∀ b m', m ≤ m' → m'.t b = some (e, n) → m'.pin.heap.size ≤ b → K ((d, .slice (some ⟨b, 0, none⟩) n n) :: ρ) m' (.cells b 0 (List.replicate n z) :: L)) : OT P N o ρ D m L Q K := by
 intro a w ha
 obtain ⟨ti, h4, h5, h6⟩ := elem_get he
 have hu := T.run_underlying w h4
 rw [h5] at hu
 obtain ⟨info, q1, q2, q3, q4, q5⟩ := T.ok e ei h6
 have hs1 := Nat.eq_of_beq_eq_true hs
 have hbp : 0 < ei.bytes := by simpa [Nat.blt_eq] using hb
 have hn : n ≤ 281474976710656 := Nat.le_trans (Nat.le_mul_of_pos_right _ hbp) hfit
 have hzc := cellsF_eq hz
 obtain ⟨_, _, hu', _⟩ := T.ok t ti h4
 rw [h5] at hu'
 have hcast : ((info.bytes : Int) * (n : Int)) = ((n * ei.bytes : Nat) : Int) := by rw [q4, Nat.mul_comm]; simp
 have hmk := run_make (P := P) w t e info ei.zero hu' q1 q5 .i64 .i64 (n : Int) (n : Int) (by omega) (by omega) (by rw [hcast]; omega) (by omega)
 have hrow : madeCells (⟨[z]⟩ : Array Value) (n * 1) = ⟨List.replicate n z⟩ := by
  apply Array.ext'
  simp only [madeCells, Nat.mul_one, Array.toList_map, Array.toList_range]
  apply List.ext_getElem
  ·simp
  ·intro i h1 h2
   simp [Nat.mod_one]
 rw [Int.toNat_natCast, q3, hs1, hzc, hrow] at hmk
 have hr : (execOp a.eval o).run P w = .ok (.value (.slice (some ⟨w.heap.size, 0, none⟩) n n)) (w.alloc (.cells ⟨List.replicate n z⟩ e)) := by
  simp only [execOp, ho, ha.env.eval hx, ha.env.eval hy, Sem.run_bind, hmk, Result.andThen_ok, Sem.run_pure]
 simp only [Oper.wp, hr, Oper.upon, hd]
 have hp := ha.put hN (.slice (some ⟨w.heap.size, 0, none⟩) n n)
 have hst := ha.st.allocCells ⟨List.replicate n z⟩ e
 obtain ⟨f1, f2, f3⟩ := hst.typed (heap_alloc_at w (.cells ⟨List.replicate n z⟩ e))
 exact ⟨_, _, _, ⟨hp.size, hp.env, hp.defers, f3⟩, hK _ _ f1 (by simpa using f2) (by rw [f1.pin]; exact ha.st.size)⟩
theorem OT.copyS (T : Tab P) (i : Nat) {x y : Operand} {t t2 e : TypeId} {ei : TI} {b off k n c : Nat} {bs : List UInt8} {vs : List Value} {d : Nat} (ho : o.op = .call ⟨.builtin .copy, ⟨[x, y]⟩, ⟨[t, t2]⟩⟩) (hd : o.dst = some d) (hN : Nat.blt d N = true)
  (hx : ev ρ x = some (.slice (some ⟨b, off + k, none⟩) n c)) (hy : ev ρ y = some (strV bs)) (hle : bs.length ≤ n) (he : T.elem t = some (e, ei)) (hsz : Nat.beq ei.size 1 = true)
  (hi : L[i]? = some (.cells b off vs)) (hk : k + bs.length ≤ vs.length)
  (hK : K ((d, .int .i64 (bs.length : Int)) :: ρ) m (L.set i (.cells b off (putAt vs k (bs.map byteV))))) : OT P N o ρ D m L Q K := by
 obtain ⟨ti, h4, h5, h6⟩ := elem_get he
 have hs1 := Nat.eq_of_beq_eq_true hsz
 intro ac w ha
 have hu := T.run_underlying w h4
 rw [h5] at hu
 have hes := T.run_sizeOf w h6
 rw [hs1] at hes
 have hst := ha.st.at_ hi
 obtain ⟨w', hr, hst'⟩ := run_storeCells (P := P) (bs.map byteV) vs k 0 w hst (allOne_bytes bs) (by rw [List.length_map]; omega)
 have hx2 : (⟨⟨bs⟩⟩ : ByteArray).extract 0 bs.length = ⟨⟨bs⟩⟩ := by
  apply ByteArray.ext
  apply Array.ext'
  simp
 have hfirst' : (Builtin.firstCells 1 bs.length (strV bs)).run P w = .ok (⟨bs.map byteV⟩ : Array Value) w := by
  simp only [Builtin.firstCells, Sem.run_pure]
  rw [hx2]
  congr 1
  apply Array.ext'
  simp
 have he' : (execOp ac.eval o).run P w = .ok (.value (.int .i64 (bs.length : Int))) w' := by
  simp only [execOp, ho, resolve, invoke, builtin, Sem.run_bind, Sem.run_pure, Result.andThen_ok, List.map_toArray, List.map_cons, List.map_nil, ha.env.eval hx, ha.env.eval hy]
  have hlen : (Builtin.lenOf (strV bs)).run P w = .ok bs.length w := rfl
  have hmin : Nat.min bs.length n = bs.length := Nat.min_eq_left hle
  simp [Builtin.copy_, hu, hes, hlen, hfirst', hr, goInt, hmin]
 simp only [Oper.wp, he', Oper.upon, hd]
 have hp := ha.put hN (.int .i64 (bs.length : Int))
 exact ⟨_, _, _, ⟨hp.size, hp.env, hp.defers, hst'.back hi⟩, hK⟩
theorem tok_full (b n : Nat) : tok ⟨some ⟨b, 0, none⟩, n, n⟩ 1 = .room b n 0 := by simp [tok]
theorem TO.tokFull {l : List Oper} (b n : Nat) (h : TO P N ⟨full⟩ l ρ D m (tok ⟨some ⟨b, 0, none⟩, n, n⟩ 1 :: L) Q) : TO P N ⟨full⟩ l ρ D m L Q := by
 rw [tok_full] at h
 exact TO.room0 b n h
theorem putAt_all {vs cs : List Value} (h : vs.length = cs.length) : putAt vs 0 cs = cs := by
 rw [putAt_zero (by omega), List.drop_of_length_le (by omega), List.append_nil]
end
end Go.Sep


/- ScErr -/
set_option linter.unusedVariables false
set_option linter.unusedSimpArgs false
namespace Go.Sep
open Go.Proofs
attribute [local irreducible] TC TO OT TCallX TCall DO DOt thenQ blockQ retQ At
structure Errs (m : Mem) : Prop where
 syn : ∃ u v, At m 1 0 [.iface u v]
 rng : ∃ u v, At m 2 0 [.iface u v]
theorem Errs.mono {m m' : Mem} (h : Errs m) (hm : m ≤ m') : Errs m' := by
 obtain ⟨⟨u, v, h1⟩, ⟨u', v', h2⟩⟩ := h
 exact ⟨⟨u, v, h1.mono hm⟩, ⟨u', v', h2.mono hm⟩⟩
set_option maxHeartbeats 800000 in
theorem clone_str (m : Mem) (L : List Item) (s : Str) (hs : s.length ≤ 140737488355328) : TCall Tryz.prog 134 ⟨[strV s]⟩ m L (Ret (strV s) m L) := by
 refine TCall.forget ?_
 unfold TCall
 refine TCallX.enter Tryz.func134 rfl 18 rfl ?_
 repeat (first|refine q1 ?_|refine q3 ?_|refine q4 tab rfl rfl ?_|refine q5 ?_|refine q6 ?_)
 refine TC.condP rfl (fun e1 => ?_) (fun e1 => ?_)
 ·have h0 : s = [] := List.eq_nil_of_length_eq_zero (by omega)
  repeat (first|refine q1 ?_|refine q3 ?_|refine q4 tab rfl rfl ?_|refine q5 ?_|refine q6 ?_|refine q8 ?_|refine q15 ?_)
  refine retQ_ret rfl (by repeat (exact List.Sublist.refl _)) ⟨Mem.le_refl _, rfl, by rw [h0]⟩
 ·repeat (first|refine q1 ?_|refine q3 ?_|refine q4 tab rfl rfl ?_|refine q6 ?_|refine q13 ?_)
  refine TO.step rfl (OT.makeT tab (n := s.length) (z := .int .u8 0) rfl rfl rfl rfl rfl rfl rfl rfl (by show s.length * 1 ≤ _; omega) rfl (fun b m1 hm1 ht hp => ?_))
  repeat (first|refine q1 ?_|refine q3 ?_|refine q4 tab rfl rfl ?_|refine q5 ?_|refine q6 ?_)
  refine TO.step rfl (OT.copyS tab 0 (off := 0) (k := 0) rfl rfl rfl rfl rfl (Nat.le_refl _) rfl rfl rfl (by simp) ?_)
  rw [putAt_all (by simp)]
  refine TO.freeze fun m2 hm2 hA => ?_
  repeat (first|refine q1 ?_|refine q3 ?_|refine q4 tab rfl rfl ?_|refine q5 ?_|refine q6 ?_)
  refine TO.step rfl (OT.indexP (sz := 1) tab 0 rfl rfl rfl rfl rfl rfl rfl (by omega) ?_)
  repeat (refine q4 tab rfl rfl ?_)
  refine TO.tokFull b s.length ?_
  refine TO.step rfl (OT.unsafeStr tab (e := 5) rfl rfl rfl rfl rfl rfl (by kernel_rfl) hA rfl (by omega) (Nat.le_refl _) (by omega) (hm2.t _ _ ht) (by rw [hm2.pin]; exact hp) ?_)
  repeat (first|refine q4 tab rfl rfl ?_|refine q5 ?_|refine q6 ?_|refine q15 ?_)
  refine retQ_ret rfl (by repeat (exact List.Sublist.refl _)) ⟨Mem.le_trans hm1 hm2, rfl, rfl⟩
@[reducible] def MadeE (m : Mem) (L : List Item) : Value → Mem → List Item → Prop := Made m L fun r _ => ∃ b, r = .pointer (some ⟨b, 0, none⟩)
theorem syntaxError_law (m : Mem) (L : List Item) (f s : Str) (hs : s.length ≤ 140737488355328) (hE : Errs m) : TCall Tryz.prog 117 ⟨[strV f, strV s]⟩ m L (MadeE m L) := by
 obtain ⟨u, v, hA⟩ := hE.syn
 unfold TCall
 refine TCallX.enter Tryz.func117 rfl 11 rfl ?_
 repeat (first|refine q1 ?_|refine q3 ?_|refine q4 tab rfl rfl ?_|refine q5 ?_|refine q6 ?_)
 refine TC.draw0 [] mixed 7 rfl ?_
 refine DO.pure tab (by repeat (first|exact Calm.ret|refine Calm.then ?_)) (by kernel_rfl) [0, 1] (by kernel_rfl) rfl ?_
 (refine DO.loadA (k := 0) tab 3 hA (by repeat (first|exact Calm.ret|refine Calm.then ?_)) (by kernel_rfl) (by kernel_rfl) rfl rfl rfl rfl rfl rfl rfl ?_)
 refine DO.run 2 rfl rfl (by kernel_rfl) rfl (OT.call rfl rfl rfl rfl rfl rfl goes134 ((clone_str _ _ s hs).x ?_))
 rintro _ _ _ ⟨rfl, rfl, rfl⟩; refine ⟨Mem.le_refl _, _, List.Perm.refl _, ?_⟩
 refine DO.pure tab (by repeat (first|exact Calm.ret|refine Calm.then ?_)) (by kernel_rfl) [4] (by kernel_rfl) rfl ?_
 refine DO.run 5 rfl rfl (by kernel_rfl) rfl ?_
 refine OT.box rfl rfl rfl rfl rfl (fun b => ?_); refine ⟨Mem.le_refl _, [_], perm_mid, ?_⟩
 refine DO.pure tab (by repeat (first|exact Calm.ret|refine Calm.then ?_)) (by kernel_rfl) [6] (by kernel_rfl) rfl ?_
 (refine DO.nil (by kernel_rfl) ?_)
 rotate_left 1
 refine thenQ_n ?_
 repeat (refine q15 ?_)
 refine retQ_ret rfl (L' := L) (by repeat (exact List.sublist_append_left _ _)) ⟨Mem.le_refl _, rfl, b, rfl⟩
theorem rangeError_law (m : Mem) (L : List Item) (f s : Str) (hs : s.length ≤ 140737488355328) (hE : Errs m) : TCall Tryz.prog 118 ⟨[strV f, strV s]⟩ m L (MadeE m L) := by
 obtain ⟨u, v, hA⟩ := hE.rng
 unfold TCall
 refine TCallX.enter Tryz.func118 rfl 11 rfl ?_
 repeat (first|refine q1 ?_|refine q3 ?_|refine q4 tab rfl rfl ?_|refine q5 ?_|refine q6 ?_)
 refine TC.draw0 [] mixed 7 rfl ?_
 refine DO.pure tab (by repeat (first|exact Calm.ret|refine Calm.then ?_)) (by kernel_rfl) [0, 1] (by kernel_rfl) rfl ?_
 (refine DO.loadA (k := 0) tab 3 hA (by repeat (first|exact Calm.ret|refine Calm.then ?_)) (by kernel_rfl) (by kernel_rfl) rfl rfl rfl rfl rfl rfl rfl ?_)
 refine DO.run 2 rfl rfl (by kernel_rfl) rfl (OT.call rfl rfl rfl rfl rfl rfl goes134 ((clone_str _ _ s hs).x ?_))
 rintro _ _ _ ⟨rfl, rfl, rfl⟩; refine ⟨Mem.le_refl _, _, List.Perm.refl _, ?_⟩
 refine DO.pure tab (by repeat (first|exact Calm.ret|refine Calm.then ?_)) (by kernel_rfl) [4] (by kernel_rfl) rfl ?_
 refine DO.run 5 rfl rfl (by kernel_rfl) rfl ?_
 refine OT.box rfl rfl rfl rfl rfl (fun b => ?_); refine ⟨Mem.le_refl _, [_], perm_mid, ?_⟩
 refine DO.pure tab (by repeat (first|exact Calm.ret|refine Calm.then ?_)) (by kernel_rfl) [6] (by kernel_rfl) rfl ?_
 (refine DO.nil (by kernel_rfl) ?_)
 rotate_left 1
 refine thenQ_n ?_
 repeat (refine q15 ?_)
 refine retQ_ret rfl (L' := L) (by repeat (exact List.sublist_append_left _ _)) ⟨Mem.le_refl _, rfl, b, rfl⟩
@[reducible] def MadeI (m : Mem) (L : List Item) : Value → Mem → List Item → Prop := Made m L fun r _ => ∃ u v, r = .iface u v
theorem toError_syn (m : Mem) (L : List Item) (f s : Str) (b z : Int) (hs : s.length ≤ 140737488355328) (hE : Errs m) : TCall Tryz.prog 94 ⟨[strV f, strV s, .int .i64 b, .int .i64 z, .iface 109 (.int .i64 2)]⟩ m L (MadeI m L) := by
 unfold TCall
 refine TCallX.enter Tryz.func94 rfl 43 rfl ?_
 repeat (first|refine q1 ?_|refine q2 ?_|refine q3 ?_|refine q4 tab rfl rfl ?_|refine q5 ?_|refine q6 ?_)
 refine TO.step rfl (OT.mkIface tab rfl rfl rfl rfl rfl ?_)
 refine TO.step rfl (OT.errEq tab (info := Tryz.t109) (.inl rfl) rfl rfl rfl rfl rfl rfl (by kernel_rfl) rfl rfl ?_)
 repeat (first|refine q1 ?_|refine q3 ?_|refine q4 tab rfl rfl ?_|refine q5 ?_|refine q6 ?_|refine q16 rfl ?_)
 refine TO.step rfl (OT.call rfl rfl rfl rfl rfl rfl goes117 ((syntaxError_law _ _ f s hs hE).x ?_));
 rintro _ m1 _ ⟨hm1, rfl, b, rfl⟩
 skip
 refine TO.step rfl (OT.mkIface tab rfl rfl rfl rfl rfl ?_)
 repeat (first|refine q4 tab rfl rfl ?_|refine q5 ?_|refine q6 ?_|refine q8 ?_|refine q9 ?_|refine q15 ?_)
 refine retQ_ret rfl (by repeat (exact List.Sublist.refl _)) ⟨hm1, rfl, _, _, rfl⟩
theorem toError_rng (m : Mem) (L : List Item) (f s : Str) (b z : Int) (hs : s.length ≤ 140737488355328) (hE : Errs m) : TCall Tryz.prog 94 ⟨[strV f, strV s, .int .i64 b, .int .i64 z, .iface 109 (.int .i64 1)]⟩ m L (MadeI m L) := by
 unfold TCall
 refine TCallX.enter Tryz.func94 rfl 43 rfl ?_
 repeat (first|refine q1 ?_|refine q2 ?_|refine q3 ?_|refine q4 tab rfl rfl ?_|refine q5 ?_|refine q6 ?_)
 refine TO.step rfl (OT.mkIface tab rfl rfl rfl rfl rfl ?_)
 refine TO.step rfl (OT.errEq tab (info := Tryz.t109) (.inl rfl) rfl rfl rfl rfl rfl rfl (by kernel_rfl) rfl rfl ?_)
 repeat (first|refine q1 ?_|refine q3 ?_|refine q4 tab rfl rfl ?_|refine q5 ?_|refine q6 ?_|refine q17 rfl ?_)
 refine TO.step rfl (OT.mkIface tab rfl rfl rfl rfl rfl ?_)
 refine TO.step rfl (OT.errEq tab (info := Tryz.t109) (.inl rfl) rfl rfl rfl rfl rfl rfl (by kernel_rfl) rfl rfl ?_)
 repeat (first|refine q1 ?_|refine q3 ?_|refine q4 tab rfl rfl ?_|refine q5 ?_|refine q6 ?_|refine q16 rfl ?_)
 refine TO.step rfl (OT.call rfl rfl rfl rfl rfl rfl goes118 ((rangeError_law _ _ f s hs hE).x ?_));
 rintro _ m1 _ ⟨hm1, rfl, b, rfl⟩
 skip
 refine TO.step rfl (OT.mkIface tab rfl rfl rfl rfl rfl ?_)
 repeat (first|refine q4 tab rfl rfl ?_|refine q5 ?_|refine q6 ?_|refine q8 ?_|refine q9 ?_|refine q15 ?_)
 refine retQ_ret rfl (by repeat (exact List.Sublist.refl _)) ⟨hm1, rfl, _, _, rfl⟩
end Go.Sep

