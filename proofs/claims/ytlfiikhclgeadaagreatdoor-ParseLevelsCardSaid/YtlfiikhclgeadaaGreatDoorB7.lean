/- PsRow -/
import Derived.Test.YtlfiikhclgeadaaGreatDoorCards
import Derived.Test.YtlfiikhclgeadaaGreatDoorTie
import Derived.Deep.DeepHandedRow
import Derived.Deep.DeepWitnessRowRef
import Derived.Stop.LaidErr
import Derived.SizedLaws
import Derived.ChangeSame
import Derived.RowKit3
import Derived.ProofKit
import Derived.OpenShut
import Derived.JoinedCond
import Derived.LaidLaws
import Derived.Test.YtlfiikhclgeadaaGreatDoorB6
set_option linter.unusedVariables false
set_option linter.unusedSimpArgs false
namespace Go.Sep
open Go.Proofs Go.ChangeShapes Go.WideShapes Go.Proofs.YtlfiikhclgeadaaGreatDoor
def memOf (W : World) : Mem := ⟨W, fun b i => W.cell? ⟨b, i, none⟩, fun _ => none, fun _ => none⟩
theorem St.start (W : World) : St (memOf W) W [] where
 os := rfl
 tape := rfl
 output := rfl
 size := Nat.le_refl _
 pin := fun _ _ => rfl
 c := fun _ _ _ h => h
 o := fun _ _ h => by cases h
 t := fun _ _ h => by cases h
 items := fun _ h => by cases h
 free := fun _ h => by cases h
 disj := List.Pairwise.nil
theorem St.kept {W w' : World} {m' : Mem} {L' : List Item} (h : St m' w' L') (hm : memOf W ≤ m') : W.keptBut w' (fun _ => False) := by
 have hp : m'.pin = W := hm.pin
 have hsz := h.size
 have hpin := h.pin
 rw [hp] at hsz hpin
 refine ⟨by rw [h.os, hp], by rw [h.output, hp], fun i hi => ?_⟩
 rw [hpin i hi]
 split
 ·rename_i c t fr c' t' fr' h1 h2
  rw [h1] at h2
  simp only [Option.some.injEq, Obj.cells.injEq] at h2
  obtain ⟨rfl, rfl, rfl⟩ := h2
  exact ⟨rfl, rfl, rfl, fun _ _ => rfl⟩
 ·rename_i es c es' c' h1 h2
  rw [h1] at h2
  simp only [Option.some.injEq, Obj.map.injEq] at h2
  obtain ⟨rfl, rfl⟩ := h2
  exact .inr ⟨rfl, rfl⟩
 ·rfl
end Go.Sep
namespace Go.Proofs.YtlfiikhclgeadaaGreatDoor
open Go.ChangeShapes Go.WideShapes Go.ChangeAt Go.RowKit Go.Sep
open Go.ChangeMaps (open_string shut_string)
theorem own : ownKnob Tryz.prog.godebug = none := by kernel_rfl
theorem cells131 : Tryz.prog.cellsOf 131 = 1 := by kernel_rfl
theorem cells9 : Tryz.prog.cellsOf 9 = 1 := by kernel_rfl
theorem star : "*" ++ "errors.errorString" = "*errors.errorString" := by decide
theorem row129 (u : TypeId) (h : Tryz.prog.typeName? 3 u = some "*errors.errorString") : u = 129 :=
 typeName_ptr_named (nm := "errors.errorString") (by rw [star]; kernel_rfl) (by kernel_rfl) (by decide) u (by rw [star]; exact h)
theorem gSyn : Tryz.prog.globalNamed "strconv.ErrSyntax" = some 1 := by kernel_rfl
theorem gSynT : (Tryz.prog.globals[1]?).map (·.type) = some 83 := by kernel_rfl
theorem gRng : Tryz.prog.globalNamed "strconv.ErrRange" = some 2 := by kernel_rfl
theorem gRngT : (Tryz.prog.globals[2]?).map (·.type) = some 83 := by kernel_rfl
def laidL : List (String × DataW Unit) := [("math/bits.deBruijn32tab", Rows.laid_math_bits_deBruijn32tab), ("math/bits.deBruijn64tab", Rows.laid_math_bits_deBruijn64tab), ("internal/strconv.uint64pow10", Rows.laid_internal_strconv_uint64pow10), ("strconv.ErrRange", Rows.laid_strconv_ErrRange), ("strconv.ErrSyntax", Rows.laid_strconv_ErrSyntax)]
theorem errs_of {W : World} (h : laidMetH Tryz.prog laidL W) : Errs (memOf W) := by
 have hL : laidMet Tryz.prog laidL W := h
 obtain ⟨a0, s0, hv0, -, -, -⟩ := laid_sentinel hL.tail.tail.tail gRng gRngT Tryz.underlying83 row129 Tryz.underlying129 Tryz.underlying131 rfl rfl Tryz.underlying9 cells131 cells9
 obtain ⟨a1, s1, hv1, -, -, -⟩ := laid_sentinel hL.tail.tail.tail.tail gSyn gSynT Tryz.underlying83 row129 Tryz.underlying129 Tryz.underlying131 rfl rfl Tryz.underlying9 cells131 cells9
 have c0 : W.cell? ⟨2, 0, none⟩ = some (.iface 129 (.pointer (some a0))) := by simpa using World.var?_cell gRng hv0 0
 have c1 : W.cell? ⟨1, 0, none⟩ = some (.iface 129 (.pointer (some a1))) := by simpa using World.var?_cell gSyn hv1 0
 refine ⟨⟨129, .pointer (some a1), fun j v hj => ?_⟩, ⟨129, .pointer (some a0), fun j v hj => ?_⟩⟩
 ·cases j with
  | zero => cases hj; exact c1
  | succ j => simp at hj
 ·cases j with
  | zero => cases hj; exact c0
  | succ j => simp at hj
abbrev synS : ByteArray := { data := #[105, 110, 118, 97, 108, 105, 100, 32, 115, 121, 110, 116, 97, 120] }
abbrev rngS : ByteArray := { data := #[118, 97, 108, 117, 101, 32, 111, 117, 116, 32, 111, 102, 32, 114, 97, 110, 103, 101] }
noncomputable def low : Nat := (World.holding Tryz.prog default ⟨#[], #[], []⟩).heap.size
noncomputable def laidWorld (os : Os) : World :=
 let w0 := World.holding Tryz.prog os ⟨#[.cells #[.string synS] 131, .cells #[.string rngS] 131], #[], []⟩
 let put (g : Nat) (vs : Array Value) (h : Array Obj) : Array Obj := h.modify g fun
   | .cells _ t frozen => .cells vs t frozen
   | o => o
 {w0 with heap := put 5 #[.int .u8 0, .int .u8 1, .int .u8 56, .int .u8 2, .int .u8 57, .int .u8 49, .int .u8 28, .int .u8 3, .int .u8 61, .int .u8 58, .int .u8 42, .int .u8 50, .int .u8 38, .int .u8 29, .int .u8 17, .int .u8 4, .int .u8 62, .int .u8 47, .int .u8 59, .int .u8 36, .int .u8 45, .int .u8 43, .int .u8 51, .int .u8 22, .int .u8 53, .int .u8 39, .int .u8 33, .int .u8 30, .int .u8 24, .int .u8 18, .int .u8 12, .int .u8 5, .int .u8 63, .int .u8 55, .int .u8 48, .int .u8 27, .int .u8 60, .int .u8 41, .int .u8 37, .int .u8 16, .int .u8 46, .int .u8 35, .int .u8 44, .int .u8 21, .int .u8 52, .int .u8 32, .int .u8 23, .int .u8 11, .int .u8 54, .int .u8 26, .int .u8 40, .int .u8 15, .int .u8 34, .int .u8 20, .int .u8 31, .int .u8 10, .int .u8 25, .int .u8 14, .int .u8 19, .int .u8 9, .int .u8 13, .int .u8 8, .int .u8 7, .int .u8 6] (put 4 #[.int .u8 0, .int .u8 1, .int .u8 28, .int .u8 2, .int .u8 29, .int .u8 14, .int .u8 24, .int .u8 3, .int .u8 30, .int .u8 22, .int .u8 20, .int .u8 15, .int .u8 25, .int .u8 17, .int .u8 4, .int .u8 8, .int .u8 31, .int .u8 27, .int .u8 13, .int .u8 23, .int .u8 21, .int .u8 19, .int .u8 16, .int .u8 7, .int .u8 26, .int .u8 12, .int .u8 18, .int .u8 6, .int .u8 11, .int .u8 5, .int .u8 10, .int .u8 9] (put 3 #[.int .u64 1, .int .u64 10, .int .u64 100, .int .u64 1000, .int .u64 10000, .int .u64 100000, .int .u64 1000000, .int .u64 10000000, .int .u64 100000000, .int .u64 1000000000, .int .u64 10000000000, .int .u64 100000000000, .int .u64 1000000000000, .int .u64 10000000000000, .int .u64 100000000000000, .int .u64 1000000000000000, .int .u64 10000000000000000, .int .u64 100000000000000000, .int .u64 1000000000000000000, .int .u64 10000000000000000000] (put 2 #[.iface 129 (.pointer (some ⟨low + 1, 0, none⟩))] (put 1 #[.iface 129 (.pointer (some ⟨low, 0, none⟩))] w0.heap)))) }
theorem laid_met (os : Os) (args : Array Value) : laidMet Tryz.prog laidL ((laidWorld os).forCall (fun _ _ => 0) ⟨#[], args, []⟩).memory :=
 laidMet_of_run' 8 (by kernel_rfl) (by kernel_rfl)
theorem post_old {H : Type} {enc : TypeId × Value → H} {f : Func} {s : ChangeSpec} {apart fresh handsOn : Bool} {W W' : World} {args : Array Value} {v : Value} {ds gs : List (DataW H)} {before pa pv : List MemPlace}
  (hW : DataW.Whole enc Tryz.prog f.params.toList s.vars apart W args.toList ds gs before)
  (hres : ∀ (b : Nat) (sp : Nat → Bool) (hd : Bool), DataW.TrodAll enc Tryz.prog W' b sp hd f.resultTypes.toList (v.resultList f.resultTypes.size) (s.fn H (ds ++ gs)).results [])
  (hargs : ∀ sp : Nat → Bool, (∀ p ∈ before, sp p.block = true) → DataW.TrodAll enc Tryz.prog W' 0 sp true f.params.toList args.toList (s.fn H (ds ++ gs)).args pa)
  (hvars : ∀ sp : Nat → Bool, (∀ p ∈ before, sp p.block = true) → DataW.TrodVars enc Tryz.prog W' sp s.vars (s.fn H (ds ++ gs)).vars pv)
  (hk : W.keptBut W' (fun _ => False)) : s.post enc Tryz.prog f apart fresh handsOn false W args v W' := by
 have hold : ∀ p ∈ before, (fun b => decide (b < W.heap.size)) p.block = true := fun p hp => by simpa using hW.lt p hp
 exact ⟨ds, gs, before, [], pa, pv, hW, hres _ _ _, hargs _ hold, hvars _ hold, World.keptBut_mono (fun _ hp => hp.elim) hk, fun h => by cases h⟩
end Go.Proofs.YtlfiikhclgeadaaGreatDoor


/- PsRowBB -/
set_option linter.unusedVariables false
set_option linter.unusedSimpArgs false
namespace Go.Proofs.YtlfiikhclgeadaaGreatDoor
open Go.ChangeShapes Go.WideShapes Go.ChangeAt Go.RowKit Go.Sep
open Go.ChangeMaps (open_string shut_string)
set_option maxRecDepth 100000 in
theorem lawBB {f : FuncId} {fn : Func} {s : ChangeSpec} (hvars : s.vars = []) (hpar : fn.params = #[5, 5]) (hres : fn.resultTypes = #[4])
  (hfn : ∀ (H : Type) (d e : DataW H), s.fn H [d, e] = { results := [.lit (.bool true)], args := [d, e] })
  (hT : ∀ (m : Mem) (L : List Sep.Item) (t c : UInt8), Errs m → TCall Tryz.prog f ⟨[byteV t, byteV c]⟩ m L (Made m L fun r _ => r = .bool true))
  {fresh handsOn : Bool} (H : Type) (enc : TypeId × Value → H) (W : World) (base : Nat) (args : Array Value) (ds gs : List (DataW H)) (before : List MemPlace)
  (hval : ∀ (j : Nat) t v, fn.params[j]? = some t → args[j]? = some v → Value.okWide Tryz.prog W .any base t v)
  (hW : DataW.Whole enc Tryz.prog fn.params.toList s.vars false W args.toList ds gs before) (hL : laidMetH Tryz.prog laidL W) :
  Calls Tryz.prog f args W fun e W' => ∃ v, e = .returned v ∧ s.post enc Tryz.prog fn false fresh handsOn false W args v W' := by
 have hW' := hW
 obtain ⟨p, q, hA0, hV, rfl, hfz, hnd⟩ := hW
 rw [hvars] at hV
 obtain ⟨rfl, rfl⟩ := trodVars_none hV
 rw [hpar] at hA0 hval
 obtain ⟨v, v1, d, d1, p0, p1, rfl, rfl, rfl, h0, h1⟩ := trodAll_two hA0
 obtain ⟨z1, rfl, rfl, rfl, hz⟩ := open_int Tryz.underlying5 (hval 0 5 v rfl rfl) h0
 obtain ⟨t, rfl⟩ : ∃ t : UInt8, z1 = (t.toNat : Int) := by
  have h1 := hz
  have e1 : IntKind.u8.min = 0 := by decide
  have e2 : IntKind.u8.max = 255 := by decide
  simp only [Lit.wf, Bool.and_eq_true, decide_eq_true_eq, e1, e2] at h1
  exact ⟨UInt8.ofNat z1.toNat, by rw [UInt8.toNat_ofNat', Nat.mod_eq_of_lt (by omega)]; omega⟩
 obtain ⟨z, rfl, rfl, rfl, hy⟩ := open_int Tryz.underlying5 (hval 1 5 v1 rfl rfl) h1
 obtain ⟨c, rfl⟩ : ∃ c : UInt8, z = (c.toNat : Int) := by
  have h1 := hy
  have e1 : IntKind.u8.min = 0 := by decide
  have e2 : IntKind.u8.max = 255 := by decide
  simp only [Lit.wf, Bool.and_eq_true, decide_eq_true_eq, e1, e2] at h1
  exact ⟨UInt8.ofNat z.toNat, by rw [UInt8.toNat_ofNat', Nat.mod_eq_of_lt (by omega)]; omega⟩
 simp only [List.append_nil] at hW'
 refine (hT (memOf W) [] t c (errs_of hL) W (St.start W)).mono fun e W' hX => ?_
 cases e with
 | returned r =>
  obtain ⟨m', L', hst, hle, _, rfl⟩ := hX
  refine ⟨_, rfl, post_old (pa := []) (pv := []) hW' (fun _ _ _ => ?_) (fun sp hsp => ?_) (fun _ _ => ?_) (hst.kept hle)⟩
  ·rw [hres, show ([.lit (.int .u8 (t.toNat : Int)), .lit (.int .u8 (c.toNat : Int))] ++ [] : List (DataW H)) = [.lit (.int .u8 (t.toNat : Int)), .lit (.int .u8 (c.toNat : Int))] from rfl, hfn]
   exact trodAll_mk1 (shut_bool Tryz.underlying4 _)
  ·rw [hpar, show ([.lit (.int .u8 (t.toNat : Int)), .lit (.int .u8 (c.toNat : Int))] ++ [] : List (DataW H)) = [.lit (.int .u8 (t.toNat : Int)), .lit (.int .u8 (c.toNat : Int))] from rfl, hfn]
   exact trodAll_mk2 (shut_int Tryz.underlying5 hz) (shut_int Tryz.underlying5 hy)
  ·rw [hvars, show ([.lit (.int .u8 (t.toNat : Int)), .lit (.int .u8 (c.toNat : Int))] ++ [] : List (DataW H)) = [.lit (.int .u8 (t.toNat : Int)), .lit (.int .u8 (c.toNat : Int))] from rfl, hfn]
   rfl
 | panicked ch =>
  obtain ⟨_, _, _, hf⟩ := hX
  exact hf.elim
 | outgrown => exact hX.elim
end Go.Proofs.YtlfiikhclgeadaaGreatDoor


/- ScUint -/
set_option linter.unusedVariables false
set_option linter.unusedSimpArgs false
namespace Go.Sep
open Go.Proofs
attribute [local irreducible] TC TO OT TCallX TCall DO DOt thenQ blockQ retQ At
theorem u64_in {n : Int} (h1 : 0 ≤ n) (h2 : n < 18446744073709551616) : IntKind.u64.wrap n = n := by
 simp only [IntKind.wrap, IntKind.signed, IntKind.bits, Bool.false_and, Bool.false_eq_true, if_false]
 omega
theorem u8_in {n : Int} (h1 : 0 ≤ n) (h2 : n < 256) : IntKind.u8.wrap n = n := by
 simp only [IntKind.wrap, IntKind.signed, IntKind.bits, Bool.false_and, Bool.false_eq_true, if_false]
 omega
def dv (c : UInt8) : Option Nat :=
 if 48 ≤ c.toNat ∧ c.toNat ≤ 57 then some (c.toNat - 48)
 else if 97 ≤ lowerN c ∧ lowerN c ≤ 122 then some (lowerN c - 97 + 10) else none
def pU (base maxV : Nat) : Str → Nat → Option Nat
 | [], n => some n
 | c :: cs, n => match dv c with
  | none => none
  | some d => if d < base ∧ n * base + d ≤ maxV then pU base maxV cs (n * base + d) else none
def UintR (top : Nat) (o : Option Nat) (r : Value) : Prop :=
 (∃ v, v ≤ top ∧ o = some v ∧ r = .tuple ⟨[.int .u64 (v : Int), .nilIface]⟩) ∨ (o = none ∧ ∃ v k, (k = 1 ∧ v = (top : Int) ∨ k = 2) ∧ r = .tuple ⟨[.int .u64 v, .iface 109 (.int .i64 k)]⟩)
theorem pU_step {base maxV : Nat} {s : Str} {k n : Nat} (h : k < s.length) : pU base maxV (s.drop k) n = match dv s[k] with
  | none => none
  | some d => if d < base ∧ n * base + d ≤ maxV then pU base maxV (s.drop (k + 1)) (n * base + d) else none := by
 rw [List.drop_eq_getElem_cons h, pU]
theorem lowerN_lt (c : UInt8) : lowerN c < 256 := by
 have := (by decide +kernel : ∀ n : Fin 256, n.val ||| 32 < 256) ⟨c.toNat, c.toNat_lt⟩
 exact this
theorem dv_lt {c : UInt8} {d : Nat} (h : dv c = some d) : d < 36 := by
 unfold dv at h
 split at h
 ·cases h; omega
 ·split at h
  ·cases h; omega
  ·cases h
theorem dv_dig {c : UInt8} (h1 : 48 ≤ c.toNat) (h2 : c.toNat ≤ 57) : dv c = some (c.toNat - 48) := by
 rw [dv, if_pos ⟨h1, h2⟩]
theorem dv_low {c : UInt8} (h0 : ¬ (48 ≤ c.toNat ∧ c.toNat ≤ 57)) (h1 : 97 ≤ lowerN c) (h2 : lowerN c ≤ 122) : dv c = some (lowerN c - 97 + 10) := by
 rw [dv, if_neg h0, if_pos ⟨h1, h2⟩]
theorem dv_none {c : UInt8} (h0 : ¬ (48 ≤ c.toNat ∧ c.toNat ≤ 57)) (h1 : ¬ (97 ≤ lowerN c ∧ lowerN c ≤ 122)) : dv c = none := by
 rw [dv, if_neg h0, if_neg h1]
theorem pU_none {base maxV : Nat} {s : Str} {k n : Nat} (h : k < s.length) (h2 : dv s[k] = none) : pU base maxV (s.drop k) n = none := by
 rw [pU_step h, h2]
theorem pU_big {base maxV : Nat} {s : Str} {k n d : Nat} (h : k < s.length) (h2 : dv s[k] = some d) (h3 : ¬ (d < base ∧ n * base + d ≤ maxV)) : pU base maxV (s.drop k) n = none := by
 rw [pU_step h, h2]
 exact if_neg h3
theorem pU_go {base maxV : Nat} {s : Str} {k n d : Nat} (h : k < s.length) (h2 : dv s[k] = some d) (h3 : d < base ∧ n * base + d ≤ maxV) : pU base maxV (s.drop k) n = pU base maxV (s.drop (k + 1)) (n * base + d) := by
 rw [pU_step h, h2]
 exact if_pos h3
theorem uint10 (m : Mem) (L : List Item) (s : Str) (hs : s ≠ []) (hl : s.length ≤ 140737488355328) : TCall Tryz.prog 116 ⟨[strV s, .int .i64 10, .int .i64 64]⟩ m L (Made m L fun r _ => UintR 18446744073709551615 (pU 10 18446744073709551615 s 0) r) := by
 have hll := lowerN_lt
 unfold TCall
 refine TCallX.enter Tryz.func116 rfl 172 rfl ?_
 repeat (first|refine q1 ?_|refine q3 ?_|refine q4 tab rfl rfl ?_|refine q5 ?_|refine q6 ?_)
 refine TC.condP rfl (fun h => ?_) (fun h => ?_)
 ·exact absurd h hs
 repeat (first|refine q1 ?_|refine q2 ?_|refine q3 ?_|refine q4 tab rfl rfl ?_|refine q5 ?_|refine q6 ?_|refine q7 ?_|refine q13 ?_|refine q16 rfl ?_|refine q17 rfl ?_)
 refine TO.step rfl (OT.conv tab rfl rfl rfl rfl rfl rfl (r := 64) rfl ?_)
 refine TO.step rfl (OT.shK rfl (.inl rfl) rfl rfl rfl rfl (by decide) (r := 0) (by rfl) ?_)
 refine TO.step rfl (OT.arithK rfl rfl rfl rfl rfl rfl (r' := 18446744073709551615) (by rfl) ?_)
 repeat (first|refine q1 ?_|refine q3 ?_|refine q4 tab rfl rfl ?_|refine q5 ?_|refine q6 ?_)
 refine TO.step rfl (OT.strBytes tab rfl rfl rfl rfl rfl rfl rfl hl (fun sb m1 hm1 hsb hlen => ?_))
 repeat (first|refine q2 ?_|refine q4 tab rfl rfl ?_|refine q5 ?_|refine q6 ?_)
 rw [hlen]
 refine TC.loopK (ι := Nat × Nat) [1, 8, 9, 10, 11, 12, 99, 100] rfl (fun x => [(101, .int .i64 (x.1 : Int)), (13, .int .u64 (x.2 : Int))]) (fun _ => m1) (fun _ => L) (fun x => x.1 ≤ s.length ∧ x.2 ≤ 18446744073709551615 ∧ pU 10 18446744073709551615 s 0 = pU 10 18446744073709551615 (s.drop x.1) x.2) (fun x => s.length - x.1) (0, 0) (by repeat (first|exact trivial|refine And.intro rfl ?_)) rfl (by repeat (exact List.Sublist.refl _)) ⟨Nat.zero_le _, Nat.zero_le _, rfl⟩ ?_
 rintro ⟨k, n⟩ ⟨hk, hn, hI⟩
 replace hk : k ≤ s.length := hk
 replace hn : n ≤ 18446744073709551615 := hn
 replace hI : pU 10 18446744073709551615 s 0 = pU 10 18446744073709551615 (s.drop k) n := hI
 repeat (first|refine q1 ?_|refine q3 ?_|refine q4 tab rfl rfl ?_|refine q5 ?_|refine q6 ?_)
 refine TC.condP rfl (fun h1 => ?_) (fun h1 => ?_)
 ·have hlt : k < s.length := by omega
  have hx : s[k]? = some s[k] := by simp [hlt]
  have hc : s[k].toNat < 256 := s[k].toNat_lt
  repeat (first|refine q1 ?_|refine q6 ?_|refine q13 ?_)
  refine TC.block ?_
  repeat (first|refine q1 ?_|refine q3 ?_)
  refine TO.step rfl (OT.index tab rByte k hsb rfl rfl rfl rfl rfl (by first | rfl | omega | (simp only; omega)) rfl hx ?_)
  rintro b i hd rfl hA
  (refine TO.step rfl (OT.loadA0 tab hA rfl rfl rfl rfl rfl ?_))
  repeat (first|refine q1 ?_|refine q3 ?_|refine q4 tab rfl rfl ?_|refine q5 ?_|refine q6 ?_)
  refine TC.cutT (ι := Nat) [1, 8, 9, 10, 11, 12, 13, 99, 100, 101] rfl (fun d => [(16, .int .u8 (d : Int))]) (fun _ => m1) (fun _ => L) (fun d => dv s[k] = some d) ?_ (fun d hd => ?_)
  ·repeat (first|refine q1 ?_|refine q2 ?_|refine q3 ?_|refine q4 tab rfl rfl ?_)
   (refine TO.splitP rfl rfl (fun h3 => ?_) (fun h3 => ?_))
   ·skip
    repeat (first|refine q1 ?_|refine q3 ?_|refine q4 tab rfl rfl ?_|refine q5 ?_|refine q6 ?_|refine q17 rfl ?_)
    (refine TO.splitP rfl rfl (fun h4 => ?_) (fun h4 => ?_))
    ·repeat (first|refine q4 tab rfl rfl ?_|refine q5 ?_|refine q6 ?_)
     refine TC.condP rfl (fun h6 => ?_) (fun h6 => ?_)
     ·repeat (first|refine q3 ?_|refine q4 tab rfl rfl ?_)
      refine TO.step rfl (OT.arithK rfl rfl rfl rfl rfl rfl (r' := ((s[k].toNat - 48 : Nat) : Int)) (by rw [u8_in (by omega) (by omega)]; omega) ?_)
      repeat (first|refine q4 tab rfl rfl ?_|refine q5 ?_|refine q6 ?_|refine q7 ?_)
      exact ⟨s[k].toNat - 48, (by repeat (first|exact trivial|refine And.intro rfl ?_)), (by repeat (first|exact trivial|refine And.intro rfl ?_)), rfl, rfl, (by repeat (exact List.Sublist.refl _)), dv_dig (by omega) (by omega)⟩
     ·have h0 : ¬ (48 ≤ s[k].toNat ∧ s[k].toNat ≤ 57) := by omega
      repeat (first|refine q1 ?_|refine q3 ?_|refine q4 tab rfl rfl ?_)
      refine TO.step rfl (OT.call rfl rfl rfl rfl rfl rfl goes132 ((lower_law _ _ s[k]).x ?_));
      rintro _ _ _ ⟨rfl, rfl, rfl⟩
      repeat (refine q4 tab rfl rfl ?_)
      (refine TO.splitP rfl rfl (fun h5 => ?_) (fun h5 => ?_))
      ·repeat (refine q4 tab rfl rfl ?_)
       refine TO.step rfl (OT.call rfl rfl rfl rfl rfl rfl goes132 ((lower_law _ _ s[k]).x ?_));
       rintro _ _ _ ⟨rfl, rfl, rfl⟩
       repeat (first|refine q4 tab rfl rfl ?_|refine q5 ?_|refine q6 ?_)
       refine TC.condP rfl (fun h6 => ?_) (fun h6 => ?_)
       ·repeat (first|refine q3 ?_|refine q4 tab rfl rfl ?_)
        refine TO.step rfl (OT.call rfl rfl rfl rfl rfl rfl goes132 ((lower_law _ _ s[k]).x ?_));
        rintro _ _ _ ⟨rfl, rfl, rfl⟩
        skip
        refine TO.step rfl (OT.arithK rfl rfl rfl rfl rfl rfl (u8_in (by omega) (by omega)) ?_)
        refine TO.step rfl (OT.arithK rfl rfl rfl rfl rfl rfl (r' := ((lowerN s[k] - 97 + 10 : Nat) : Int)) (by rw [u8_in (by omega) (by omega)]; omega) ?_)
        repeat (first|refine q4 tab rfl rfl ?_|refine q5 ?_|refine q6 ?_|refine q7 ?_)
        exact ⟨lowerN s[k] - 97 + 10, (by repeat (first|exact trivial|refine And.intro rfl ?_)), (by repeat (first|exact trivial|refine And.intro rfl ?_)), rfl, rfl, (by repeat (exact List.Sublist.refl _)), dv_low h0 (by omega) (by omega)⟩
       ·skip
        repeat (first|refine q1 ?_|refine q3 ?_)
        refine TO.step rfl (OT.mkIface tab rfl rfl rfl rfl rfl ?_)
        repeat (first|refine q4 tab rfl rfl ?_|refine q5 ?_|refine q6 ?_|refine q8 ?_|refine q9 ?_|refine q15 ?_)
        refine retQ_ret rfl (by repeat (exact List.Sublist.refl _)) ⟨hm1, rfl, ?_⟩
        exact .inr ⟨hI.trans (pU_none hlt (dv_none h0 (by omega))), _, 2, .inr rfl, rfl⟩
      ·skip
       repeat (first|refine q1 ?_|refine q3 ?_|refine q4 tab rfl rfl ?_|refine q5 ?_|refine q6 ?_|refine q17 rfl ?_)
       refine TO.step rfl (OT.mkIface tab rfl rfl rfl rfl rfl ?_)
       repeat (first|refine q4 tab rfl rfl ?_|refine q5 ?_|refine q6 ?_|refine q8 ?_|refine q9 ?_|refine q15 ?_)
       refine retQ_ret rfl (by repeat (exact List.Sublist.refl _)) ⟨hm1, rfl, ?_⟩
       exact .inr ⟨hI.trans (pU_none hlt (dv_none h0 (by omega))), _, 2, .inr rfl, rfl⟩
    ·have h0 : ¬ (48 ≤ s[k].toNat ∧ s[k].toNat ≤ 57) := by omega
     repeat (first|refine q1 ?_|refine q3 ?_|refine q4 tab rfl rfl ?_|refine q5 ?_|refine q6 ?_|refine q17 rfl ?_)
     refine TO.step rfl (OT.call rfl rfl rfl rfl rfl rfl goes132 ((lower_law _ _ s[k]).x ?_));
     rintro _ _ _ ⟨rfl, rfl, rfl⟩
     repeat (refine q4 tab rfl rfl ?_)
     (refine TO.splitP rfl rfl (fun h5 => ?_) (fun h5 => ?_))
     ·repeat (refine q4 tab rfl rfl ?_)
      refine TO.step rfl (OT.call rfl rfl rfl rfl rfl rfl goes132 ((lower_law _ _ s[k]).x ?_));
      rintro _ _ _ ⟨rfl, rfl, rfl⟩
      repeat (first|refine q4 tab rfl rfl ?_|refine q5 ?_|refine q6 ?_)
      refine TC.condP rfl (fun h6 => ?_) (fun h6 => ?_)
      ·repeat (first|refine q3 ?_|refine q4 tab rfl rfl ?_)
       refine TO.step rfl (OT.call rfl rfl rfl rfl rfl rfl goes132 ((lower_law _ _ s[k]).x ?_));
       rintro _ _ _ ⟨rfl, rfl, rfl⟩
       skip
       refine TO.step rfl (OT.arithK rfl rfl rfl rfl rfl rfl (u8_in (by omega) (by omega)) ?_)
       refine TO.step rfl (OT.arithK rfl rfl rfl rfl rfl rfl (r' := ((lowerN s[k] - 97 + 10 : Nat) : Int)) (by rw [u8_in (by omega) (by omega)]; omega) ?_)
       repeat (first|refine q4 tab rfl rfl ?_|refine q5 ?_|refine q6 ?_|refine q7 ?_)
       exact ⟨lowerN s[k] - 97 + 10, (by repeat (first|exact trivial|refine And.intro rfl ?_)), (by repeat (first|exact trivial|refine And.intro rfl ?_)), rfl, rfl, (by repeat (exact List.Sublist.refl _)), dv_low h0 (by omega) (by omega)⟩
      ·skip
       repeat (first|refine q1 ?_|refine q3 ?_)
       refine TO.step rfl (OT.mkIface tab rfl rfl rfl rfl rfl ?_)
       repeat (first|refine q4 tab rfl rfl ?_|refine q5 ?_|refine q6 ?_|refine q8 ?_|refine q9 ?_|refine q15 ?_)
       refine retQ_ret rfl (by repeat (exact List.Sublist.refl _)) ⟨hm1, rfl, ?_⟩
       exact .inr ⟨hI.trans (pU_none hlt (dv_none h0 (by omega))), _, 2, .inr rfl, rfl⟩
     ·skip
      repeat (first|refine q1 ?_|refine q3 ?_|refine q4 tab rfl rfl ?_|refine q5 ?_|refine q6 ?_|refine q17 rfl ?_)
      refine TO.step rfl (OT.mkIface tab rfl rfl rfl rfl rfl ?_)
      repeat (first|refine q4 tab rfl rfl ?_|refine q5 ?_|refine q6 ?_|refine q8 ?_|refine q9 ?_|refine q15 ?_)
      refine retQ_ret rfl (by repeat (exact List.Sublist.refl _)) ⟨hm1, rfl, ?_⟩
      exact .inr ⟨hI.trans (pU_none hlt (dv_none h0 (by omega))), _, 2, .inr rfl, rfl⟩
   ·skip
    repeat (first|refine q1 ?_|refine q3 ?_|refine q4 tab rfl rfl ?_|refine q5 ?_|refine q6 ?_|refine q17 rfl ?_)
    (refine TO.splitP rfl rfl (fun h4 => ?_) (fun h4 => ?_))
    ·repeat (first|refine q4 tab rfl rfl ?_|refine q5 ?_|refine q6 ?_)
     refine TC.condP rfl (fun h6 => ?_) (fun h6 => ?_)
     ·repeat (first|refine q3 ?_|refine q4 tab rfl rfl ?_)
      refine TO.step rfl (OT.arithK rfl rfl rfl rfl rfl rfl (r' := ((s[k].toNat - 48 : Nat) : Int)) (by rw [u8_in (by omega) (by omega)]; omega) ?_)
      repeat (first|refine q4 tab rfl rfl ?_|refine q5 ?_|refine q6 ?_|refine q7 ?_)
      exact ⟨s[k].toNat - 48, (by repeat (first|exact trivial|refine And.intro rfl ?_)), (by repeat (first|exact trivial|refine And.intro rfl ?_)), rfl, rfl, (by repeat (exact List.Sublist.refl _)), dv_dig (by omega) (by omega)⟩
     ·have h0 : ¬ (48 ≤ s[k].toNat ∧ s[k].toNat ≤ 57) := by omega
      repeat (first|refine q1 ?_|refine q3 ?_|refine q4 tab rfl rfl ?_)
      refine TO.step rfl (OT.call rfl rfl rfl rfl rfl rfl goes132 ((lower_law _ _ s[k]).x ?_));
      rintro _ _ _ ⟨rfl, rfl, rfl⟩
      repeat (refine q4 tab rfl rfl ?_)
      (refine TO.splitP rfl rfl (fun h5 => ?_) (fun h5 => ?_))
      ·repeat (refine q4 tab rfl rfl ?_)
       refine TO.step rfl (OT.call rfl rfl rfl rfl rfl rfl goes132 ((lower_law _ _ s[k]).x ?_));
       rintro _ _ _ ⟨rfl, rfl, rfl⟩
       repeat (first|refine q4 tab rfl rfl ?_|refine q5 ?_|refine q6 ?_)
       refine TC.condP rfl (fun h6 => ?_) (fun h6 => ?_)
       ·repeat (first|refine q3 ?_|refine q4 tab rfl rfl ?_)
        refine TO.step rfl (OT.call rfl rfl rfl rfl rfl rfl goes132 ((lower_law _ _ s[k]).x ?_));
        rintro _ _ _ ⟨rfl, rfl, rfl⟩
        skip
        refine TO.step rfl (OT.arithK rfl rfl rfl rfl rfl rfl (u8_in (by omega) (by omega)) ?_)
        refine TO.step rfl (OT.arithK rfl rfl rfl rfl rfl rfl (r' := ((lowerN s[k] - 97 + 10 : Nat) : Int)) (by rw [u8_in (by omega) (by omega)]; omega) ?_)
        repeat (first|refine q4 tab rfl rfl ?_|refine q5 ?_|refine q6 ?_|refine q7 ?_)
        exact ⟨lowerN s[k] - 97 + 10, (by repeat (first|exact trivial|refine And.intro rfl ?_)), (by repeat (first|exact trivial|refine And.intro rfl ?_)), rfl, rfl, (by repeat (exact List.Sublist.refl _)), dv_low h0 (by omega) (by omega)⟩
       ·skip
        repeat (first|refine q1 ?_|refine q3 ?_)
        refine TO.step rfl (OT.mkIface tab rfl rfl rfl rfl rfl ?_)
        repeat (first|refine q4 tab rfl rfl ?_|refine q5 ?_|refine q6 ?_|refine q8 ?_|refine q9 ?_|refine q15 ?_)
        refine retQ_ret rfl (by repeat (exact List.Sublist.refl _)) ⟨hm1, rfl, ?_⟩
        exact .inr ⟨hI.trans (pU_none hlt (dv_none h0 (by omega))), _, 2, .inr rfl, rfl⟩
      ·skip
       repeat (first|refine q1 ?_|refine q3 ?_|refine q4 tab rfl rfl ?_|refine q5 ?_|refine q6 ?_|refine q17 rfl ?_)
       refine TO.step rfl (OT.mkIface tab rfl rfl rfl rfl rfl ?_)
       repeat (first|refine q4 tab rfl rfl ?_|refine q5 ?_|refine q6 ?_|refine q8 ?_|refine q9 ?_|refine q15 ?_)
       refine retQ_ret rfl (by repeat (exact List.Sublist.refl _)) ⟨hm1, rfl, ?_⟩
       exact .inr ⟨hI.trans (pU_none hlt (dv_none h0 (by omega))), _, 2, .inr rfl, rfl⟩
    ·have h0 : ¬ (48 ≤ s[k].toNat ∧ s[k].toNat ≤ 57) := by omega
     repeat (first|refine q1 ?_|refine q3 ?_|refine q4 tab rfl rfl ?_|refine q5 ?_|refine q6 ?_|refine q17 rfl ?_)
     refine TO.step rfl (OT.call rfl rfl rfl rfl rfl rfl goes132 ((lower_law _ _ s[k]).x ?_));
     rintro _ _ _ ⟨rfl, rfl, rfl⟩
     repeat (refine q4 tab rfl rfl ?_)
     (refine TO.splitP rfl rfl (fun h5 => ?_) (fun h5 => ?_))
     ·repeat (refine q4 tab rfl rfl ?_)
      refine TO.step rfl (OT.call rfl rfl rfl rfl rfl rfl goes132 ((lower_law _ _ s[k]).x ?_));
      rintro _ _ _ ⟨rfl, rfl, rfl⟩
      repeat (first|refine q4 tab rfl rfl ?_|refine q5 ?_|refine q6 ?_)
      refine TC.condP rfl (fun h6 => ?_) (fun h6 => ?_)
      ·repeat (first|refine q3 ?_|refine q4 tab rfl rfl ?_)
       refine TO.step rfl (OT.call rfl rfl rfl rfl rfl rfl goes132 ((lower_law _ _ s[k]).x ?_));
       rintro _ _ _ ⟨rfl, rfl, rfl⟩
       skip
       refine TO.step rfl (OT.arithK rfl rfl rfl rfl rfl rfl (u8_in (by omega) (by omega)) ?_)
       refine TO.step rfl (OT.arithK rfl rfl rfl rfl rfl rfl (r' := ((lowerN s[k] - 97 + 10 : Nat) : Int)) (by rw [u8_in (by omega) (by omega)]; omega) ?_)
       repeat (first|refine q4 tab rfl rfl ?_|refine q5 ?_|refine q6 ?_|refine q7 ?_)
       exact ⟨lowerN s[k] - 97 + 10, (by repeat (first|exact trivial|refine And.intro rfl ?_)), (by repeat (first|exact trivial|refine And.intro rfl ?_)), rfl, rfl, (by repeat (exact List.Sublist.refl _)), dv_low h0 (by omega) (by omega)⟩
      ·skip
       repeat (first|refine q1 ?_|refine q3 ?_)
       refine TO.step rfl (OT.mkIface tab rfl rfl rfl rfl rfl ?_)
       repeat (first|refine q4 tab rfl rfl ?_|refine q5 ?_|refine q6 ?_|refine q8 ?_|refine q9 ?_|refine q15 ?_)
       refine retQ_ret rfl (by repeat (exact List.Sublist.refl _)) ⟨hm1, rfl, ?_⟩
       exact .inr ⟨hI.trans (pU_none hlt (dv_none h0 (by omega))), _, 2, .inr rfl, rfl⟩
     ·skip
      repeat (first|refine q1 ?_|refine q3 ?_|refine q4 tab rfl rfl ?_|refine q5 ?_|refine q6 ?_|refine q17 rfl ?_)
      refine TO.step rfl (OT.mkIface tab rfl rfl rfl rfl rfl ?_)
      repeat (first|refine q4 tab rfl rfl ?_|refine q5 ?_|refine q6 ?_|refine q8 ?_|refine q9 ?_|refine q15 ?_)
      refine retQ_ret rfl (by repeat (exact List.Sublist.refl _)) ⟨hm1, rfl, ?_⟩
      exact .inr ⟨hI.trans (pU_none hlt (dv_none h0 (by omega))), _, 2, .inr rfl, rfl⟩
  have hd36 := dv_lt hd
  repeat (first|refine q1 ?_|refine q3 ?_|refine q4 tab rfl rfl ?_)
  refine TO.step rfl (OT.conv tab rfl rfl rfl rfl rfl rfl (r := 10) rfl ?_)
  repeat (first|refine q4 tab rfl rfl ?_|refine q5 ?_|refine q6 ?_)
  refine TC.condP rfl (fun h4 => ?_) (fun h4 => ?_)
  ·repeat (first|refine q1 ?_|refine q3 ?_)
   refine TO.step rfl (OT.mkIface tab rfl rfl rfl rfl rfl ?_)
   repeat (first|refine q4 tab rfl rfl ?_|refine q5 ?_|refine q6 ?_|refine q8 ?_|refine q9 ?_|refine q15 ?_)
   refine retQ_ret rfl (by repeat (exact List.Sublist.refl _)) ⟨hm1, rfl, ?_⟩
   exact .inr ⟨hI.trans (pU_big hlt hd (by omega)), _, 2, .inr rfl, rfl⟩
  repeat (first|refine q1 ?_|refine q3 ?_|refine q4 tab rfl rfl ?_|refine q5 ?_|refine q6 ?_|refine q13 ?_)
  refine TC.condP rfl (fun h5 => ?_) (fun h5 => ?_)
  ·repeat (first|refine q1 ?_|refine q3 ?_|refine q4 tab rfl rfl ?_)
   refine TO.step rfl (OT.mkIface tab rfl rfl rfl rfl rfl ?_)
   repeat (first|refine q4 tab rfl rfl ?_|refine q5 ?_|refine q6 ?_|refine q8 ?_|refine q9 ?_|refine q15 ?_)
   refine retQ_ret rfl (by repeat (exact List.Sublist.refl _)) ⟨hm1, rfl, ?_⟩
   exact .inr ⟨hI.trans (pU_big hlt hd (by omega)), _, 1, .inl ⟨rfl, rfl⟩, rfl⟩
  repeat (first|refine q1 ?_|refine q3 ?_|refine q4 tab rfl rfl ?_|refine q6 ?_|refine q13 ?_)
  refine TO.step rfl (OT.conv tab rfl rfl rfl rfl rfl rfl (r := 10) rfl ?_)
  refine TO.step rfl (OT.arithK rfl rfl rfl rfl rfl rfl (r' := ((n * 10 : Nat) : Int)) (by rw [u64_in (by omega) (by omega)]; omega) ?_)
  repeat (first|refine q1 ?_|refine q3 ?_|refine q4 tab rfl rfl ?_|refine q5 ?_|refine q6 ?_)
  refine TO.step rfl (OT.conv tab rfl rfl rfl rfl rfl rfl (r := (d : Int)) (u64_in (by omega) (by omega)) ?_)
  refine TO.step rfl (OT.arithK rfl rfl rfl rfl rfl rfl (r' := (((n * 10 + d) % 18446744073709551616 : Nat) : Int)) (by simp only [IntKind.wrap, IntKind.signed, IntKind.bits, Bool.false_and, Bool.false_eq_true, if_false]; omega) ?_)
  repeat (first|refine q1 ?_|refine q3 ?_|refine q4 tab rfl rfl ?_|refine q5 ?_|refine q6 ?_)
  (refine TO.splitP rfl rfl (fun h6 => ?_) (fun h6 => ?_))
  ·repeat (first|refine q1 ?_|refine q3 ?_|refine q4 tab rfl rfl ?_|refine q5 ?_|refine q6 ?_|refine q16 rfl ?_)
   refine TO.step rfl (OT.mkIface tab rfl rfl rfl rfl rfl ?_)
   repeat (first|refine q4 tab rfl rfl ?_|refine q5 ?_|refine q6 ?_|refine q8 ?_|refine q9 ?_|refine q15 ?_)
   refine retQ_ret rfl (by repeat (exact List.Sublist.refl _)) ⟨hm1, rfl, ?_⟩
   exact .inr ⟨hI.trans (pU_big hlt hd (by omega)), _, 1, .inl ⟨rfl, rfl⟩, rfl⟩
  repeat (first|refine q4 tab rfl rfl ?_|refine q5 ?_|refine q6 ?_)
  refine TC.condP rfl (fun h7 => ?_) (fun h7 => ?_)
  ·repeat (first|refine q1 ?_|refine q3 ?_|refine q4 tab rfl rfl ?_)
   refine TO.step rfl (OT.mkIface tab rfl rfl rfl rfl rfl ?_)
   repeat (first|refine q4 tab rfl rfl ?_|refine q5 ?_|refine q6 ?_|refine q8 ?_|refine q9 ?_|refine q15 ?_)
   refine retQ_ret rfl (by repeat (exact List.Sublist.refl _)) ⟨hm1, rfl, ?_⟩
   exact .inr ⟨hI.trans (pU_big hlt hd (by omega)), _, 1, .inl ⟨rfl, rfl⟩, rfl⟩
  have hv : (n * 10 + d) % 18446744073709551616 = n * 10 + d := by omega
  rw [hv]
  repeat (first|refine q3 ?_|refine q4 tab rfl rfl ?_|refine q5 ?_|refine q6 ?_|refine q7 ?_|refine q13 ?_)
  refine TO.step rfl (OT.arith (r' := ((k + 1 : Nat) : Int)) rfl rfl rfl rfl rfl rfl rfl (by omega) ?_)
  repeat (first|refine q4 tab rfl rfl ?_|refine q5 ?_|refine q6 ?_)
  exact ⟨(k + 1, n * 10 + d), (by repeat (first|exact trivial|refine And.intro rfl ?_)), (by repeat (first|exact trivial|refine And.intro rfl ?_)), rfl, rfl, (by repeat (exact List.Sublist.refl _)), ⟨by omega, by omega, hI.trans (pU_go hlt hd (by omega))⟩, by omega⟩
 ·repeat (first|refine q1 ?_|refine q3 ?_|refine q4 tab rfl rfl ?_|refine q5 ?_|refine q6 ?_|refine q10 ?_|refine q11 ?_|refine q13 ?_|refine q14 ?_|refine q15 ?_|refine q17 rfl ?_)
  refine retQ_ret rfl (by repeat (exact List.Sublist.refl _)) ⟨hm1, rfl, ?_⟩
  refine .inl ⟨n, hn, ?_, rfl⟩
  rw [hI, List.drop_eq_nil_of_le (by omega)]; rfl
theorem uint16 (m : Mem) (L : List Item) (s : Str) (hs : s ≠ []) (hl : s.length ≤ 140737488355328) : TCall Tryz.prog 116 ⟨[strV s, .int .i64 16, .int .i64 8]⟩ m L (Made m L fun r _ => UintR 255 (pU 16 255 s 0) r) := by
 have hll := lowerN_lt
 unfold TCall
 refine TCallX.enter Tryz.func116 rfl 172 rfl ?_
 repeat (first|refine q1 ?_|refine q3 ?_|refine q4 tab rfl rfl ?_|refine q5 ?_|refine q6 ?_)
 refine TC.condP rfl (fun h => ?_) (fun h => ?_)
 ·exact absurd h hs
 repeat (first|refine q1 ?_|refine q2 ?_|refine q3 ?_|refine q4 tab rfl rfl ?_|refine q5 ?_|refine q6 ?_|refine q7 ?_|refine q13 ?_|refine q16 rfl ?_|refine q17 rfl ?_)
 refine TO.step rfl (OT.conv tab rfl rfl rfl rfl rfl rfl (r := 8) rfl ?_)
 refine TO.step rfl (OT.shK rfl (.inl rfl) rfl rfl rfl rfl (by decide) (r := 256) (by rfl) ?_)
 refine TO.step rfl (OT.arithK rfl rfl rfl rfl rfl rfl (r' := 255) (by rfl) ?_)
 repeat (first|refine q1 ?_|refine q3 ?_|refine q4 tab rfl rfl ?_|refine q5 ?_|refine q6 ?_)
 refine TO.step rfl (OT.strBytes tab rfl rfl rfl rfl rfl rfl rfl hl (fun sb m1 hm1 hsb hlen => ?_))
 repeat (first|refine q2 ?_|refine q4 tab rfl rfl ?_|refine q5 ?_|refine q6 ?_)
 rw [hlen]
 refine TC.loopK (ι := Nat × Nat) [1, 8, 9, 10, 11, 12, 99, 100] rfl (fun x => [(101, .int .i64 (x.1 : Int)), (13, .int .u64 (x.2 : Int))]) (fun _ => m1) (fun _ => L) (fun x => x.1 ≤ s.length ∧ x.2 ≤ 255 ∧ pU 16 255 s 0 = pU 16 255 (s.drop x.1) x.2) (fun x => s.length - x.1) (0, 0) (by repeat (first|exact trivial|refine And.intro rfl ?_)) rfl (by repeat (exact List.Sublist.refl _)) ⟨Nat.zero_le _, Nat.zero_le _, rfl⟩ ?_
 rintro ⟨k, n⟩ ⟨hk, hn, hI⟩
 replace hk : k ≤ s.length := hk
 replace hn : n ≤ 255 := hn
 replace hI : pU 16 255 s 0 = pU 16 255 (s.drop k) n := hI
 repeat (first|refine q1 ?_|refine q3 ?_|refine q4 tab rfl rfl ?_|refine q5 ?_|refine q6 ?_)
 refine TC.condP rfl (fun h1 => ?_) (fun h1 => ?_)
 ·have hlt : k < s.length := by omega
  have hx : s[k]? = some s[k] := by simp [hlt]
  have hc : s[k].toNat < 256 := s[k].toNat_lt
  repeat (first|refine q1 ?_|refine q6 ?_|refine q13 ?_)
  refine TC.block ?_
  repeat (first|refine q1 ?_|refine q3 ?_)
  refine TO.step rfl (OT.index tab rByte k hsb rfl rfl rfl rfl rfl (by first | rfl | omega | (simp only; omega)) rfl hx ?_)
  rintro b i hd rfl hA
  (refine TO.step rfl (OT.loadA0 tab hA rfl rfl rfl rfl rfl ?_))
  repeat (first|refine q1 ?_|refine q3 ?_|refine q4 tab rfl rfl ?_|refine q5 ?_|refine q6 ?_)
  refine TC.cutT (ι := Nat) [1, 8, 9, 10, 11, 12, 13, 99, 100, 101] rfl (fun d => [(16, .int .u8 (d : Int))]) (fun _ => m1) (fun _ => L) (fun d => dv s[k] = some d) ?_ (fun d hd => ?_)
  ·repeat (first|refine q1 ?_|refine q2 ?_|refine q3 ?_|refine q4 tab rfl rfl ?_)
   (refine TO.splitP rfl rfl (fun h3 => ?_) (fun h3 => ?_))
   ·skip
    repeat (first|refine q1 ?_|refine q3 ?_|refine q4 tab rfl rfl ?_|refine q5 ?_|refine q6 ?_|refine q17 rfl ?_)
    (refine TO.splitP rfl rfl (fun h4 => ?_) (fun h4 => ?_))
    ·repeat (first|refine q4 tab rfl rfl ?_|refine q5 ?_|refine q6 ?_)
     refine TC.condP rfl (fun h6 => ?_) (fun h6 => ?_)
     ·repeat (first|refine q3 ?_|refine q4 tab rfl rfl ?_)
      refine TO.step rfl (OT.arithK rfl rfl rfl rfl rfl rfl (r' := ((s[k].toNat - 48 : Nat) : Int)) (by rw [u8_in (by omega) (by omega)]; omega) ?_)
      repeat (first|refine q4 tab rfl rfl ?_|refine q5 ?_|refine q6 ?_|refine q7 ?_)
      exact ⟨s[k].toNat - 48, (by repeat (first|exact trivial|refine And.intro rfl ?_)), (by repeat (first|exact trivial|refine And.intro rfl ?_)), rfl, rfl, (by repeat (exact List.Sublist.refl _)), dv_dig (by omega) (by omega)⟩
     ·have h0 : ¬ (48 ≤ s[k].toNat ∧ s[k].toNat ≤ 57) := by omega
      repeat (first|refine q1 ?_|refine q3 ?_|refine q4 tab rfl rfl ?_)
      refine TO.step rfl (OT.call rfl rfl rfl rfl rfl rfl goes132 ((lower_law _ _ s[k]).x ?_));
      rintro _ _ _ ⟨rfl, rfl, rfl⟩
      repeat (refine q4 tab rfl rfl ?_)
      (refine TO.splitP rfl rfl (fun h5 => ?_) (fun h5 => ?_))
      ·repeat (refine q4 tab rfl rfl ?_)
       refine TO.step rfl (OT.call rfl rfl rfl rfl rfl rfl goes132 ((lower_law _ _ s[k]).x ?_));
       rintro _ _ _ ⟨rfl, rfl, rfl⟩
       repeat (first|refine q4 tab rfl rfl ?_|refine q5 ?_|refine q6 ?_)
       refine TC.condP rfl (fun h6 => ?_) (fun h6 => ?_)
       ·repeat (first|refine q3 ?_|refine q4 tab rfl rfl ?_)
        refine TO.step rfl (OT.call rfl rfl rfl rfl rfl rfl goes132 ((lower_law _ _ s[k]).x ?_));
        rintro _ _ _ ⟨rfl, rfl, rfl⟩
        skip
        refine TO.step rfl (OT.arithK rfl rfl rfl rfl rfl rfl (u8_in (by omega) (by omega)) ?_)
        refine TO.step rfl (OT.arithK rfl rfl rfl rfl rfl rfl (r' := ((lowerN s[k] - 97 + 10 : Nat) : Int)) (by rw [u8_in (by omega) (by omega)]; omega) ?_)
        repeat (first|refine q4 tab rfl rfl ?_|refine q5 ?_|refine q6 ?_|refine q7 ?_)
        exact ⟨lowerN s[k] - 97 + 10, (by repeat (first|exact trivial|refine And.intro rfl ?_)), (by repeat (first|exact trivial|refine And.intro rfl ?_)), rfl, rfl, (by repeat (exact List.Sublist.refl _)), dv_low h0 (by omega) (by omega)⟩
       ·skip
        repeat (first|refine q1 ?_|refine q3 ?_)
        refine TO.step rfl (OT.mkIface tab rfl rfl rfl rfl rfl ?_)
        repeat (first|refine q4 tab rfl rfl ?_|refine q5 ?_|refine q6 ?_|refine q8 ?_|refine q9 ?_|refine q15 ?_)
        refine retQ_ret rfl (by repeat (exact List.Sublist.refl _)) ⟨hm1, rfl, ?_⟩
        exact .inr ⟨hI.trans (pU_none hlt (dv_none h0 (by omega))), _, 2, .inr rfl, rfl⟩
      ·skip
       repeat (first|refine q1 ?_|refine q3 ?_|refine q4 tab rfl rfl ?_|refine q5 ?_|refine q6 ?_|refine q17 rfl ?_)
       refine TO.step rfl (OT.mkIface tab rfl rfl rfl rfl rfl ?_)
       repeat (first|refine q4 tab rfl rfl ?_|refine q5 ?_|refine q6 ?_|refine q8 ?_|refine q9 ?_|refine q15 ?_)
       refine retQ_ret rfl (by repeat (exact List.Sublist.refl _)) ⟨hm1, rfl, ?_⟩
       exact .inr ⟨hI.trans (pU_none hlt (dv_none h0 (by omega))), _, 2, .inr rfl, rfl⟩
    ·have h0 : ¬ (48 ≤ s[k].toNat ∧ s[k].toNat ≤ 57) := by omega
     repeat (first|refine q1 ?_|refine q3 ?_|refine q4 tab rfl rfl ?_|refine q5 ?_|refine q6 ?_|refine q17 rfl ?_)
     refine TO.step rfl (OT.call rfl rfl rfl rfl rfl rfl goes132 ((lower_law _ _ s[k]).x ?_));
     rintro _ _ _ ⟨rfl, rfl, rfl⟩
     repeat (refine q4 tab rfl rfl ?_)
     (refine TO.splitP rfl rfl (fun h5 => ?_) (fun h5 => ?_))
     ·repeat (refine q4 tab rfl rfl ?_)
      refine TO.step rfl (OT.call rfl rfl rfl rfl rfl rfl goes132 ((lower_law _ _ s[k]).x ?_));
      rintro _ _ _ ⟨rfl, rfl, rfl⟩
      repeat (first|refine q4 tab rfl rfl ?_|refine q5 ?_|refine q6 ?_)
      refine TC.condP rfl (fun h6 => ?_) (fun h6 => ?_)
      ·repeat (first|refine q3 ?_|refine q4 tab rfl rfl ?_)
       refine TO.step rfl (OT.call rfl rfl rfl rfl rfl rfl goes132 ((lower_law _ _ s[k]).x ?_));
       rintro _ _ _ ⟨rfl, rfl, rfl⟩
       skip
       refine TO.step rfl (OT.arithK rfl rfl rfl rfl rfl rfl (u8_in (by omega) (by omega)) ?_)
       refine TO.step rfl (OT.arithK rfl rfl rfl rfl rfl rfl (r' := ((lowerN s[k] - 97 + 10 : Nat) : Int)) (by rw [u8_in (by omega) (by omega)]; omega) ?_)
       repeat (first|refine q4 tab rfl rfl ?_|refine q5 ?_|refine q6 ?_|refine q7 ?_)
       exact ⟨lowerN s[k] - 97 + 10, (by repeat (first|exact trivial|refine And.intro rfl ?_)), (by repeat (first|exact trivial|refine And.intro rfl ?_)), rfl, rfl, (by repeat (exact List.Sublist.refl _)), dv_low h0 (by omega) (by omega)⟩
      ·skip
       repeat (first|refine q1 ?_|refine q3 ?_)
       refine TO.step rfl (OT.mkIface tab rfl rfl rfl rfl rfl ?_)
       repeat (first|refine q4 tab rfl rfl ?_|refine q5 ?_|refine q6 ?_|refine q8 ?_|refine q9 ?_|refine q15 ?_)
       refine retQ_ret rfl (by repeat (exact List.Sublist.refl _)) ⟨hm1, rfl, ?_⟩
       exact .inr ⟨hI.trans (pU_none hlt (dv_none h0 (by omega))), _, 2, .inr rfl, rfl⟩
     ·skip
      repeat (first|refine q1 ?_|refine q3 ?_|refine q4 tab rfl rfl ?_|refine q5 ?_|refine q6 ?_|refine q17 rfl ?_)
      refine TO.step rfl (OT.mkIface tab rfl rfl rfl rfl rfl ?_)
      repeat (first|refine q4 tab rfl rfl ?_|refine q5 ?_|refine q6 ?_|refine q8 ?_|refine q9 ?_|refine q15 ?_)
      refine retQ_ret rfl (by repeat (exact List.Sublist.refl _)) ⟨hm1, rfl, ?_⟩
      exact .inr ⟨hI.trans (pU_none hlt (dv_none h0 (by omega))), _, 2, .inr rfl, rfl⟩
   ·skip
    repeat (first|refine q1 ?_|refine q3 ?_|refine q4 tab rfl rfl ?_|refine q5 ?_|refine q6 ?_|refine q17 rfl ?_)
    (refine TO.splitP rfl rfl (fun h4 => ?_) (fun h4 => ?_))
    ·repeat (first|refine q4 tab rfl rfl ?_|refine q5 ?_|refine q6 ?_)
     refine TC.condP rfl (fun h6 => ?_) (fun h6 => ?_)
     ·repeat (first|refine q3 ?_|refine q4 tab rfl rfl ?_)
      refine TO.step rfl (OT.arithK rfl rfl rfl rfl rfl rfl (r' := ((s[k].toNat - 48 : Nat) : Int)) (by rw [u8_in (by omega) (by omega)]; omega) ?_)
      repeat (first|refine q4 tab rfl rfl ?_|refine q5 ?_|refine q6 ?_|refine q7 ?_)
      exact ⟨s[k].toNat - 48, (by repeat (first|exact trivial|refine And.intro rfl ?_)), (by repeat (first|exact trivial|refine And.intro rfl ?_)), rfl, rfl, (by repeat (exact List.Sublist.refl _)), dv_dig (by omega) (by omega)⟩
     ·have h0 : ¬ (48 ≤ s[k].toNat ∧ s[k].toNat ≤ 57) := by omega
      repeat (first|refine q1 ?_|refine q3 ?_|refine q4 tab rfl rfl ?_)
      refine TO.step rfl (OT.call rfl rfl rfl rfl rfl rfl goes132 ((lower_law _ _ s[k]).x ?_));
      rintro _ _ _ ⟨rfl, rfl, rfl⟩
      repeat (refine q4 tab rfl rfl ?_)
      (refine TO.splitP rfl rfl (fun h5 => ?_) (fun h5 => ?_))
      ·repeat (refine q4 tab rfl rfl ?_)
       refine TO.step rfl (OT.call rfl rfl rfl rfl rfl rfl goes132 ((lower_law _ _ s[k]).x ?_));
       rintro _ _ _ ⟨rfl, rfl, rfl⟩
       repeat (first|refine q4 tab rfl rfl ?_|refine q5 ?_|refine q6 ?_)
       refine TC.condP rfl (fun h6 => ?_) (fun h6 => ?_)
       ·repeat (first|refine q3 ?_|refine q4 tab rfl rfl ?_)
        refine TO.step rfl (OT.call rfl rfl rfl rfl rfl rfl goes132 ((lower_law _ _ s[k]).x ?_));
        rintro _ _ _ ⟨rfl, rfl, rfl⟩
        skip
        refine TO.step rfl (OT.arithK rfl rfl rfl rfl rfl rfl (u8_in (by omega) (by omega)) ?_)
        refine TO.step rfl (OT.arithK rfl rfl rfl rfl rfl rfl (r' := ((lowerN s[k] - 97 + 10 : Nat) : Int)) (by rw [u8_in (by omega) (by omega)]; omega) ?_)
        repeat (first|refine q4 tab rfl rfl ?_|refine q5 ?_|refine q6 ?_|refine q7 ?_)
        exact ⟨lowerN s[k] - 97 + 10, (by repeat (first|exact trivial|refine And.intro rfl ?_)), (by repeat (first|exact trivial|refine And.intro rfl ?_)), rfl, rfl, (by repeat (exact List.Sublist.refl _)), dv_low h0 (by omega) (by omega)⟩
       ·skip
        repeat (first|refine q1 ?_|refine q3 ?_)
        refine TO.step rfl (OT.mkIface tab rfl rfl rfl rfl rfl ?_)
        repeat (first|refine q4 tab rfl rfl ?_|refine q5 ?_|refine q6 ?_|refine q8 ?_|refine q9 ?_|refine q15 ?_)
        refine retQ_ret rfl (by repeat (exact List.Sublist.refl _)) ⟨hm1, rfl, ?_⟩
        exact .inr ⟨hI.trans (pU_none hlt (dv_none h0 (by omega))), _, 2, .inr rfl, rfl⟩
      ·skip
       repeat (first|refine q1 ?_|refine q3 ?_|refine q4 tab rfl rfl ?_|refine q5 ?_|refine q6 ?_|refine q17 rfl ?_)
       refine TO.step rfl (OT.mkIface tab rfl rfl rfl rfl rfl ?_)
       repeat (first|refine q4 tab rfl rfl ?_|refine q5 ?_|refine q6 ?_|refine q8 ?_|refine q9 ?_|refine q15 ?_)
       refine retQ_ret rfl (by repeat (exact List.Sublist.refl _)) ⟨hm1, rfl, ?_⟩
       exact .inr ⟨hI.trans (pU_none hlt (dv_none h0 (by omega))), _, 2, .inr rfl, rfl⟩
    ·have h0 : ¬ (48 ≤ s[k].toNat ∧ s[k].toNat ≤ 57) := by omega
     repeat (first|refine q1 ?_|refine q3 ?_|refine q4 tab rfl rfl ?_|refine q5 ?_|refine q6 ?_|refine q17 rfl ?_)
     refine TO.step rfl (OT.call rfl rfl rfl rfl rfl rfl goes132 ((lower_law _ _ s[k]).x ?_));
     rintro _ _ _ ⟨rfl, rfl, rfl⟩
     repeat (refine q4 tab rfl rfl ?_)
     (refine TO.splitP rfl rfl (fun h5 => ?_) (fun h5 => ?_))
     ·repeat (refine q4 tab rfl rfl ?_)
      refine TO.step rfl (OT.call rfl rfl rfl rfl rfl rfl goes132 ((lower_law _ _ s[k]).x ?_));
      rintro _ _ _ ⟨rfl, rfl, rfl⟩
      repeat (first|refine q4 tab rfl rfl ?_|refine q5 ?_|refine q6 ?_)
      refine TC.condP rfl (fun h6 => ?_) (fun h6 => ?_)
      ·repeat (first|refine q3 ?_|refine q4 tab rfl rfl ?_)
       refine TO.step rfl (OT.call rfl rfl rfl rfl rfl rfl goes132 ((lower_law _ _ s[k]).x ?_));
       rintro _ _ _ ⟨rfl, rfl, rfl⟩
       skip
       refine TO.step rfl (OT.arithK rfl rfl rfl rfl rfl rfl (u8_in (by omega) (by omega)) ?_)
       refine TO.step rfl (OT.arithK rfl rfl rfl rfl rfl rfl (r' := ((lowerN s[k] - 97 + 10 : Nat) : Int)) (by rw [u8_in (by omega) (by omega)]; omega) ?_)
       repeat (first|refine q4 tab rfl rfl ?_|refine q5 ?_|refine q6 ?_|refine q7 ?_)
       exact ⟨lowerN s[k] - 97 + 10, (by repeat (first|exact trivial|refine And.intro rfl ?_)), (by repeat (first|exact trivial|refine And.intro rfl ?_)), rfl, rfl, (by repeat (exact List.Sublist.refl _)), dv_low h0 (by omega) (by omega)⟩
      ·skip
       repeat (first|refine q1 ?_|refine q3 ?_)
       refine TO.step rfl (OT.mkIface tab rfl rfl rfl rfl rfl ?_)
       repeat (first|refine q4 tab rfl rfl ?_|refine q5 ?_|refine q6 ?_|refine q8 ?_|refine q9 ?_|refine q15 ?_)
       refine retQ_ret rfl (by repeat (exact List.Sublist.refl _)) ⟨hm1, rfl, ?_⟩
       exact .inr ⟨hI.trans (pU_none hlt (dv_none h0 (by omega))), _, 2, .inr rfl, rfl⟩
     ·skip
      repeat (first|refine q1 ?_|refine q3 ?_|refine q4 tab rfl rfl ?_|refine q5 ?_|refine q6 ?_|refine q17 rfl ?_)
      refine TO.step rfl (OT.mkIface tab rfl rfl rfl rfl rfl ?_)
      repeat (first|refine q4 tab rfl rfl ?_|refine q5 ?_|refine q6 ?_|refine q8 ?_|refine q9 ?_|refine q15 ?_)
      refine retQ_ret rfl (by repeat (exact List.Sublist.refl _)) ⟨hm1, rfl, ?_⟩
      exact .inr ⟨hI.trans (pU_none hlt (dv_none h0 (by omega))), _, 2, .inr rfl, rfl⟩
  have hd36 := dv_lt hd
  repeat (first|refine q1 ?_|refine q3 ?_|refine q4 tab rfl rfl ?_)
  refine TO.step rfl (OT.conv tab rfl rfl rfl rfl rfl rfl (r := 16) rfl ?_)
  repeat (first|refine q4 tab rfl rfl ?_|refine q5 ?_|refine q6 ?_)
  refine TC.condP rfl (fun h4 => ?_) (fun h4 => ?_)
  ·repeat (first|refine q1 ?_|refine q3 ?_)
   refine TO.step rfl (OT.mkIface tab rfl rfl rfl rfl rfl ?_)
   repeat (first|refine q4 tab rfl rfl ?_|refine q5 ?_|refine q6 ?_|refine q8 ?_|refine q9 ?_|refine q15 ?_)
   refine retQ_ret rfl (by repeat (exact List.Sublist.refl _)) ⟨hm1, rfl, ?_⟩
   exact .inr ⟨hI.trans (pU_big hlt hd (by omega)), _, 2, .inr rfl, rfl⟩
  repeat (first|refine q1 ?_|refine q3 ?_|refine q4 tab rfl rfl ?_|refine q5 ?_|refine q6 ?_|refine q13 ?_)
  refine TC.condP rfl (fun h5 => ?_) (fun h5 => ?_)
  ·repeat (first|refine q1 ?_|refine q3 ?_|refine q4 tab rfl rfl ?_)
   refine TO.step rfl (OT.mkIface tab rfl rfl rfl rfl rfl ?_)
   repeat (first|refine q4 tab rfl rfl ?_|refine q5 ?_|refine q6 ?_|refine q8 ?_|refine q9 ?_|refine q15 ?_)
   refine retQ_ret rfl (by repeat (exact List.Sublist.refl _)) ⟨hm1, rfl, ?_⟩
   exact .inr ⟨hI.trans (pU_big hlt hd (by omega)), _, 1, .inl ⟨rfl, rfl⟩, rfl⟩
  repeat (first|refine q1 ?_|refine q3 ?_|refine q4 tab rfl rfl ?_|refine q6 ?_|refine q13 ?_)
  refine TO.step rfl (OT.conv tab rfl rfl rfl rfl rfl rfl (r := 16) rfl ?_)
  refine TO.step rfl (OT.arithK rfl rfl rfl rfl rfl rfl (r' := ((n * 16 : Nat) : Int)) (by rw [u64_in (by omega) (by omega)]; omega) ?_)
  repeat (first|refine q1 ?_|refine q3 ?_|refine q4 tab rfl rfl ?_|refine q5 ?_|refine q6 ?_)
  refine TO.step rfl (OT.conv tab rfl rfl rfl rfl rfl rfl (r := (d : Int)) (u64_in (by omega) (by omega)) ?_)
  refine TO.step rfl (OT.arithK rfl rfl rfl rfl rfl rfl (r' := (((n * 16 + d) % 18446744073709551616 : Nat) : Int)) (by simp only [IntKind.wrap, IntKind.signed, IntKind.bits, Bool.false_and, Bool.false_eq_true, if_false]; omega) ?_)
  repeat (first|refine q1 ?_|refine q3 ?_|refine q4 tab rfl rfl ?_|refine q5 ?_|refine q6 ?_)
  (refine TO.splitP rfl rfl (fun h6 => ?_) (fun h6 => ?_))
  ·repeat (first|refine q1 ?_|refine q3 ?_|refine q4 tab rfl rfl ?_|refine q5 ?_|refine q6 ?_|refine q16 rfl ?_)
   refine TO.step rfl (OT.mkIface tab rfl rfl rfl rfl rfl ?_)
   repeat (first|refine q4 tab rfl rfl ?_|refine q5 ?_|refine q6 ?_|refine q8 ?_|refine q9 ?_|refine q15 ?_)
   refine retQ_ret rfl (by repeat (exact List.Sublist.refl _)) ⟨hm1, rfl, ?_⟩
   exact .inr ⟨hI.trans (pU_big hlt hd (by omega)), _, 1, .inl ⟨rfl, rfl⟩, rfl⟩
  repeat (first|refine q4 tab rfl rfl ?_|refine q5 ?_|refine q6 ?_)
  refine TC.condP rfl (fun h7 => ?_) (fun h7 => ?_)
  ·repeat (first|refine q1 ?_|refine q3 ?_|refine q4 tab rfl rfl ?_)
   refine TO.step rfl (OT.mkIface tab rfl rfl rfl rfl rfl ?_)
   repeat (first|refine q4 tab rfl rfl ?_|refine q5 ?_|refine q6 ?_|refine q8 ?_|refine q9 ?_|refine q15 ?_)
   refine retQ_ret rfl (by repeat (exact List.Sublist.refl _)) ⟨hm1, rfl, ?_⟩
   exact .inr ⟨hI.trans (pU_big hlt hd (by omega)), _, 1, .inl ⟨rfl, rfl⟩, rfl⟩
  have hv : (n * 16 + d) % 18446744073709551616 = n * 16 + d := by omega
  rw [hv]
  repeat (first|refine q3 ?_|refine q4 tab rfl rfl ?_|refine q5 ?_|refine q6 ?_|refine q7 ?_|refine q13 ?_)
  refine TO.step rfl (OT.arith (r' := ((k + 1 : Nat) : Int)) rfl rfl rfl rfl rfl rfl rfl (by omega) ?_)
  repeat (first|refine q4 tab rfl rfl ?_|refine q5 ?_|refine q6 ?_)
  exact ⟨(k + 1, n * 16 + d), (by repeat (first|exact trivial|refine And.intro rfl ?_)), (by repeat (first|exact trivial|refine And.intro rfl ?_)), rfl, rfl, (by repeat (exact List.Sublist.refl _)), ⟨by omega, by omega, hI.trans (pU_go hlt hd (by omega))⟩, by omega⟩
 ·repeat (first|refine q1 ?_|refine q3 ?_|refine q4 tab rfl rfl ?_|refine q5 ?_|refine q6 ?_|refine q10 ?_|refine q11 ?_|refine q13 ?_|refine q14 ?_|refine q15 ?_|refine q17 rfl ?_)
  refine retQ_ret rfl (by repeat (exact List.Sublist.refl _)) ⟨hm1, rfl, ?_⟩
  refine .inl ⟨n, hn, ?_, rfl⟩
  rw [hI, List.drop_eq_nil_of_le (by omega)]; rfl
end Go.Sep


/- ScInt -/
set_option linter.unusedVariables false
set_option linter.unusedSimpArgs false
namespace Go.Sep
open Go.Proofs
attribute [local irreducible] TC TO OT TCallX TCall DO DOt thenQ blockQ retQ At
def numOf (s : Str) : Option Nat := match pU 10 18446744073709551615 s 0 with
 | some v => if v < 9223372036854775808 then some v else none
 | none => none
def IntR (o : Option Nat) (r : Value) : Prop :=
 (∃ v, v < 9223372036854775808 ∧ o = some v ∧ r = .tuple ⟨[.int .i64 (v : Int), .nilIface]⟩) ∨ (o = none ∧ ∃ v k, (k = 1 ∨ k = 2) ∧ r = .tuple ⟨[.int .i64 v, .iface 109 (.int .i64 k)]⟩)
theorem int10 (m : Mem) (L : List Item) (s : Str) (hs : s ≠ []) (h0 : ∀ c, s.head? = some c → dgt c = true) (hl : s.length ≤ 140737488355328) : TCall Tryz.prog 93 ⟨[strV s, .int .i64 10, .int .i64 64]⟩ m L (Made m L fun r _ => IntR (numOf s) r) := by
 have hlt : 0 < s.length := List.length_pos_iff.2 hs
 have hx : s[0]? = some s[0] := by simp [hlt]
 have hn1 : 48 ≤ s[0].toNat := by
  have h1 := h0 s[0] (by rw [List.head?_eq_getElem?]; exact hx)
  unfold dgt at h1
  have h2 := of_decide_eq_true h1
  exact h2.1
 unfold TCall
 refine TCallX.enter Tryz.func93 rfl 73 rfl ?_
 repeat (first|refine q1 ?_|refine q3 ?_|refine q4 tab rfl rfl ?_|refine q5 ?_|refine q6 ?_)
 refine TC.condP rfl (fun h => ?_) (fun h => ?_)
 ·exact absurd h hs
 repeat (first|refine q1 ?_|refine q3 ?_|refine q4 tab rfl rfl ?_|refine q5 ?_|refine q6 ?_|refine q13 ?_)
 refine TO.step rfl (OT.sidx tab 0 rfl rfl rfl rfl rfl rfl rfl hx ?_)
 repeat (first|refine q1 ?_|refine q2 ?_|refine q3 ?_|refine q4 tab rfl rfl ?_|refine q5 ?_|refine q6 ?_)
 refine TC.condP rfl (fun h => ?_) (fun h => ?_)
 ·omega
 repeat (first|refine q1 ?_|refine q3 ?_|refine q4 tab rfl rfl ?_|refine q5 ?_|refine q6 ?_)
 refine TC.condP rfl (fun h => ?_) (fun h => ?_)
 ·omega
 repeat (first|refine q1 ?_|refine q3 ?_|refine q4 tab rfl rfl ?_|refine q5 ?_|refine q6 ?_|refine q7 ?_|refine q13 ?_)
 refine TO.step rfl (OT.call rfl rfl rfl rfl rfl rfl goes116 ((uint10 _ _ s hs hl).x ?_));
 rintro _ m1 _ ⟨hm1, rfl, ⟨v, hv, e1, rfl⟩ | ⟨e1, v, c, hc, rfl⟩⟩
 ·repeat (first|refine q1 ?_|refine q3 ?_|refine q4 tab rfl rfl ?_|refine q5 ?_|refine q6 ?_)
  refine TO.step rfl (OT.errNe tab rfl rfl rfl rfl (.inl rfl) rfl rfl ?_)
  repeat (first|refine q1 ?_|refine q3 ?_|refine q4 tab rfl rfl ?_|refine q5 ?_|refine q6 ?_|refine q13 ?_|refine q17 rfl ?_)
  refine TO.step rfl (OT.arithK rfl rfl rfl rfl rfl rfl (r' := 63) rfl ?_)
  refine TO.step rfl (OT.conv tab rfl rfl rfl rfl rfl rfl (r := 63) rfl ?_)
  refine TO.step rfl (OT.shK rfl (.inl rfl) rfl rfl rfl rfl (by decide) (r := 9223372036854775808) (by rfl) ?_)
  repeat (first|refine q1 ?_|refine q3 ?_|refine q4 tab rfl rfl ?_|refine q5 ?_|refine q6 ?_)
  refine TC.condP rfl (fun h => ?_) (fun h => ?_)
  ·repeat (first|refine q1 ?_|refine q3 ?_|refine q4 tab rfl rfl ?_)
   refine TO.step rfl (OT.arithK rfl rfl rfl rfl rfl rfl (r' := 9223372036854775807) rfl ?_)
   refine TO.step rfl (OT.conv tab rfl rfl rfl rfl rfl rfl (r := 9223372036854775807) rfl ?_)
   refine TO.step rfl (OT.mkIface tab rfl rfl rfl rfl rfl ?_)
   repeat (first|refine q4 tab rfl rfl ?_|refine q5 ?_|refine q6 ?_|refine q8 ?_|refine q15 ?_)
   refine retQ_ret rfl (by repeat (exact List.Sublist.refl _)) ⟨hm1, rfl, ?_⟩
   refine .inr ⟨?_, _, 1, .inl rfl, rfl⟩
   rw [numOf, e1]; simp only; rw [if_neg (by omega)]
  repeat (first|refine q1 ?_|refine q3 ?_|refine q4 tab rfl rfl ?_|refine q5 ?_|refine q6 ?_|refine q13 ?_|refine q17 rfl ?_)
  refine TO.step rfl (OT.conv tab rfl rfl rfl rfl rfl rfl (r := (v : Int)) (wrap64_in (by omega) (by omega)) ?_)
  repeat (first|refine q1 ?_|refine q3 ?_|refine q4 tab rfl rfl ?_|refine q5 ?_|refine q6 ?_|refine q13 ?_|refine q15 ?_|refine q17 rfl ?_)
  refine retQ_ret rfl (by repeat (exact List.Sublist.refl _)) ⟨hm1, rfl, ?_⟩
  refine .inl ⟨v, by omega, ?_, rfl⟩
  rw [numOf, e1]; simp only; rw [if_pos (by omega)]
 ·repeat (first|refine q1 ?_|refine q3 ?_|refine q4 tab rfl rfl ?_|refine q5 ?_|refine q6 ?_)
  refine TO.step rfl (OT.errNe tab rfl rfl rfl rfl (.inr ⟨_, _, rfl⟩) rfl rfl ?_)
  repeat (refine q4 tab rfl rfl ?_)
  refine TO.step rfl (OT.mkIface tab rfl rfl rfl rfl rfl ?_)
  refine TO.step rfl (OT.errEq tab (info := Tryz.t109) (.inr rfl) rfl rfl rfl rfl rfl rfl (by kernel_rfl) rfl rfl ?_)
  rcases hc with ⟨rfl, rfl⟩ | rfl
  ·repeat (first|refine q1 ?_|refine q3 ?_|refine q4 tab rfl rfl ?_|refine q5 ?_|refine q6 ?_|refine q13 ?_|refine q17 rfl ?_)
   refine TO.step rfl (OT.arithK rfl rfl rfl rfl rfl rfl (r' := 63) rfl ?_)
   refine TO.step rfl (OT.conv tab rfl rfl rfl rfl rfl rfl (r := 63) rfl ?_)
   refine TO.step rfl (OT.shK rfl (.inl rfl) rfl rfl rfl rfl (by decide) (r := 9223372036854775808) (by rfl) ?_)
   repeat (first|refine q1 ?_|refine q3 ?_|refine q4 tab rfl rfl ?_|refine q5 ?_|refine q6 ?_|refine q16 rfl ?_)
   refine TO.step rfl (OT.arithK rfl rfl rfl rfl rfl rfl (r' := 9223372036854775807) rfl ?_)
   refine TO.step rfl (OT.conv tab rfl rfl rfl rfl rfl rfl (r := 9223372036854775807) rfl ?_)
   refine TO.step rfl (OT.mkIface tab rfl rfl rfl rfl rfl ?_)
   repeat (first|refine q4 tab rfl rfl ?_|refine q5 ?_|refine q6 ?_|refine q8 ?_|refine q15 ?_)
   refine retQ_ret rfl (by repeat (exact List.Sublist.refl _)) ⟨hm1, rfl, ?_⟩
   refine .inr ⟨?_, _, 1, .inl rfl, rfl⟩
   rw [numOf, e1]
  ·repeat (first|refine q1 ?_|refine q3 ?_|refine q4 tab rfl rfl ?_|refine q5 ?_|refine q6 ?_|refine q8 ?_|refine q15 ?_|refine q16 rfl ?_)
   refine retQ_ret rfl (by repeat (exact List.Sublist.refl _)) ⟨hm1, rfl, ?_⟩
   refine .inr ⟨?_, _, 2, .inr rfl, rfl⟩
   rw [numOf, e1]
def NumR (k : IntKind) (o : Option Nat) (r : Value) : Prop :=
 (∃ v, o = some v ∧ r = .tuple ⟨[.int k (v : Int), .nilIface]⟩) ∨ (o = none ∧ ∃ v a b, r = .tuple ⟨[.int k v, .iface a b]⟩)
theorem parseInt_law (m : Mem) (L : List Item) (s : Str) (hs : s ≠ []) (h0 : ∀ c, s.head? = some c → dgt c = true) (hl : s.length ≤ 140737488355328) (hE : Errs m) : TCall Tryz.prog 62 ⟨[strV s, .int .i64 10, .int .i64 64]⟩ m L (Made m L fun r _ => NumR .i64 (numOf s) r) := by
 unfold TCall
 refine TCallX.enter Tryz.func62 rfl 25 rfl ?_
 repeat (first|refine q1 ?_|refine q3 ?_|refine q4 tab rfl rfl ?_|refine q5 ?_|refine q6 ?_)
 refine TO.step rfl (OT.call rfl rfl rfl rfl rfl rfl goes93 ((int10 _ _ s hs h0 hl).x ?_));
 rintro _ m1 _ ⟨hm1, rfl, ⟨v, hv, e1, rfl⟩ | ⟨e1, v, c, hc, rfl⟩⟩
 ·repeat (first|refine q1 ?_|refine q3 ?_|refine q4 tab rfl rfl ?_|refine q5 ?_|refine q6 ?_)
  refine TO.step rfl (OT.errNe tab rfl rfl rfl rfl (.inl rfl) rfl rfl ?_)
  repeat (first|refine q1 ?_|refine q3 ?_|refine q4 tab rfl rfl ?_|refine q5 ?_|refine q6 ?_|refine q13 ?_|refine q15 ?_|refine q17 rfl ?_)
  refine retQ_ret rfl (by repeat (exact List.Sublist.refl _)) ⟨hm1, rfl, ?_⟩
  exact .inl ⟨v, e1, rfl⟩
 ·repeat (first|refine q1 ?_|refine q3 ?_|refine q4 tab rfl rfl ?_|refine q5 ?_|refine q6 ?_)
  refine TO.step rfl (OT.errNe tab rfl rfl rfl rfl (.inr ⟨_, _, rfl⟩) rfl rfl ?_)
  repeat (first|refine q1 ?_|refine q3 ?_|refine q4 tab rfl rfl ?_|refine q5 ?_|refine q6 ?_|refine q16 rfl ?_)
  rcases hc with rfl | rfl
  ·refine TO.step rfl (OT.call rfl rfl rfl rfl rfl rfl goes94 ((toError_rng _ _ _ s 10 64 hl (hE.mono hm1)).x ?_));
   rintro _ m2 _ ⟨hm2, rfl, u, w, rfl⟩
   repeat (first|refine q4 tab rfl rfl ?_|refine q5 ?_|refine q6 ?_|refine q8 ?_|refine q15 ?_)
   refine retQ_ret rfl (by repeat (exact List.Sublist.refl _)) ⟨Mem.le_trans hm1 hm2, rfl, ?_⟩
   exact .inr ⟨e1, _, _, _, rfl⟩
  ·refine TO.step rfl (OT.call rfl rfl rfl rfl rfl rfl goes94 ((toError_syn _ _ _ s 10 64 hl (hE.mono hm1)).x ?_));
   rintro _ m2 _ ⟨hm2, rfl, u, w, rfl⟩
   repeat (first|refine q4 tab rfl rfl ?_|refine q5 ?_|refine q6 ?_|refine q8 ?_|refine q15 ?_)
   refine retQ_ret rfl (by repeat (exact List.Sublist.refl _)) ⟨Mem.le_trans hm1 hm2, rfl, ?_⟩
   exact .inr ⟨e1, _, _, _, rfl⟩
theorem parseUint_law (m : Mem) (L : List Item) (s : Str) (hs : s ≠ []) (hl : s.length ≤ 140737488355328) (hE : Errs m) : TCall Tryz.prog 97 ⟨[strV s, .int .i64 16, .int .i64 8]⟩ m L (Made m L fun r _ => NumR .u64 (pU 16 255 s 0) r) := by
 unfold TCall
 refine TCallX.enter Tryz.func97 rfl 26 rfl ?_
 repeat (first|refine q1 ?_|refine q3 ?_|refine q4 tab rfl rfl ?_|refine q5 ?_|refine q6 ?_)
 refine TO.step rfl (OT.call rfl rfl rfl rfl rfl rfl goes116 ((uint16 _ _ s hs hl).x ?_));
 rintro _ m1 _ ⟨hm1, rfl, ⟨v, hv, e1, rfl⟩ | ⟨e1, v, c, hc, rfl⟩⟩
 ·repeat (first|refine q1 ?_|refine q3 ?_|refine q4 tab rfl rfl ?_|refine q5 ?_|refine q6 ?_)
  refine TO.step rfl (OT.errNe tab rfl rfl rfl rfl (.inl rfl) rfl rfl ?_)
  repeat (first|refine q1 ?_|refine q3 ?_|refine q4 tab rfl rfl ?_|refine q5 ?_|refine q6 ?_|refine q13 ?_|refine q15 ?_|refine q17 rfl ?_)
  refine retQ_ret rfl (by repeat (exact List.Sublist.refl _)) ⟨hm1, rfl, ?_⟩
  exact .inl ⟨v, e1, rfl⟩
 ·repeat (first|refine q1 ?_|refine q3 ?_|refine q4 tab rfl rfl ?_|refine q5 ?_|refine q6 ?_)
  refine TO.step rfl (OT.errNe tab rfl rfl rfl rfl (.inr ⟨_, _, rfl⟩) rfl rfl ?_)
  repeat (first|refine q1 ?_|refine q3 ?_|refine q4 tab rfl rfl ?_|refine q5 ?_|refine q6 ?_|refine q16 rfl ?_)
  rcases hc with ⟨rfl, _⟩ | rfl
  ·refine TO.step rfl (OT.call rfl rfl rfl rfl rfl rfl goes94 ((toError_rng _ _ _ s 16 8 hl (hE.mono hm1)).x ?_));
   rintro _ m2 _ ⟨hm2, rfl, u, w, rfl⟩
   repeat (first|refine q4 tab rfl rfl ?_|refine q5 ?_|refine q6 ?_|refine q8 ?_|refine q15 ?_)
   refine retQ_ret rfl (by repeat (exact List.Sublist.refl _)) ⟨Mem.le_trans hm1 hm2, rfl, ?_⟩
   exact .inr ⟨e1, _, _, _, rfl⟩
  ·refine TO.step rfl (OT.call rfl rfl rfl rfl rfl rfl goes94 ((toError_syn _ _ _ s 16 8 hl (hE.mono hm1)).x ?_));
   rintro _ m2 _ ⟨hm2, rfl, u, w, rfl⟩
   repeat (first|refine q4 tab rfl rfl ?_|refine q5 ?_|refine q6 ?_|refine q8 ?_|refine q15 ?_)
   refine retQ_ret rfl (by repeat (exact List.Sublist.refl _)) ⟨Mem.le_trans hm1 hm2, rfl, ?_⟩
   exact .inr ⟨e1, _, _, _, rfl⟩
end Go.Sep


/- ScBuild -/
set_option linter.unusedVariables false
set_option linter.unusedSimpArgs false
namespace Go.Sep
open Go.Proofs
attribute [local irreducible] TC TO OT TCallX TCall DO DOt thenQ blockQ retQ At
structure BOk (m : Mem) (bd : Nat) (q : Option Addr) (s : Sl) (l : Str) : Prop where
 ty : m.t bd = some (102, 2)
 q : q = none ∨ q = some ⟨bd, 0, none⟩
 sl : SlRep rByte m s l
 own : Own s
 row : ∀ b o, s.a = some ⟨b, o, none⟩ → o = 0 ∧ m.t b = some (5, s.cap) ∧ m.pin.heap.size ≤ b
 none : l = [] → s = ⟨none, 0, 0⟩
theorem BOk.mono {m m' : Mem} {bd : Nat} {q : Option Addr} {s : Sl} {l : Str} (h : BOk m bd q s l) (hm : m ≤ m') : BOk m' bd q s l :=
 ⟨hm.t _ _ h.ty, h.q, h.sl.mono hm, h.own, fun b o e => by obtain ⟨h1, h2, h3⟩ := h.row b o e; exact ⟨h1, hm.t _ _ h2, by rw [hm.pin]; exact h3⟩, h.none⟩
set_option maxHeartbeats 800000 in
theorem copyCheck_law (m : Mem) (L : List Item) (bd : Nat) (q : Option Addr) (v : Value) (hv : ∃ a n c, v = .slice a n c) (ht : m.t bd = some (102, 2)) (hq : q = none ∨ q = some ⟨bd, 0, none⟩) :
  TCall Tryz.prog 121 ⟨[.pointer (some ⟨bd, 0, none⟩)]⟩ m (.cells bd 0 [.pointer q, v] :: L) (fun _ m' L' => m' = m ∧ L' = .cells bd 0 [.pointer (some ⟨bd, 0, none⟩), v] :: L) := by
 obtain ⟨a, n, c, rfl⟩ := hv
 unfold TCall
 refine TCallX.enter Tryz.func121 rfl 20 rfl ?_
 repeat (first|refine q1 ?_|refine q3 ?_|refine q4 tab rfl rfl ?_)
 (refine qs rfl (ql tab 0 rfl rfl rfl rfl rfl rfl ?_))
 refine TO.step rfl (OT.ptrNil tab rfl rfl rfl rfl rfl (e := 102) rfl ?_)
 rcases hq with rfl | rfl
 ·repeat (first|refine q3 ?_|refine q4 tab rfl rfl ?_|refine q5 ?_|refine q6 ?_|refine q16 rfl ?_)
  refine TO.step rfl (OT.toUnsafe tab (e := 102) rfl rfl rfl rfl rfl rfl rfl ht (by decide) ?_)
  skip
  refine TO.step rfl (OT.callX (E := Extern.AbiNoEscape.same) (vs := [.pointer (some ⟨bd, 0, none⟩)]) (v := .pointer (some ⟨bd, 0, none⟩)) rfl rfl rfl rfl rfl Tryz.func137 (by kernel_rfl) (by kernel_rfl) (by kernel_rfl) (by kernel_rfl) (fun w _ => rfl) ?_)
  skip
  refine TO.step rfl (OT.fromUnsafe tab (e := 102) rfl rfl rfl rfl rfl rfl ht (by kernel_rfl) rfl ?_)
  repeat (refine q4 tab rfl rfl ?_)
  (refine TO.step rfl (OT.storeL tab 0 rfl rfl rfl rfl rfl rfl rfl rfl ?_))
  repeat (refine q5 ?_)
  refine retQ_n rfl (List.Sublist.refl _) ⟨rfl, rfl⟩
 ·repeat (first|refine q1 ?_|refine q3 ?_|refine q4 tab rfl rfl ?_|refine q5 ?_|refine q6 ?_|refine q17 rfl ?_)
  (refine qs rfl (ql tab 0 rfl rfl rfl rfl rfl rfl ?_))
  repeat (refine q4 tab rfl rfl ?_)
  refine TO.step rfl (OT.ptrSame tab (e := 102) rfl rfl rfl rfl rfl rfl rfl ?_)
  repeat (first|refine q5 ?_|refine q6 ?_|refine q13 ?_|refine q17 rfl ?_)
  refine retQ_n rfl (List.Sublist.refl _) ⟨rfl, rfl⟩
set_option maxHeartbeats 800000 in
theorem writeByte_law (m : Mem) (L : List Item) (bd : Nat) (q : Option Addr) (s : Sl) (l : Str) (c : UInt8) (hB : BOk m bd q s l) (hl : l.length + 1 ≤ 140737488355328) :
  TCall Tryz.prog 96 ⟨[.pointer (some ⟨bd, 0, none⟩), byteV c]⟩ m (.cells bd 0 [.pointer q, s.v] :: tok s 1 :: L) (fun _ m' L' => m ≤ m' ∧ ∃ s' q', L' = .cells bd 0 [.pointer q', s'.v] :: tok s' 1 :: L ∧ BOk m' bd q' s' (l ++ [c])) := by
 unfold TCall
 refine TCallX.enter Tryz.func96 rfl 17 rfl ?_
 repeat (first|refine q1 ?_|refine q3 ?_|refine q4 tab rfl rfl ?_|refine q5 ?_|refine q6 ?_)
 refine TO.step rfl (OT.call rfl rfl rfl rfl rfl rfl goes121 ((copyCheck_law _ _ bd q s.v ⟨_, _, _, rfl⟩ hB.ty hB.q).x ?_));
 rintro _ _ _ ⟨rfl, rfl⟩
 repeat (first|refine q1 ?_|refine q3 ?_|refine q4 tab rfl rfl ?_|refine q5 ?_|refine q6 ?_)
 (refine qs rfl (ql tab 0 rfl rfl rfl rfl rfl rfl ?_))
 repeat (refine q4 tab rfl rfl ?_)
 refine TO.step rfl (OT.lit tab rfl rfl rfl rfl (fun b => ?_))
 refine TO.freeze fun m1 hm1 hA1 => ?_
 have hB1 := hB.mono hm1
 refine TO.step rfl (OT.appendT tab rByte 1 hB1.sl hB1.own (SlRep.one (b := b) (h := c) (a := c) hA1 rfl (by decide)) rfl rfl rfl rfl rfl rfl rfl (by show (l.length + 1) * 1 ≤ _; omega) rfl (fun b o e => by obtain ⟨h1, h2, h3⟩ := hB1.row b o e; exact ⟨h1, by rw [show s.cap * rByte.size = s.cap from Nat.mul_one _]; exact h2, h3⟩) (fun s' m2 hm2 hs2 ho2 hr2 => ?_))
 repeat (refine q4 tab rfl rfl ?_)
 (refine TO.step rfl (OT.storeL tab 0 rfl rfl rfl rfl rfl rfl rfl rfl ?_))
 repeat (first|refine q1 ?_|refine q3 ?_|refine q4 tab rfl rfl ?_|refine q5 ?_|refine q6 ?_|refine q15 ?_)
 refine retQ_ret rfl (List.Sublist.refl _) ⟨Mem.le_trans hm1 hm2, s', _, rfl, hm2.t _ _ hB1.ty, .inr rfl, hs2, ho2, fun b o e => by obtain ⟨h1, h2, h3⟩ := hr2 b o e; exact ⟨h1, by rw [show s'.cap * rByte.size = s'.cap from Nat.mul_one _] at h2; exact h2, h3⟩, fun e => by simp at e⟩
set_option maxHeartbeats 800000 in
theorem string_law (m : Mem) (L : List Item) (bd : Nat) (q : Option Addr) (s : Sl) (l : Str) (hB : BOk m bd q s l) :
  TCall Tryz.prog 95 ⟨[.pointer (some ⟨bd, 0, none⟩)]⟩ m (.cells bd 0 [.pointer q, s.v] :: tok s 1 :: L) (Ret (strV l) m L) := by
 have hlen := hB.sl.len
 have hcap := hB.sl.cap
 have hfit : s.len * 1 ≤ 140737488355328 := hB.sl.fit
 unfold TCall
 refine TCallX.enter Tryz.func95 rfl 14 rfl ?_
 repeat (first|refine q1 ?_|refine q3 ?_|refine q4 tab rfl rfl ?_|refine q5 ?_|refine q6 ?_)
 by_cases hl : l = []
 ·have h0 := hB.none hl
  subst h0
  refine TC.draw0 [] mixed 12 rfl ?_
  refine DO.pure tab (by repeat (first|exact Calm.ret|refine Calm.then ?_)) (by kernel_rfl) [0, 1, 2] (by kernel_rfl) rfl ?_
  (refine DO.loadL tab 3 0 (by repeat (first|exact Calm.ret|refine Calm.then ?_)) (by kernel_rfl) (by kernel_rfl) rfl rfl rfl rfl rfl rfl rfl rfl ?_)
  refine DO.pure tab (by repeat (first|exact Calm.ret|refine Calm.then ?_)) (by kernel_rfl) [5, 6, 7] (by kernel_rfl) rfl ?_
  (refine DO.loadL tab 8 0 (by repeat (first|exact Calm.ret|refine Calm.then ?_)) (by kernel_rfl) (by kernel_rfl) rfl rfl rfl rfl rfl rfl rfl rfl ?_)
  refine DO.pure tab (by repeat (first|exact Calm.ret|refine Calm.then ?_)) (by kernel_rfl) [9] (by kernel_rfl) rfl ?_
  refine DO.run 4 rfl rfl (by kernel_rfl) rfl ?_
  refine OT.sliceData rfl rfl rfl rfl (.inl rfl) ?_; refine ⟨Mem.le_refl _, _, List.Perm.refl _, ?_⟩
  refine DO.run 10 rfl rfl (by kernel_rfl) rfl ?_
  refine OT.unsafeStr0 rfl rfl rfl rfl rfl ?_; refine ⟨Mem.le_refl _, _, List.Perm.refl _, ?_⟩
  refine DO.pure tab (by repeat (first|exact Calm.ret|refine Calm.then ?_)) (by kernel_rfl) [11] (by kernel_rfl) rfl ?_
  (refine DO.nil0 (by kernel_rfl) ?_)
  rotate_left 1
  repeat (first|refine q6 ?_|refine q15 ?_)
  refine retQ_ret rfl (by repeat (first|exact List.Sublist.refl _|refine List.Sublist.cons _ ?_)) ⟨rfl, rfl, ?_⟩
  rw [hl]
 ·obtain ⟨hs, k1, k2⟩ := hB.sl.cells
  have hpos : 0 < l.length := List.length_pos_iff.2 hl
  rcases k2 with ⟨k2, _⟩ | ⟨b, o, k2, k3⟩
  ·exact absurd k2 hl
  obtain ⟨g1, g2, g3⟩ := hB.row b o k2
  subst g1
  have he := byte_all2 k1
  subst he
  rw [encs_byte] at k3
  obtain ⟨sa, sn, sc⟩ := s
  simp only at k2 hlen hcap hfit g2
  subst k2
  refine TC.draw [] mixed 12 rfl [_] (tok ⟨some ⟨b, 0, none⟩, sn, sc⟩ 1 :: L) (by first | exact List.Perm.refl _ | (rw [List.append_nil]; exact List.Perm.refl _)) ?_
  refine DO.pure tab (by repeat (first|exact Calm.ret|refine Calm.then ?_)) (by kernel_rfl) [0, 1, 2] (by kernel_rfl) rfl ?_
  (refine DO.loadL tab 3 0 (by repeat (first|exact Calm.ret|refine Calm.then ?_)) (by kernel_rfl) (by kernel_rfl) rfl rfl rfl rfl rfl rfl rfl rfl ?_)
  refine DO.pure tab (by repeat (first|exact Calm.ret|refine Calm.then ?_)) (by kernel_rfl) [5, 6, 7] (by kernel_rfl) rfl ?_
  (refine DO.loadL tab 8 0 (by repeat (first|exact Calm.ret|refine Calm.then ?_)) (by kernel_rfl) (by kernel_rfl) rfl rfl rfl rfl rfl rfl rfl rfl ?_)
  refine DO.pure tab (by repeat (first|exact Calm.ret|refine Calm.then ?_)) (by kernel_rfl) [9] (by kernel_rfl) rfl ?_
  refine DO.run 4 rfl rfl (by kernel_rfl) rfl ?_
  refine OT.sliceData rfl rfl rfl rfl (.inr (show sc ≠ 0 by omega)) ?_; refine ⟨Mem.le_refl _, _, List.Perm.refl _, ?_⟩
  refine DO.run 10 rfl rfl (by kernel_rfl) rfl ?_
  refine OT.perm pf1 (OT.unsafeStr tab (e := 5) (g := b) (n := sn) (c := sc) rfl rfl rfl rfl rfl rfl (by kernel_rfl) k3 hlen.symm (by omega) hcap (by omega) g2 g3 ?_); refine ⟨Mem.le_refl _, L, List.Perm.refl _, ?_⟩
  refine DO.pure tab (by repeat (first|exact Calm.ret|refine Calm.then ?_)) (by kernel_rfl) [11] (by kernel_rfl) rfl ?_
  (refine DO.nil (by kernel_rfl) ?_)
  rotate_left 1
  repeat (first|refine q6 ?_|refine q15 ?_)
  refine retQ_ret rfl (by repeat (first|exact List.Sublist.refl _|refine List.Sublist.cons _ ?_)) ⟨rfl, rfl, ?_⟩
  rfl
end Go.Sep


/- ScLit0 -/
set_option linter.unusedVariables false
set_option linter.unusedSimpArgs false
namespace Go.Sep
def hexB (a b : UInt8) : Option UInt8 := (pU 16 255 [a, b] 0).map UInt8.ofNat
def escX : Str → Option (UInt8 × Nat)
 | a :: b :: _ => (hexB a b).map fun x => (x, 3)
 | _ => none
def escB : Str → Option (UInt8 × Nat)
 | [] => none
 | c :: r => if c.toNat = 110 then some (10, 1) else if c.toNat = 116 then some (9, 1) else if c.toNat = 34 ∨ c.toNat = 92 then some (c, 1) else if c.toNat = 120 then escX r else none
def litF : Nat → Str → Option (Str × Nat)
 | 0, _ => none
 | _ + 1, [] => none
 | f + 1, c :: r => if c.toNat = 34 then some ([], 1) else if c.toNat = 10 then none else if c.toNat = 92 then (match escB r with
  | none => none
  | some (b, n) => (litF f (r.drop n)).map fun p => (b :: p.1, p.2 + 1 + n)) else (litF f r).map fun p => (c :: p.1, p.2 + 1)
def lit (r : Str) : Option (Str × Nat) := litF (r.length + 1) r
theorem escX_pos {r : Str} {b : UInt8} {n : Nat} (h : escX r = some (b, n)) : 1 ≤ n ∧ n ≤ r.length + 1 := by
 match r, h with
 | a :: b' :: r', h =>
  replace h : (hexB a b').map (fun x => (x, 3)) = some (b, n) := h
  cases hx : hexB a b' with
  | none => rw [hx] at h; cases h
  | some x => rw [hx] at h; cases h; simp
theorem escB_pos {r : Str} {b : UInt8} {n : Nat} (h : escB r = some (b, n)) : 1 ≤ n ∧ n ≤ r.length := by
 cases r with
 | nil => cases h
 | cons c r =>
  rw [escB] at h
  by_cases h1 : c.toNat = 110
  ·rw [if_pos h1] at h; cases h; simp
  ·rw [if_neg h1] at h
   by_cases h2 : c.toNat = 116
   ·rw [if_pos h2] at h; cases h; simp
   ·rw [if_neg h2] at h
    by_cases h3 : c.toNat = 34 ∨ c.toNat = 92
    ·rw [if_pos h3] at h; cases h; simp
    ·rw [if_neg h3] at h
     by_cases h4 : c.toNat = 120
     ·rw [if_pos h4] at h; exact escX_pos h
     ·rw [if_neg h4] at h; cases h
theorem litF_fuel : ∀ (f g : Nat) (r : Str), r.length < f → r.length < g → litF f r = litF g r
 | 0, _, _, h, _ => by omega
 | _, 0, _, _, h => by omega
 | f + 1, g + 1, [], _, _ => rfl
 | f + 1, g + 1, c :: r, h1, h2 => by
  simp only [List.length_cons] at h1 h2
  rw [litF, litF]
  split
  ·rfl
  ·split
   ·rfl
   ·split
    ·cases he : escB r with
     | none => rfl
     | some p =>
      obtain ⟨b, n⟩ := p
      have hl : (r.drop n).length ≤ r.length := by simp
      simp only
      rw [litF_fuel f g (r.drop n) (by omega) (by omega)]
    ·rw [litF_fuel f g r (by omega) (by omega)]
theorem litF_lit {f : Nat} {r : Str} (h : r.length < f) : litF f r = lit r := litF_fuel _ _ _ h (by omega)
theorem lit_quote {c : UInt8} {r : Str} (h : c.toNat = 34) : lit (c :: r) = some ([], 1) := by rw [lit, litF, if_pos h]
theorem lit_nl {c : UInt8} {r : Str} (h : c.toNat = 10) : lit (c :: r) = none := by rw [lit, litF, if_neg (by omega), if_pos h]
theorem lit_esc {c : UInt8} {r : Str} (h : c.toNat = 92) : lit (c :: r) = match escB r with
  | none => none
  | some (b, n) => (lit (r.drop n)).map fun p => (b :: p.1, p.2 + 1 + n) := by
 rw [lit, litF, if_neg (by omega), if_neg (by omega), if_pos h]
 cases he : escB r with
 | none => rfl
 | some p =>
  obtain ⟨b, n⟩ := p
  simp only
  rw [litF_lit (by simp; omega)]
theorem lit_esc_none {c : UInt8} {r : Str} (h : c.toNat = 92) (h2 : escB r = none) : lit (c :: r) = none := by
 rw [lit_esc h, h2]
theorem lit_esc_some {c : UInt8} {r : Str} {b : UInt8} {n : Nat} (h : c.toNat = 92) (h2 : escB r = some (b, n)) : lit (c :: r) = (lit (r.drop n)).map fun p => (b :: p.1, p.2 + 1 + n) := by
 rw [lit_esc h, h2]
theorem lit_one {c : UInt8} {r : Str} (h1 : c.toNat ≠ 34) (h2 : c.toNat ≠ 10) (h3 : c.toNat ≠ 92) : lit (c :: r) = (lit r).map fun p => (c :: p.1, p.2 + 1) := by
 rw [lit, litF, if_neg h1, if_neg h2, if_neg h3, litF_lit (by simp)]
theorem esc_n {c : UInt8} {r : Str} (h : c.toNat = 110) : escB (c :: r) = some (10, 1) := by rw [escB, if_pos h]
theorem esc_t {c : UInt8} {r : Str} (h : c.toNat = 116) : escB (c :: r) = some (9, 1) := by rw [escB, if_neg (by omega), if_pos h]
theorem esc_self {c : UInt8} {r : Str} (h : c.toNat = 34 ∨ c.toNat = 92) : escB (c :: r) = some (c, 1) := by rw [escB, if_neg (by omega), if_neg (by omega), if_pos h]
theorem esc_x {c a b : UInt8} {r : Str} (h : c.toNat = 120) : escB (c :: a :: b :: r) = (hexB a b).map fun x => (x, 3) := by rw [escB, if_neg (by omega), if_neg (by omega), if_neg (by omega), if_pos h, escX]
theorem esc_xs {c : UInt8} {r : Str} (h : c.toNat = 120) (h2 : r.length < 2) : escB (c :: r) = none := by
 rw [escB, if_neg (by omega), if_neg (by omega), if_neg (by omega), if_pos h]
 match r, h2 with
 | [], _ => rfl
 | [_], _ => rfl
theorem esc_no {c : UInt8} {r : Str} (h1 : c.toNat ≠ 110) (h2 : c.toNat ≠ 116) (h3 : c.toNat ≠ 34) (h4 : c.toNat ≠ 92) (h5 : c.toNat ≠ 120) : escB (c :: r) = none := by
 rw [escB, if_neg h1, if_neg h2, if_neg (by omega), if_neg h5]
def LitAt (s : Str) (j i : Nat) (acc : Str) (res : Option (Str × Nat)) : Prop := res = (lit (s.drop i)).map fun p => (acc ++ p.1, i - j + p.2)
theorem LitAt.start (s : Str) (i : Nat) : LitAt s i i [] (lit (s.drop i)) := by
 unfold LitAt
 cases lit (s.drop i) <;> simp
theorem LitAt.end_ {s : Str} {j i : Nat} {acc : Str} {res : Option (Str × Nat)} (h : LitAt s j i acc res) (hi : s.length ≤ i) : res = none := by
 rw [h, List.drop_eq_nil_of_le hi]; rfl
theorem LitAt.quote {s : Str} {j i : Nat} {acc : Str} {res : Option (Str × Nat)} (h : LitAt s j i acc res) (hi : i < s.length) (hc : s[i].toNat = 34) : res = some (acc, i - j + 1) := by
 rw [h, List.drop_eq_getElem_cons hi, lit_quote hc]; simp
theorem LitAt.nl {s : Str} {j i : Nat} {acc : Str} {res : Option (Str × Nat)} (h : LitAt s j i acc res) (hi : i < s.length) (hc : s[i].toNat = 10) : res = none := by
 rw [h, List.drop_eq_getElem_cons hi, lit_nl hc]; rfl
theorem LitAt.bad {s : Str} {j i : Nat} {acc : Str} {res : Option (Str × Nat)} (h : LitAt s j i acc res) (hi : i < s.length) (hc : s[i].toNat = 92) (he : escB (s.drop (i + 1)) = none) : res = none := by
 rw [h, List.drop_eq_getElem_cons hi, lit_esc_none hc he]; rfl
theorem LitAt.esc {s : Str} {j i : Nat} {acc : Str} {res : Option (Str × Nat)} {b : UInt8} {n : Nat} (h : LitAt s j i acc res) (hj : j ≤ i) (hi : i < s.length) (hc : s[i].toNat = 92) (he : escB (s.drop (i + 1)) = some (b, n)) : LitAt s j (i + 1 + n) (acc ++ [b]) res := by
 unfold LitAt at h ⊢
 rw [h, List.drop_eq_getElem_cons hi, lit_esc_some hc he, List.drop_drop, Option.map_map]
 congr 1
 funext p
 simp only [Function.comp, List.append_assoc, List.singleton_append, Prod.mk.injEq, true_and]
 omega
theorem LitAt.one {s : Str} {j i : Nat} {acc : Str} {res : Option (Str × Nat)} (h : LitAt s j i acc res) (hj : j ≤ i) (hi : i < s.length) (h1 : s[i].toNat ≠ 34) (h2 : s[i].toNat ≠ 10) (h3 : s[i].toNat ≠ 92) : LitAt s j (i + 1) (acc ++ [s[i]]) res := by
 unfold LitAt at h ⊢
 rw [h, List.drop_eq_getElem_cons hi, lit_one h1 h2 h3, Option.map_map]
 congr 1
 funext p
 simp only [Function.comp, List.append_assoc, List.singleton_append, Prod.mk.injEq, true_and]
 omega
theorem pU_le {base maxV : Nat} : ∀ (s : Str) (n v : Nat), n ≤ maxV → pU base maxV s n = some v → v ≤ maxV
 | [], n, v, h, e => by cases e; exact h
 | c :: cs, n, v, h, e => by
  rw [pU] at e
  split at e
  ·cases e
  ·split at e
   ·rename_i hc
    exact pU_le cs _ v hc.2 e
   ·cases e
end Go.Sep


/- ScLit -/
set_option linter.unusedVariables false
set_option linter.unusedSimpArgs false
namespace Go.Sep
open Go.Proofs
attribute [local irreducible] TC TO OT TCallX TCall DO DOt thenQ blockQ retQ At
structure LitS where
 m : Mem
 q : Option Addr
 sl : Sl
 i : Nat
 acc : Str
def litR (o : Option (Str × Nat)) : Value := match o with
 | some (t, n) => .tuple ⟨[strV t, .int .i64 ((n + 1 : Nat) : Int)]⟩
 | none => .tuple ⟨[strV [], .int .i64 0]⟩
set_option maxHeartbeats 2000000 in
theorem literal_law (m : Mem) (L : List Item) (s : Str) (h0 : 0 < s.length) (hl : s.length ≤ 70000) (hE : Errs m) : TCall Tryz.prog 63 ⟨[strV s]⟩ m L (Made m L fun r _ => r = litR (lit (s.drop 1))) := by
 unfold TCall
 refine TCallX.enter Tryz.func63 rfl 76 rfl ?_
 repeat (first|refine q1 ?_|refine q3 ?_|refine q4 tab rfl rfl ?_|refine q5 ?_|refine q6 ?_)
 refine TO.step rfl (OT.allocT tab rfl rfl rfl rfl (fun bd m1 hm1 ht1 => ?_))
 repeat (first|refine q1 ?_|refine q2 ?_|refine q3 ?_|refine q4 tab rfl rfl ?_|refine q5 ?_|refine q6 ?_)
 refine TC.grow0 (size := 1) ?_
 refine TC.perm pf1 ?_
 refine TC.loopK (ι := LitS) [0, 4] rfl (fun x => [(5, .int .i64 (x.i : Int))]) (fun x => x.m) (fun x => .cells bd 0 [.pointer x.q, x.sl.v] :: tok x.sl 1 :: L) (fun x => m ≤ x.m ∧ 1 ≤ x.i ∧ x.i ≤ s.length ∧ BOk x.m bd x.q x.sl x.acc ∧ x.acc.length ≤ x.i ∧ LitAt s 1 x.i x.acc (lit (s.drop 1))) (fun x => s.length - x.i) ⟨m1, none, ⟨none, 0, 0⟩, 1, []⟩ (by repeat (first|exact trivial|refine And.intro rfl ?_)) rfl (by repeat (exact List.Sublist.refl _)) ⟨hm1, Nat.le_refl _, h0, ⟨ht1, .inl rfl, SlRep.nil _ _, Own.nil, fun _ _ e => (by cases e), fun _ => rfl⟩, Nat.zero_le _, LitAt.start s 1⟩ ?_
 rintro ⟨m1, q, sl, i, acc⟩ ⟨hm, hi1, hi, hB, hacc, hI⟩
 replace hm : m ≤ m1 := hm
 replace hi1 : 1 ≤ i := hi1
 replace hi : i ≤ s.length := hi
 replace hB : BOk m1 bd q sl acc := hB
 replace hacc : acc.length ≤ i := hacc
 replace hI : LitAt s 1 i acc (lit (s.drop 1)) := hI
 show TC _ _ _ ((5, .int .i64 (i : Int)) :: _) _ m1 (.cells bd 0 [.pointer q, sl.v] :: tok sl 1 :: L) _
 repeat (first|refine q1 ?_|refine q3 ?_|refine q4 tab rfl rfl ?_|refine q5 ?_|refine q6 ?_)
 refine TC.condP rfl (fun g1 => ?_) (fun g1 => ?_)
 ·have hlt : i < s.length := by omega
  have hx : s[i]? = some s[i] := by simp [hlt]
  repeat (first|refine q1 ?_|refine q2 ?_|refine q3 ?_|refine q4 tab rfl rfl ?_|refine q6 ?_|refine q13 ?_)
  refine TO.step rfl (OT.sidx tab i rfl rfl rfl rfl rfl rfl rfl hx ?_)
  repeat (first|refine q1 ?_|refine q2 ?_|refine q3 ?_|refine q4 tab rfl rfl ?_|refine q5 ?_|refine q6 ?_)
  refine TC.condP rfl (fun c1 => ?_) (fun c1 => ?_)
  ·repeat (first|refine q1 ?_|refine q3 ?_)
   refine TO.step rfl (OT.call rfl rfl rfl rfl rfl rfl goes95 ((string_law _ _ bd q sl acc hB).x ?_));
   rintro _ _ _ ⟨rfl, rfl, rfl⟩
   repeat (refine q4 tab rfl rfl ?_)
   refine TO.step rfl (OT.arith (r' := ((i + 1 : Nat) : Int)) rfl rfl rfl rfl rfl rfl rfl (by omega) ?_)
   repeat (first|refine q4 tab rfl rfl ?_|refine q5 ?_|refine q6 ?_|refine q8 ?_|refine q9 ?_|refine q15 ?_)
   refine retQ_ret rfl (by repeat (exact List.Sublist.refl _)) ⟨hm, rfl, ?_⟩
   rw [hI.quote hlt (by omega)]
   show Value.tuple ⟨[strV acc, .int .i64 ((i + 1 : Nat) : Int)]⟩ = .tuple ⟨[strV acc, .int .i64 ((i - 1 + 1 + 1 : Nat) : Int)]⟩
   rw [show i - 1 + 1 + 1 = i + 1 by omega]
  repeat (first|refine q1 ?_|refine q3 ?_|refine q4 tab rfl rfl ?_|refine q5 ?_|refine q6 ?_)
  refine TC.condP rfl (fun c2 => ?_) (fun c2 => ?_)
  ·repeat (first|refine q1 ?_|refine q3 ?_|refine q4 tab rfl rfl ?_|refine q5 ?_|refine q6 ?_|refine q8 ?_|refine q9 ?_|refine q15 ?_)
   refine retQ_ret rfl (by repeat (first|exact List.Sublist.refl _|refine List.Sublist.cons _ ?_)) ⟨hm, rfl, ?_⟩
   rw [hI.nl hlt (by omega)]; rfl
  repeat (first|refine q1 ?_|refine q3 ?_|refine q4 tab rfl rfl ?_|refine q5 ?_|refine q6 ?_)
  refine TC.condP rfl (fun c3 => ?_) (fun c3 => ?_)
  ·repeat (first|refine q1 ?_|refine q3 ?_|refine q4 tab rfl rfl ?_)
   refine TO.step rfl (OT.arith (r' := ((i + 1 : Nat) : Int)) rfl rfl rfl rfl rfl rfl rfl (by omega) ?_)
   repeat (first|refine q1 ?_|refine q3 ?_|refine q4 tab rfl rfl ?_|refine q5 ?_|refine q6 ?_)
   refine TC.condP rfl (fun c4 => ?_) (fun c4 => ?_)
   ·repeat (first|refine q1 ?_|refine q3 ?_|refine q4 tab rfl rfl ?_|refine q5 ?_|refine q6 ?_|refine q8 ?_|refine q9 ?_|refine q15 ?_)
    refine retQ_ret rfl (by repeat (first|exact List.Sublist.refl _|refine List.Sublist.cons _ ?_)) ⟨hm, rfl, ?_⟩
    rw [hI.bad hlt (by omega) (by rw [List.drop_eq_nil_of_le (by omega)]; rfl)]; rfl
   have hlt2 : i + 1 < s.length := by omega
   have hx2 : s[i + 1]? = some s[i + 1] := by simp [hlt2]
   have hd2 := List.drop_eq_getElem_cons hlt2
   repeat (first|refine q1 ?_|refine q3 ?_|refine q4 tab rfl rfl ?_|refine q6 ?_|refine q13 ?_)
   refine TO.step rfl (OT.sidx tab (i + 1) rfl rfl rfl rfl rfl rfl rfl hx2 ?_)
   repeat (first|refine q1 ?_|refine q2 ?_|refine q3 ?_|refine q4 tab rfl rfl ?_|refine q5 ?_|refine q6 ?_)
   refine TC.condP rfl (fun d1 => ?_) (fun d1 => ?_)
   ·have he : escB (s.drop (i + 1)) = some (10, 1) := by rw [hd2]; exact esc_n (by omega)
    repeat (refine q3 ?_)
    refine TO.step rfl (OT.call rfl rfl rfl rfl rfl rfl goes96 ((writeByte_law _ _ bd q sl acc 10 hB (by omega)).x ?_));
    rintro _ m2 _ ⟨hm2, sl2, q2, rfl, hB2⟩
    repeat (first|refine q3 ?_|refine q4 tab rfl rfl ?_|refine q5 ?_|refine q6 ?_|refine q7 ?_)
    refine TO.step rfl (OT.arith (r' := (((i + 1) + 1 : Nat) : Int)) rfl rfl rfl rfl rfl rfl rfl (by omega) ?_)
    repeat (first|refine q4 tab rfl rfl ?_|refine q5 ?_|refine q6 ?_)
    exact ⟨⟨m2, q2, sl2, (i + 1) + 1, acc ++ [10]⟩, (by repeat (first|exact trivial|refine And.intro rfl ?_)), (by repeat (first|exact trivial|refine And.intro rfl ?_)), rfl, rfl, (by repeat (exact List.Sublist.refl _)), ⟨Mem.le_trans hm hm2, by show _ ≤ (i + 1) + 1; omega, by show (i + 1) + 1 ≤ _; omega, hB2, by show (acc ++ [_]).length ≤ (i + 1) + 1; rw [List.length_append]; simp only [List.length_cons, List.length_nil]; omega, (hI.esc hi1 hlt (by omega) he)⟩, by show s.length - ((i + 1) + 1) < s.length - i; omega⟩
   repeat (first|refine q1 ?_|refine q3 ?_|refine q4 tab rfl rfl ?_|refine q5 ?_|refine q6 ?_)
   refine TC.condP rfl (fun d2 => ?_) (fun d2 => ?_)
   ·have he : escB (s.drop (i + 1)) = some (9, 1) := by rw [hd2]; exact esc_t (by omega)
    repeat (refine q3 ?_)
    refine TO.step rfl (OT.call rfl rfl rfl rfl rfl rfl goes96 ((writeByte_law _ _ bd q sl acc 9 hB (by omega)).x ?_));
    rintro _ m2 _ ⟨hm2, sl2, q2, rfl, hB2⟩
    repeat (first|refine q3 ?_|refine q4 tab rfl rfl ?_|refine q5 ?_|refine q6 ?_|refine q7 ?_)
    refine TO.step rfl (OT.arith (r' := (((i + 1) + 1 : Nat) : Int)) rfl rfl rfl rfl rfl rfl rfl (by omega) ?_)
    repeat (first|refine q4 tab rfl rfl ?_|refine q5 ?_|refine q6 ?_)
    exact ⟨⟨m2, q2, sl2, (i + 1) + 1, acc ++ [9]⟩, (by repeat (first|exact trivial|refine And.intro rfl ?_)), (by repeat (first|exact trivial|refine And.intro rfl ?_)), rfl, rfl, (by repeat (exact List.Sublist.refl _)), ⟨Mem.le_trans hm hm2, by show _ ≤ (i + 1) + 1; omega, by show (i + 1) + 1 ≤ _; omega, hB2, by show (acc ++ [_]).length ≤ (i + 1) + 1; rw [List.length_append]; simp only [List.length_cons, List.length_nil]; omega, (hI.esc hi1 hlt (by omega) he)⟩, by show s.length - ((i + 1) + 1) < s.length - i; omega⟩
   repeat (first|refine q1 ?_|refine q3 ?_|refine q4 tab rfl rfl ?_|refine q5 ?_|refine q6 ?_)
   refine TC.condP rfl (fun d3 => ?_) (fun d3 => ?_)
   ·have he : escB (s.drop (i + 1)) = some (s[i + 1], 1) := by rw [hd2]; exact esc_self (by omega)
    repeat (first|refine q6 ?_|refine q13 ?_)
    refine TC.condP rfl (fun _ => ?_) (fun h => absurd d3 h)
    repeat (first|refine q3 ?_|refine q4 tab rfl rfl ?_)
    refine TO.step rfl (OT.sidx tab (i + 1) rfl rfl rfl rfl rfl rfl rfl hx2 ?_)
    skip
    refine TO.step rfl (OT.call rfl rfl rfl rfl rfl rfl goes96 ((writeByte_law _ _ bd q sl acc s[i + 1] hB (by omega)).x ?_));
    rintro _ m2 _ ⟨hm2, sl2, q2, rfl, hB2⟩
    repeat (first|refine q3 ?_|refine q4 tab rfl rfl ?_|refine q5 ?_|refine q6 ?_|refine q7 ?_)
    refine TO.step rfl (OT.arith (r' := (((i + 1) + 1 : Nat) : Int)) rfl rfl rfl rfl rfl rfl rfl (by omega) ?_)
    repeat (first|refine q4 tab rfl rfl ?_|refine q5 ?_|refine q6 ?_)
    exact ⟨⟨m2, q2, sl2, (i + 1) + 1, acc ++ [s[i + 1]]⟩, (by repeat (first|exact trivial|refine And.intro rfl ?_)), (by repeat (first|exact trivial|refine And.intro rfl ?_)), rfl, rfl, (by repeat (exact List.Sublist.refl _)), ⟨Mem.le_trans hm hm2, by show _ ≤ (i + 1) + 1; omega, by show (i + 1) + 1 ≤ _; omega, hB2, by show (acc ++ [_]).length ≤ (i + 1) + 1; rw [List.length_append]; simp only [List.length_cons, List.length_nil]; omega, (hI.esc hi1 hlt (by omega) he)⟩, by show s.length - ((i + 1) + 1) < s.length - i; omega⟩
   repeat (first|refine q3 ?_|refine q4 tab rfl rfl ?_|refine q5 ?_|refine q6 ?_)
   refine TC.condP rfl (fun d4 => ?_) (fun d4 => ?_)
   ·have he : escB (s.drop (i + 1)) = some (s[i + 1], 1) := by rw [hd2]; exact esc_self (by omega)
    repeat (first|refine q3 ?_|refine q4 tab rfl rfl ?_)
    refine TO.step rfl (OT.sidx tab (i + 1) rfl rfl rfl rfl rfl rfl rfl hx2 ?_)
    skip
    refine TO.step rfl (OT.call rfl rfl rfl rfl rfl rfl goes96 ((writeByte_law _ _ bd q sl acc s[i + 1] hB (by omega)).x ?_));
    rintro _ m2 _ ⟨hm2, sl2, q2, rfl, hB2⟩
    repeat (first|refine q3 ?_|refine q4 tab rfl rfl ?_|refine q5 ?_|refine q6 ?_|refine q7 ?_)
    refine TO.step rfl (OT.arith (r' := (((i + 1) + 1 : Nat) : Int)) rfl rfl rfl rfl rfl rfl rfl (by omega) ?_)
    repeat (first|refine q4 tab rfl rfl ?_|refine q5 ?_|refine q6 ?_)
    exact ⟨⟨m2, q2, sl2, (i + 1) + 1, acc ++ [s[i + 1]]⟩, (by repeat (first|exact trivial|refine And.intro rfl ?_)), (by repeat (first|exact trivial|refine And.intro rfl ?_)), rfl, rfl, (by repeat (exact List.Sublist.refl _)), ⟨Mem.le_trans hm hm2, by show _ ≤ (i + 1) + 1; omega, by show (i + 1) + 1 ≤ _; omega, hB2, by show (acc ++ [_]).length ≤ (i + 1) + 1; rw [List.length_append]; simp only [List.length_cons, List.length_nil]; omega, (hI.esc hi1 hlt (by omega) he)⟩, by show s.length - ((i + 1) + 1) < s.length - i; omega⟩
   repeat (first|refine q1 ?_|refine q3 ?_|refine q4 tab rfl rfl ?_|refine q5 ?_|refine q6 ?_)
   refine TC.condP rfl (fun d5 => ?_) (fun d5 => ?_)
   ·repeat (first|refine q1 ?_|refine q3 ?_|refine q4 tab rfl rfl ?_)
    refine TO.step rfl (OT.arith (r' := ((i + 3 : Nat) : Int)) rfl rfl rfl rfl rfl rfl rfl (by omega) ?_)
    repeat (first|refine q4 tab rfl rfl ?_|refine q5 ?_|refine q6 ?_)
    refine TC.condP rfl (fun d6 => ?_) (fun d6 => ?_)
    ·repeat (first|refine q1 ?_|refine q3 ?_|refine q4 tab rfl rfl ?_|refine q5 ?_|refine q6 ?_|refine q8 ?_|refine q9 ?_|refine q15 ?_)
     refine retQ_ret rfl (by repeat (first|exact List.Sublist.refl _|refine List.Sublist.cons _ ?_)) ⟨hm, rfl, ?_⟩
     rw [hI.bad hlt (by omega) (by rw [hd2]; exact esc_xs (by omega) (by rw [List.length_drop]; omega))]; rfl
    have hl3 : i + 2 < s.length := by omega
    have hl4 : i + 3 < s.length := by omega
    have hcut : (s.take (i + 4)).drop (i + 2) = [s[i + 2], s[i + 3]] := by
     rw [List.take_succ_eq_append_getElem hl4, List.take_succ_eq_append_getElem hl3, List.append_assoc, List.drop_append, List.drop_eq_nil_of_le (by simp; omega)]
     simp [Nat.min_eq_left (show i + 2 ≤ s.length by omega)]
    have hd3 : s.drop (i + 1) = s[i + 1] :: s[i + 2] :: s[i + 3] :: s.drop (i + 4) := by
     rw [hd2, List.drop_eq_getElem_cons hl3, List.drop_eq_getElem_cons hl4]
    repeat (first|refine q1 ?_|refine q3 ?_|refine q4 tab rfl rfl ?_|refine q6 ?_|refine q13 ?_)
    refine TO.step rfl (OT.arith (r' := ((i + 2 : Nat) : Int)) rfl rfl rfl rfl rfl rfl rfl (by omega) ?_)
    repeat (refine q4 tab rfl rfl ?_)
    refine TO.step rfl (OT.arith (r' := ((i + 4 : Nat) : Int)) rfl rfl rfl rfl rfl rfl rfl (by omega) ?_)
    refine TO.step rfl (OT.sub tab (i + 2) (i + 4) rfl rfl rfl rfl rfl rfl rfl (.inr rfl) (.inr rfl) (by omega) (by omega) ?_)
    rw [hcut]
    refine TO.step rfl (OT.call rfl rfl rfl rfl rfl rfl goes97 ((parseUint_law _ _ [s[i + 2], s[i + 3]] (by simp) (by simp) (hE.mono hm)).x ?_));
    rintro _ m3 _ ⟨hm3, rfl, ⟨v, e1, rfl⟩ | ⟨e1, v, a, b, rfl⟩⟩
    ·have hv := pU_le _ _ _ (Nat.zero_le _) e1
     have he : escB (s.drop (i + 1)) = some (UInt8.ofNat v, 3) := by rw [hd3, esc_x (by omega), hexB, e1]; rfl
     repeat (first|refine q1 ?_|refine q3 ?_|refine q4 tab rfl rfl ?_|refine q5 ?_|refine q6 ?_)
     refine TO.step rfl (OT.errNe tab rfl rfl rfl rfl (.inl rfl) rfl rfl ?_)
     repeat (first|refine q1 ?_|refine q3 ?_|refine q4 tab rfl rfl ?_|refine q5 ?_|refine q6 ?_|refine q13 ?_|refine q17 rfl ?_)
     refine TO.step rfl (OT.conv tab rfl rfl rfl rfl rfl rfl (r := ((UInt8.ofNat v).toNat : Int)) (by rw [u8_in (by omega) (by omega), UInt8.toNat_ofNat', Nat.mod_eq_of_lt (by omega)]) ?_)
     replace hB := hB.mono hm3
     refine TO.step rfl (OT.call rfl rfl rfl rfl rfl rfl goes96 ((writeByte_law _ _ bd q sl acc (UInt8.ofNat v) hB (by omega)).x ?_));
     rintro _ m2 _ ⟨hm2, sl2, q2, rfl, hB2⟩
     repeat (first|refine q3 ?_|refine q4 tab rfl rfl ?_|refine q5 ?_|refine q6 ?_)
     refine TO.step rfl (OT.arith (r' := ((i + 3 : Nat) : Int)) rfl rfl rfl rfl rfl rfl rfl (by omega) ?_)
     repeat (first|refine q3 ?_|refine q4 tab rfl rfl ?_|refine q5 ?_|refine q6 ?_|refine q7 ?_)
     refine TO.step rfl (OT.arith (r' := (((i + 3) + 1 : Nat) : Int)) rfl rfl rfl rfl rfl rfl rfl (by omega) ?_)
     repeat (first|refine q4 tab rfl rfl ?_|refine q5 ?_|refine q6 ?_)
     exact ⟨⟨m2, q2, sl2, (i + 3) + 1, acc ++ [(UInt8.ofNat v)]⟩, (by repeat (first|exact trivial|refine And.intro rfl ?_)), (by repeat (first|exact trivial|refine And.intro rfl ?_)), rfl, rfl, (by repeat (exact List.Sublist.refl _)), ⟨Mem.le_trans hm (Mem.le_trans hm3 hm2), by show _ ≤ (i + 3) + 1; omega, by show (i + 3) + 1 ≤ _; omega, hB2, by show (acc ++ [_]).length ≤ (i + 3) + 1; rw [List.length_append]; simp only [List.length_cons, List.length_nil]; omega, (hI.esc hi1 hlt (by omega) he)⟩, by show s.length - ((i + 3) + 1) < s.length - i; omega⟩
    ·repeat (first|refine q1 ?_|refine q3 ?_|refine q4 tab rfl rfl ?_|refine q5 ?_|refine q6 ?_)
     refine TO.step rfl (OT.errNe tab rfl rfl rfl rfl (.inr ⟨_, _, rfl⟩) rfl rfl ?_)
     repeat (first|refine q1 ?_|refine q3 ?_|refine q4 tab rfl rfl ?_|refine q5 ?_|refine q6 ?_|refine q8 ?_|refine q9 ?_|refine q15 ?_|refine q16 rfl ?_)
     refine retQ_ret rfl (by repeat (first|exact List.Sublist.refl _|refine List.Sublist.cons _ ?_)) ⟨Mem.le_trans hm hm3, rfl, ?_⟩
     rw [hI.bad hlt (by omega) (by rw [hd3, esc_x (by omega), hexB, e1]; rfl)]; rfl
   ·repeat (first|refine q1 ?_|refine q3 ?_|refine q4 tab rfl rfl ?_|refine q5 ?_|refine q6 ?_|refine q8 ?_|refine q9 ?_|refine q15 ?_)
    refine retQ_ret rfl (by repeat (first|exact List.Sublist.refl _|refine List.Sublist.cons _ ?_)) ⟨hm, rfl, ?_⟩
    rw [hI.bad hlt (by omega) (by rw [hd2]; exact esc_no (by omega) (by omega) (by omega) (by omega) (by omega))]; rfl
  ·repeat (first|refine q3 ?_|refine q4 tab rfl rfl ?_)
   refine TO.step rfl (OT.sidx tab i rfl rfl rfl rfl rfl rfl rfl hx ?_)
   refine TO.step rfl (OT.call rfl rfl rfl rfl rfl rfl goes96 ((writeByte_law _ _ bd q sl acc s[i] hB (by omega)).x ?_));
   rintro _ m2 _ ⟨hm2, sl2, q2, rfl, hB2⟩
   repeat (first|refine q3 ?_|refine q4 tab rfl rfl ?_|refine q5 ?_|refine q6 ?_|refine q7 ?_)
   refine TO.step rfl (OT.arith (r' := ((i + 1 : Nat) : Int)) rfl rfl rfl rfl rfl rfl rfl (by omega) ?_)
   repeat (first|refine q4 tab rfl rfl ?_|refine q5 ?_|refine q6 ?_)
   exact ⟨⟨m2, q2, sl2, i + 1, acc ++ [s[i]]⟩, (by repeat (first|exact trivial|refine And.intro rfl ?_)), (by repeat (first|exact trivial|refine And.intro rfl ?_)), rfl, rfl, (by repeat (exact List.Sublist.refl _)), ⟨Mem.le_trans hm hm2, by show _ ≤ i + 1; omega, by show i + 1 ≤ _; omega, hB2, by show (acc ++ [_]).length ≤ i + 1; rw [List.length_append]; simp only [List.length_cons, List.length_nil]; omega, (hI.one hi1 hlt (by omega) (by omega) (by omega))⟩, by show s.length - (i + 1) < s.length - i; omega⟩
 ·repeat (first|refine q1 ?_|refine q3 ?_|refine q4 tab rfl rfl ?_|refine q5 ?_|refine q6 ?_|refine q10 ?_|refine q11 ?_|refine q14 ?_|refine q15 ?_)
  refine retQ_ret rfl (by repeat (first|exact List.Sublist.refl _|refine List.Sublist.cons _ ?_)) ⟨hm, rfl, ?_⟩
  rw [hI.end_ (by omega)]; rfl
end Go.Sep


/- ScTok0 -/
set_option linter.unusedVariables false
set_option linter.unusedSimpArgs false
namespace Go.Sep
def isSp (c : UInt8) : Bool := decide (c.toNat = 9) || (decide (c.toNat = 10) || (decide (c.toNat = 13) || decide (c.toNat = 32)))
def blk : Bool → Str → Nat
 | _, [] => 0
 | true, c :: r => if c.toNat = 10 then 1 + blk false r else 1 + blk true r
 | false, c :: r => if isSp c = true then 1 + blk false r else if c.toNat = 47 ∧ r.head? = some 47 then 1 + blk true r else 0
theorem blk_le : ∀ (b : Bool) (s : Str), blk b s ≤ s.length
 | _, [] => by simp [blk]
 | true, c :: r => by
  have h1 := blk_le false r
  have h2 := blk_le true r
  rw [blk, List.length_cons]
  split <;> omega
 | false, c :: r => by
  have h1 := blk_le false r
  have h2 := blk_le true r
  rw [blk, List.length_cons]
  split
  ·omega
  ·split <;> omega
theorem isSp_ix_all : ∀ n : Fin 256, decide (0 ≤ Lib.indexByte [9, 10, 13, 32] (UInt8.ofNat n.val)) = isSp (UInt8.ofNat n.val) := by decide +kernel
theorem isSp_ix (c : UInt8) : decide (0 ≤ Lib.indexByte [9, 10, 13, 32] c) = isSp c := by
 have := isSp_ix_all ⟨c.toNat, c.toNat_lt⟩
 simpa using this
theorem blk_line : ∀ l : Str, (Lib.indexByte l 10 = -1 ∧ blk true l = l.length) ∨ ∃ k : Nat, k < l.length ∧ Lib.indexByte l 10 = (k : Int) ∧ blk true l = k + blk false (l.drop k) ∧ (l.drop k).head? = some 10
 | [] => .inl ⟨rfl, rfl⟩
 | c :: r => by
  by_cases hc : c = 10
  ·subst hc
   refine .inr ⟨0, by simp, rfl, ?_, rfl⟩
   rw [List.drop_zero, Nat.zero_add, blk, blk, if_pos (by decide), if_pos (by decide)]
  ·have hn : c.toNat ≠ 10 := fun e => hc (UInt8.toNat_inj.1 e)
   have hb : (c == 10) = false := by simpa using hc
   rw [Lib.indexByte, blk, if_neg hn, hb]
   simp only [Bool.false_eq_true, if_false]
   rcases blk_line r with ⟨h1, h2⟩ | ⟨k, h1, h2, h3, h4⟩
   ·refine .inl ⟨?_, ?_⟩
    ·rw [h1]; rfl
    ·rw [h2, List.length_cons]; omega
   ·refine .inr ⟨k + 1, by simpa using h1, ?_, ?_, by simpa using h4⟩
    ·rw [h2]
     have : ((k : Int) == -1) = false := by
      simp only [beq_eq_false_iff_ne]; omega
     rw [this]; simp
    ·rw [h3]; simp; omega
theorem blk_rem {c : UInt8} {r : Str} (h1 : c.toNat = 47) (h2 : r.head? = some 47) : blk false (c :: r) = blk true (c :: r) := by
 rw [blk, blk, if_neg (by unfold isSp; simp [h1]), if_pos ⟨h1, h2⟩, if_neg (by omega)]
structure Tok where
 kind : Int
 text : Str
 num : Int
 at_ : Int
 deriving DecidableEq
def markL : List Str := [[58, 61], [61, 61], [33, 61], [60, 61], [62, 61], [38, 38], [124, 124], [40], [41], [123], [125], [91], [93], [44], [59], [46], [58], [61], [60], [62], [43], [45], [42], [47], [37], [38], [33]]
def tokD : Str → Option (Tok × Nat)
 | [] => none
 | c :: r =>
  if ltr c = true then (if 64 < spanOf lod (c :: r) then none else some (⟨if (c :: r).take (spanOf lod (c :: r)) ∈ wordL then 5 else 1, (c :: r).take (spanOf lod (c :: r)), 0, 0⟩, spanOf lod (c :: r)))
  else if dgt c = true then (match numOf ((c :: r).take (spanOf lod (c :: r))) with
   | none => none
   | some v => if (c.toNat = 48 ∧ 1 < spanOf lod (c :: r)) ∨ spanOf dgt (c :: r) ≠ spanOf lod (c :: r) then none else some (⟨2, [], v, 0⟩, spanOf lod (c :: r)))
  else if c.toNat = 34 then (match lit r with
   | none => none
   | some (t, n) => if 1024 < t.length then none else some (⟨3, t, 0, 0⟩, n + 1))
  else match markL.find? (fun p => prefixB p (c :: r)) with
   | none => none
   | some p => some (⟨4, p, 0, 0⟩, p.length)
theorem span_pos {p : UInt8 → Bool} {c : UInt8} {r : Str} (h : p c = true) : 0 < spanOf p (c :: r) := by
 rw [spanOf, List.takeWhile_cons_of_pos h]; simp
theorem span_le (p : UInt8 → Bool) (s : Str) : spanOf p s ≤ s.length := by
 unfold spanOf
 induction s with
 | nil => simp
 | cons x xs ih =>
  rw [List.takeWhile_cons]
  split <;> simp
  exact ih
theorem litF_le : ∀ (f : Nat) (r t : Str) (n : Nat), litF f r = some (t, n) → 1 ≤ n ∧ n ≤ r.length
 | 0, _, _, _, h => by cases h
 | f + 1, [], _, _, h => by cases h
 | f + 1, c :: r, t, n, h => by
  rw [litF] at h
  split at h
  ·cases h; simp
  ·split at h
   ·cases h
   ·split at h
    ·cases he : escB r with
     | none => rw [he] at h; cases h
     | some p =>
      obtain ⟨b, k⟩ := p
      rw [he] at h
      simp only at h
      cases hl : litF f (r.drop k) with
      | none => rw [hl] at h; cases h
      | some q =>
       obtain ⟨t', n'⟩ := q
       rw [hl] at h
       simp only [Option.map_some, Option.some.injEq, Prod.mk.injEq] at h
       have h1 := litF_le f _ _ _ hl
       have h2 := escB_pos he
       have h3 : (r.drop k).length = r.length - k := by simp
       simp only [List.length_cons]
       omega
    ·cases hl : litF f r with
     | none => rw [hl] at h; cases h
     | some q =>
      obtain ⟨t', n'⟩ := q
      rw [hl] at h
      simp only [Option.map_some, Option.some.injEq, Prod.mk.injEq] at h
      have h1 := litF_le f _ _ _ hl
      simp only [List.length_cons]
      omega
theorem lit_le {r t : Str} {n : Nat} (h : lit r = some (t, n)) : 1 ≤ n ∧ n ≤ r.length := litF_le _ _ _ _ h
theorem prefixB_len {p s : Str} (h : prefixB p s = true) : p.length ≤ s.length ∧ s.take p.length = p := by
 unfold prefixB at h
 rw [Bool.and_eq_true] at h
 exact ⟨of_decide_eq_true h.1, of_decide_eq_true h.2⟩
theorem markL_len : ∀ p ∈ markL, 1 ≤ p.length := by decide
theorem tokD_le {s : Str} {t : Tok} {n : Nat} (h : tokD s = some (t, n)) : 1 ≤ n ∧ n ≤ s.length := by
 cases s with
 | nil => cases h
 | cons c r =>
  have hs := span_le lod (c :: r)
  rw [tokD] at h
  by_cases h1 : ltr c = true
  ·rw [if_pos h1] at h
   have : lod c = true := by unfold lod; rw [h1]; rfl
   have := span_pos (r := r) this
   split at h
   ·cases h
   ·cases h; omega
  ·rw [if_neg h1] at h
   by_cases h2 : dgt c = true
   ·rw [if_pos h2] at h
    have : lod c = true := by unfold lod; rw [h2]; simp
    have := span_pos (r := r) this
    split at h
    ·cases h
    ·split at h
     ·cases h
     ·cases h; omega
   ·rw [if_neg h2] at h
    by_cases h3 : c.toNat = 34
    ·rw [if_pos h3] at h
     cases hl : lit r with
     | none => rw [hl] at h; cases h
     | some p =>
      obtain ⟨t', n'⟩ := p
      rw [hl] at h
      simp only at h
      have := lit_le hl
      split at h
      ·cases h
      ·cases h; simp; omega
    ·rw [if_neg h3] at h
     cases hf : markL.find? (fun p => prefixB p (c :: r)) with
     | none => rw [hf] at h; cases h
     | some p =>
      rw [hf] at h
      cases h
      have := prefixB_len (p := p) (s := c :: r) (List.find?_some (p := fun p => prefixB p (c :: r)) hf)
      exact ⟨markL_len p (List.mem_of_find?_eq_some hf), this.1⟩
def cutF : Nat → Str → Nat → Nat → Except (Nat × Int) (List Tok)
 | 0, _, _, _ => .error (0, 0)
 | f + 1, r, at_, k => if r.drop (blk false r) = [] then .ok [] else if k = 20000 then .error (at_ + blk false r, 4) else match tokD (r.drop (blk false r)) with
  | none => .error (at_ + blk false r, 3)
  | some (t, n) => match cutF f ((r.drop (blk false r)).drop n) (at_ + blk false r + n) (k + 1) with
   | .error e => .error e
   | .ok l => .ok (⟨t.kind, t.text, t.num, ((at_ + blk false r : Nat) : Int)⟩ :: l)
structure Cut where
 list : List Tok
 at_ : Nat
 e : Int
 deriving DecidableEq
def Cut.of : Except (Nat × Int) (List Tok) → Cut
 | .ok l => ⟨l, 0, 0⟩
 | .error (a, e) => ⟨[], a, e⟩
def scanD (s : Str) : Cut := if 65536 < s.length then ⟨[], 0, 13⟩ else .of (cutF (s.length + 1) s 0 0)
end Go.Sep


/- ScBlank -/
set_option linter.unusedVariables false
set_option linter.unusedSimpArgs false
namespace Go.Sep
open Go.Proofs
attribute [local irreducible] TC TO OT TCallX TCall DO DOt thenQ blockQ retQ At
theorem prefix_2 (l : Str) : prefixB [47, 47] l = true ↔ ∃ r, l = 47 :: 47 :: r := by
 constructor
 ·intro h
  obtain ⟨h1, h2⟩ := prefixB_len h
  match l, h1, h2 with
  | a :: b :: r, _, h2 =>
   simp at h2
   exact ⟨r, by rw [h2.1, h2.2]⟩
  | [a], h1, _ => simp at h1
  | [], h1, _ => simp at h1
 ·rintro ⟨r, rfl⟩
  rfl
set_option maxHeartbeats 800000 in
theorem blank_law (m : Mem) (L : List Item) (s : Str) (hl : s.length ≤ 70000) : TCall Tryz.prog 30 ⟨[strV s]⟩ m L (Ret (.int .i64 ((blk false s : Nat) : Int)) m L) := by
 unfold TCall
 refine TCallX.enter Tryz.func30 rfl 35 rfl ?_
 repeat (first|refine q1 ?_|refine q2 ?_|refine q3 ?_|refine q4 tab rfl rfl ?_|refine q5 ?_|refine q6 ?_)
 refine TC.loopK (ι := Nat) [0] rfl (fun n => [(3, .int .i64 (n : Int))]) (fun _ => m) (fun _ => L) (fun n => n ≤ s.length ∧ blk false s = n + blk false (s.drop n)) (fun n => s.length - n) 0 (by repeat (first|exact trivial|refine And.intro rfl ?_)) rfl (by repeat (exact List.Sublist.refl _)) ⟨Nat.zero_le _, by simp⟩ ?_
 rintro n ⟨hn, hI⟩
 repeat (first|refine q1 ?_|refine q3 ?_|refine q4 tab rfl rfl ?_|refine q5 ?_|refine q6 ?_)
 refine TC.condP rfl (fun g1 => ?_) (fun g1 => ?_)
 ·have hlt : n < s.length := by omega
  have hx : s[n]? = some s[n] := by simp [hlt]
  have hd := List.drop_eq_getElem_cons hlt
  repeat (first|refine q1 ?_|refine q2 ?_|refine q3 ?_|refine q4 tab rfl rfl ?_|refine q6 ?_|refine q13 ?_)
  refine TO.step rfl (OT.sidx tab n rfl rfl rfl rfl rfl rfl rfl hx ?_)
  refine TO.step rfl (OT.call rfl rfl rfl rfl rfl rfl goes54 ((indexByte_law _ _ [9, 10, 13, 32] s[n]).x ?_));
  rintro _ _ _ ⟨rfl, rfl, rfl⟩
  repeat (first|refine q4 tab rfl rfl ?_|refine q5 ?_|refine q6 ?_)
  rw [isSp_ix]
  refine TC.cond rfl (fun c1 => ?_) (fun c1 => ?_)
  ·repeat (first|refine q3 ?_|refine q4 tab rfl rfl ?_)
   refine TO.step rfl (OT.arith (r' := ((n + 1 : Nat) : Int)) rfl rfl rfl rfl rfl rfl rfl (by omega) ?_)
   repeat (first|refine q4 tab rfl rfl ?_|refine q5 ?_|refine q6 ?_|refine q7 ?_)
   exact ⟨n + 1, (by repeat (first|exact trivial|refine And.intro rfl ?_)), (by repeat (first|exact trivial|refine And.intro rfl ?_)), rfl, rfl, (by repeat (exact List.Sublist.refl _)), ⟨by omega, by rw [hI, hd, blk, if_pos c1]; omega⟩, by omega⟩
  ·repeat (first|refine q1 ?_|refine q3 ?_|refine q4 tab rfl rfl ?_)
   refine TO.step rfl (OT.sub tab n s.length rfl rfl rfl rfl rfl rfl rfl (.inr rfl) (.inl ⟨rfl, rfl⟩) (by omega) (by omega) ?_)
   rw [List.take_length]
   refine TO.step rfl (OT.call rfl rfl rfl rfl rfl rfl goes55 ((prefix_law _ _ (s.drop n) [47, 47]).x ?_));
   rintro _ _ _ ⟨rfl, rfl, rfl⟩
   repeat (first|refine q4 tab rfl rfl ?_|refine q5 ?_|refine q6 ?_)
   refine TC.cond rfl (fun c2 => ?_) (fun c2 => ?_)
   ·obtain ⟨r, hr⟩ := (prefix_2 _).1 c2
    have hb : blk false (s.drop n) = blk true (s.drop n) := by rw [hr]; exact blk_rem rfl rfl
    repeat (first|refine q1 ?_|refine q3 ?_|refine q4 tab rfl rfl ?_)
    refine TO.step rfl (OT.sub tab n s.length rfl rfl rfl rfl rfl rfl rfl (.inr rfl) (.inl ⟨rfl, rfl⟩) (by omega) (by omega) ?_)
    rw [List.take_length]
    refine TO.step rfl (OT.call rfl rfl rfl rfl rfl rfl goes54 ((indexByte_law _ _ (s.drop n) 10).x ?_));
    rintro _ _ _ ⟨rfl, rfl, rfl⟩
    rcases blk_line (s.drop n) with ⟨k1, k2⟩ | ⟨k, k0, k1, k2, k3⟩
    ·rw [k1]
     repeat (first|refine q1 ?_|refine q3 ?_|refine q4 tab rfl rfl ?_|refine q5 ?_|refine q6 ?_|refine q8 ?_|refine q9 ?_|refine q15 ?_|refine q16 rfl ?_)
     refine retQ_ret rfl (by repeat (exact List.Sublist.refl _)) ⟨rfl, rfl, ?_⟩
     rw [hI, hb, k2, List.length_drop]
     congr 1; omega
    ·rw [k1]
     have hk : k ≠ 0 := fun e => by rw [e, hr] at k3; simp at k3
     rw [List.length_drop] at k0
     repeat (first|refine q1 ?_|refine q3 ?_|refine q4 tab rfl rfl ?_|refine q5 ?_|refine q6 ?_|refine q13 ?_|refine q17 rfl ?_)
     refine TO.step rfl (OT.arith (r' := ((n + k : Nat) : Int)) rfl rfl rfl rfl rfl rfl rfl (by omega) ?_)
     repeat (first|refine q4 tab rfl rfl ?_|refine q5 ?_|refine q6 ?_|refine q7 ?_)
     exact ⟨n + k, (by repeat (first|exact trivial|refine And.intro rfl ?_)), (by repeat (first|exact trivial|refine And.intro rfl ?_)), rfl, rfl, (by repeat (exact List.Sublist.refl _)), ⟨by omega, by rw [hI, hb, k2, List.drop_drop]; omega⟩, by omega⟩
   ·repeat (first|refine q1 ?_|refine q3 ?_|refine q4 tab rfl rfl ?_|refine q5 ?_|refine q6 ?_|refine q8 ?_|refine q9 ?_|refine q15 ?_)
    refine retQ_ret rfl (by repeat (exact List.Sublist.refl _)) ⟨rfl, rfl, ?_⟩
    have hb : blk false (s.drop n) = 0 := by
     rw [hd, blk, if_neg (by rw [c1]; decide), if_neg]
     rintro ⟨h1, h2⟩
     refine Bool.eq_false_iff.1 c2 ((prefix_2 _).2 ?_)
     rw [hd]
     have h3 : s[n] = 47 := UInt8.toNat_inj.1 h1
     cases hr : s.drop (n + 1) with
     | nil => rw [hr] at h2; cases h2
     | cons x r =>
      rw [hr] at h2
      simp at h2
      exact ⟨r, by rw [h3, h2]⟩
    rw [hI, hb]; rfl
 ·repeat (first|refine q1 ?_|refine q3 ?_|refine q4 tab rfl rfl ?_|refine q5 ?_|refine q6 ?_|refine q10 ?_|refine q11 ?_|refine q14 ?_|refine q15 ?_)
  refine retQ_ret rfl (by repeat (exact List.Sublist.refl _)) ⟨rfl, rfl, ?_⟩
  rw [hI, List.drop_eq_nil_of_le (by omega), blk]
  congr 1
theorem marks_rep {m : Mem} {b : Nat} (h : At m b 0 (encs rStr markL)) : SlRep rStr m ⟨some ⟨b, 0, none⟩, 27, 27⟩ markL :=
 ⟨rfl, Nat.le_refl _, (by show 27 * 16 ≤ _; decide), markL, all_refl2 markL, .inr ⟨b, 0, rfl, h⟩⟩
set_option maxHeartbeats 400000 in
theorem marks_law (m : Mem) (L : List Item) : TCall Tryz.prog 64 ⟨[]⟩ m L (Made m L fun r m' => ∃ s : Sl, r = s.v ∧ SlRep rStr m' s markL) := by
 unfold TCall
 refine TCallX.enter Tryz.func64 rfl 2 rfl ?_
 repeat (first|refine q1 ?_|refine q3 ?_|refine q4 tab rfl rfl ?_|refine q5 ?_|refine q6 ?_)
 refine TO.step rfl (OT.lit tab rfl rfl rfl rfl (fun b => ?_))
 refine TO.freeze fun m1 hm1 hA1 => ?_
 repeat (first|refine q4 tab rfl rfl ?_|refine q5 ?_|refine q6 ?_|refine q15 ?_)
 exact retQ_ret rfl (by repeat (exact List.Sublist.refl _)) ⟨hm1, rfl, _, rfl, marks_rep hA1⟩
end Go.Sep


/- ScNext -/
set_option linter.unusedVariables false
set_option linter.unusedSimpArgs false
namespace Go.Sep
open Go.Proofs
attribute [local irreducible] TC TO OT TCallX TCall DO DOt thenQ blockQ retQ At
def tokC (t : Tok) : List Value := [.int .i64 t.kind, strV t.text, .int .i64 t.num, .int .i64 t.at_]
@[reducible] def tokV (t : Tok) : Value := .agg ⟨tokC t⟩
def NextR (o : Option (Tok × Nat)) (r : Value) : Prop := ∃ t n, r = .tuple ⟨[tokV t, .int .i64 ((n : Nat) : Int)]⟩ ∧ (o = some (t, n) ∨ (o = none ∧ n = 0))
set_option maxHeartbeats 1000000 in
theorem next_law (m : Mem) (L : List Item) (s : Str) (h0 : 0 < s.length) (hl : s.length ≤ 70000) (hE : Errs m) : TCall Tryz.prog 31 ⟨[strV s]⟩ m L (Made m L fun r _ => NextR (tokD s) r) := by
 obtain ⟨c, r, rfl⟩ : ∃ c r, s = c :: r := by
  cases s with
  | nil => simp at h0
  | cons c r => exact ⟨c, r, rfl⟩
 have hx : (c :: r)[0]? = some c := rfl
 have hsl := span_le lod (c :: r)
 unfold TCall
 refine TCallX.enter Tryz.func31 rfl 99 rfl ?_
 repeat (first|refine q1 ?_|refine q3 ?_)
 refine TO.step rfl (OT.alloc tab rfl rfl rfl rfl (fun b2 => ?_))
 repeat (first|refine q1 ?_|refine q2 ?_|refine q3 ?_|refine q4 tab rfl rfl ?_|refine q5 ?_|refine q6 ?_)
 refine TO.step rfl (OT.sidx tab 0 rfl rfl rfl rfl rfl rfl rfl hx ?_)
 refine TO.step rfl (OT.call rfl rfl rfl rfl rfl rfl goes56 ((letter_law _ _ c).x ?_));
 rintro _ _ _ ⟨rfl, rfl, rfl⟩
 repeat (first|refine q4 tab rfl rfl ?_|refine q5 ?_|refine q6 ?_)
 refine TC.cond rfl (fun c1 => ?_) (fun c1 => ?_)
 ·repeat (first|refine q1 ?_|refine q3 ?_|refine q4 tab rfl rfl ?_)
  refine TO.step rfl (OT.call rfl rfl rfl rfl rfl rfl goes58 ((either_law _ _).x ?_));
  rintro _ m1 _ ⟨hm1, rfl, e1, e2, rfl, hA1, hA2⟩
  skip
  refine TO.step rfl (OT.call rfl rfl rfl rfl rfl rfl goes57 ((span_law m1 _ (c :: r) (by omega) lod 91 _ ⟨goes91, fun b => either_cl m1 _ b e1 e2 hA1 hA2⟩).x ?_));
  rintro _ _ _ ⟨rfl, rfl, rfl⟩
  repeat (first|refine q1 ?_|refine q3 ?_|refine q4 tab rfl rfl ?_|refine q5 ?_|refine q6 ?_)
  refine TC.draw0 [] mixed 5 rfl ?_
  refine DO.pure tab (by repeat (first|exact Calm.ret|refine Calm.then ?_|refine Calm.block ?_)) (by kernel_rfl) [1, 2] (by kernel_rfl) rfl ?_
  refine DO.fork 0 [3] (by kernel_rfl) ⟨⟨_, rfl, rfl, rfl, ?_⟩, ⟨_, rfl, rfl, rfl, ?_⟩, trivial⟩
  ·refine OT.call rfl rfl rfl rfl rfl rfl goes61 ((words_law _ _).x ?_)
   rintro _ m2 _ ⟨hm2, rfl, w, rfl, hw⟩
   refine ⟨hm2, _, List.Perm.refl _, ?_⟩
   refine DO.run 3 rfl rfl (by kernel_rfl) rfl ?_
   refine OT.sub tab 0 (spanOf lod (c :: r)) rfl rfl rfl rfl rfl rfl rfl (.inl ⟨rfl, rfl⟩) (.inr rfl) (Nat.zero_le _) hsl ?_
   refine ⟨Mem.le_refl _, _, List.Perm.refl _, ?_⟩
   refine DO.run 4 rfl rfl (by kernel_rfl) rfl ?_
   refine OT.call rfl rfl rfl rfl rfl rfl goes60 ((contains_str m2 _ w wordL _ hw).x ?_)
   rintro _ _ _ ⟨rfl, rfl, rfl⟩
   refine ⟨Mem.le_refl _, _, List.Perm.refl _, ?_⟩
   refine DO.nil0 (by kernel_rfl) ?_
   refine thenQ_n ?_
   refine (fun (hm12 : m ≤ m2) => ?_) (Mem.le_trans hm1 hm2)
   skip
   refine TC.condP rfl (fun k1 => ?_) (fun k1 => ?_)
   ·repeat (first|refine q1 ?_|refine q3 ?_|refine q4 tab rfl rfl ?_|refine q5 ?_|refine q6 ?_)
    refine TC.condP rfl (fun k2 => ?_) (fun k2 => ?_)
    ·skip
     repeat (first|refine q1 ?_|refine q3 ?_|refine q4 tab rfl rfl ?_)
     (refine TO.step rfl (OT.storeL0 tab 0 rfl rfl rfl rfl rfl rfl rfl rfl ?_))
     repeat (first|refine q4 tab rfl rfl ?_|refine q5 ?_|refine q6 ?_|refine q8 ?_|refine q9 ?_|refine q15 ?_)
     refine retQ_ret_c tab 0 rfl rfl rfl rfl rfl (L' := L) (by repeat (first|exact List.Sublist.refl _|refine List.Sublist.cons _ ?_)) ⟨hm12, rfl, ?_⟩
     refine ⟨⟨0, [], 0, 0⟩, 0, rfl, .inr ⟨?_, rfl⟩⟩
     rw [tokD, if_pos c1, if_pos (by omega)]
    ·repeat (first|refine q1 ?_|refine q3 ?_|refine q4 tab rfl rfl ?_|refine q6 ?_|refine q13 ?_)
     refine TO.step rfl (OT.sub tab 0 (spanOf lod (c :: r)) rfl rfl rfl rfl rfl rfl rfl (.inl ⟨rfl, rfl⟩) (.inr rfl) (Nat.zero_le _) hsl ?_)
     repeat (refine q4 tab rfl rfl ?_)
     (refine TO.step rfl (OT.storeL0 tab 0 rfl rfl rfl rfl rfl rfl rfl rfl ?_))
     repeat (first|refine q4 tab rfl rfl ?_|refine q5 ?_|refine q6 ?_|refine q8 ?_|refine q9 ?_|refine q15 ?_)
     refine retQ_ret_c tab 0 rfl rfl rfl rfl rfl (L' := L) (by repeat (first|exact List.Sublist.refl _|refine List.Sublist.cons _ ?_)) ⟨hm12, rfl, ?_⟩
     refine ⟨⟨5, (c :: r).take (spanOf lod (c :: r)), 0, 0⟩, spanOf lod (c :: r), rfl, .inl ?_⟩
     rw [List.drop_zero] at k1
     rw [tokD, if_pos c1, if_neg (by omega), if_pos k1]
   ·repeat (first|refine q1 ?_|refine q3 ?_|refine q4 tab rfl rfl ?_|refine q5 ?_|refine q6 ?_|refine q13 ?_)
    refine TC.condP rfl (fun k2 => ?_) (fun k2 => ?_)
    ·skip
     repeat (first|refine q1 ?_|refine q3 ?_|refine q4 tab rfl rfl ?_)
     (refine TO.step rfl (OT.storeL0 tab 0 rfl rfl rfl rfl rfl rfl rfl rfl ?_))
     repeat (first|refine q4 tab rfl rfl ?_|refine q5 ?_|refine q6 ?_|refine q8 ?_|refine q9 ?_|refine q15 ?_)
     refine retQ_ret_c tab 0 rfl rfl rfl rfl rfl (L' := L) (by repeat (first|exact List.Sublist.refl _|refine List.Sublist.cons _ ?_)) ⟨hm12, rfl, ?_⟩
     refine ⟨⟨0, [], 0, 0⟩, 0, rfl, .inr ⟨?_, rfl⟩⟩
     rw [tokD, if_pos c1, if_pos (by omega)]
    ·repeat (first|refine q1 ?_|refine q3 ?_|refine q4 tab rfl rfl ?_|refine q6 ?_|refine q13 ?_)
     refine TO.step rfl (OT.sub tab 0 (spanOf lod (c :: r)) rfl rfl rfl rfl rfl rfl rfl (.inl ⟨rfl, rfl⟩) (.inr rfl) (Nat.zero_le _) hsl ?_)
     repeat (refine q4 tab rfl rfl ?_)
     (refine TO.step rfl (OT.storeL0 tab 0 rfl rfl rfl rfl rfl rfl rfl rfl ?_))
     repeat (first|refine q4 tab rfl rfl ?_|refine q5 ?_|refine q6 ?_|refine q8 ?_|refine q9 ?_|refine q15 ?_)
     refine retQ_ret_c tab 0 rfl rfl rfl rfl rfl (L' := L) (by repeat (first|exact List.Sublist.refl _|refine List.Sublist.cons _ ?_)) ⟨hm12, rfl, ?_⟩
     refine ⟨⟨1, (c :: r).take (spanOf lod (c :: r)), 0, 0⟩, spanOf lod (c :: r), rfl, .inl ?_⟩
     rw [List.drop_zero] at k1
     rw [tokD, if_pos c1, if_neg (by omega), if_neg k1]
  ·refine OT.sub tab 0 (spanOf lod (c :: r)) rfl rfl rfl rfl rfl rfl rfl (.inl ⟨rfl, rfl⟩) (.inr rfl) (Nat.zero_le _) hsl ?_
   refine ⟨Mem.le_refl _, _, List.Perm.refl _, ?_⟩
   refine DO.run 0 rfl rfl (by kernel_rfl) rfl ?_
   refine OT.call rfl rfl rfl rfl rfl rfl goes61 ((words_law _ _).x ?_)
   rintro _ m2 _ ⟨hm2, rfl, w, rfl, hw⟩
   refine ⟨hm2, _, List.Perm.refl _, ?_⟩
   refine DO.run 4 rfl rfl (by kernel_rfl) rfl ?_
   refine OT.call rfl rfl rfl rfl rfl rfl goes60 ((contains_str m2 _ w wordL _ hw).x ?_)
   rintro _ _ _ ⟨rfl, rfl, rfl⟩
   refine ⟨Mem.le_refl _, _, List.Perm.refl _, ?_⟩
   refine DO.nil0 (by kernel_rfl) ?_
   refine thenQ_n ?_
   refine (fun (hm12 : m ≤ m2) => ?_) (Mem.le_trans hm1 hm2)
   skip
   refine TC.condP rfl (fun k1 => ?_) (fun k1 => ?_)
   ·repeat (first|refine q1 ?_|refine q3 ?_|refine q4 tab rfl rfl ?_|refine q5 ?_|refine q6 ?_)
    refine TC.condP rfl (fun k2 => ?_) (fun k2 => ?_)
    ·skip
     repeat (first|refine q1 ?_|refine q3 ?_|refine q4 tab rfl rfl ?_)
     (refine TO.step rfl (OT.storeL0 tab 0 rfl rfl rfl rfl rfl rfl rfl rfl ?_))
     repeat (first|refine q4 tab rfl rfl ?_|refine q5 ?_|refine q6 ?_|refine q8 ?_|refine q9 ?_|refine q15 ?_)
     refine retQ_ret_c tab 0 rfl rfl rfl rfl rfl (L' := L) (by repeat (first|exact List.Sublist.refl _|refine List.Sublist.cons _ ?_)) ⟨hm12, rfl, ?_⟩
     refine ⟨⟨0, [], 0, 0⟩, 0, rfl, .inr ⟨?_, rfl⟩⟩
     rw [tokD, if_pos c1, if_pos (by omega)]
    ·repeat (first|refine q1 ?_|refine q3 ?_|refine q4 tab rfl rfl ?_|refine q6 ?_|refine q13 ?_)
     refine TO.step rfl (OT.sub tab 0 (spanOf lod (c :: r)) rfl rfl rfl rfl rfl rfl rfl (.inl ⟨rfl, rfl⟩) (.inr rfl) (Nat.zero_le _) hsl ?_)
     repeat (refine q4 tab rfl rfl ?_)
     (refine TO.step rfl (OT.storeL0 tab 0 rfl rfl rfl rfl rfl rfl rfl rfl ?_))
     repeat (first|refine q4 tab rfl rfl ?_|refine q5 ?_|refine q6 ?_|refine q8 ?_|refine q9 ?_|refine q15 ?_)
     refine retQ_ret_c tab 0 rfl rfl rfl rfl rfl (L' := L) (by repeat (first|exact List.Sublist.refl _|refine List.Sublist.cons _ ?_)) ⟨hm12, rfl, ?_⟩
     refine ⟨⟨5, (c :: r).take (spanOf lod (c :: r)), 0, 0⟩, spanOf lod (c :: r), rfl, .inl ?_⟩
     rw [List.drop_zero] at k1
     rw [tokD, if_pos c1, if_neg (by omega), if_pos k1]
   ·repeat (first|refine q1 ?_|refine q3 ?_|refine q4 tab rfl rfl ?_|refine q5 ?_|refine q6 ?_|refine q13 ?_)
    refine TC.condP rfl (fun k2 => ?_) (fun k2 => ?_)
    ·skip
     repeat (first|refine q1 ?_|refine q3 ?_|refine q4 tab rfl rfl ?_)
     (refine TO.step rfl (OT.storeL0 tab 0 rfl rfl rfl rfl rfl rfl rfl rfl ?_))
     repeat (first|refine q4 tab rfl rfl ?_|refine q5 ?_|refine q6 ?_|refine q8 ?_|refine q9 ?_|refine q15 ?_)
     refine retQ_ret_c tab 0 rfl rfl rfl rfl rfl (L' := L) (by repeat (first|exact List.Sublist.refl _|refine List.Sublist.cons _ ?_)) ⟨hm12, rfl, ?_⟩
     refine ⟨⟨0, [], 0, 0⟩, 0, rfl, .inr ⟨?_, rfl⟩⟩
     rw [tokD, if_pos c1, if_pos (by omega)]
    ·repeat (first|refine q1 ?_|refine q3 ?_|refine q4 tab rfl rfl ?_|refine q6 ?_|refine q13 ?_)
     refine TO.step rfl (OT.sub tab 0 (spanOf lod (c :: r)) rfl rfl rfl rfl rfl rfl rfl (.inl ⟨rfl, rfl⟩) (.inr rfl) (Nat.zero_le _) hsl ?_)
     repeat (refine q4 tab rfl rfl ?_)
     (refine TO.step rfl (OT.storeL0 tab 0 rfl rfl rfl rfl rfl rfl rfl rfl ?_))
     repeat (first|refine q4 tab rfl rfl ?_|refine q5 ?_|refine q6 ?_|refine q8 ?_|refine q9 ?_|refine q15 ?_)
     refine retQ_ret_c tab 0 rfl rfl rfl rfl rfl (L' := L) (by repeat (first|exact List.Sublist.refl _|refine List.Sublist.cons _ ?_)) ⟨hm12, rfl, ?_⟩
     refine ⟨⟨1, (c :: r).take (spanOf lod (c :: r)), 0, 0⟩, spanOf lod (c :: r), rfl, .inl ?_⟩
     rw [List.drop_zero] at k1
     rw [tokD, if_pos c1, if_neg (by omega), if_neg k1]
 ·repeat (first|refine q1 ?_|refine q3 ?_|refine q4 tab rfl rfl ?_)
  refine TO.step rfl (OT.sidx tab 0 rfl rfl rfl rfl rfl rfl rfl hx ?_)
  refine TO.step rfl (OT.call rfl rfl rfl rfl rfl rfl goes59 ((digit_law _ _ c).x ?_));
  rintro _ _ _ ⟨rfl, rfl, rfl⟩
  repeat (first|refine q4 tab rfl rfl ?_|refine q5 ?_|refine q6 ?_)
  refine TC.cond rfl (fun c2 => ?_) (fun c2 => ?_)
  ·repeat (first|refine q1 ?_|refine q3 ?_|refine q4 tab rfl rfl ?_)
   refine TO.step rfl (OT.call rfl rfl rfl rfl rfl rfl goes58 ((either_law _ _).x ?_));
   rintro _ m1 _ ⟨hm1, rfl, e1, e2, rfl, hA1, hA2⟩
   skip
   refine TO.step rfl (OT.call rfl rfl rfl rfl rfl rfl goes57 ((span_law m1 _ (c :: r) (by omega) lod 91 _ ⟨goes91, fun b => either_cl m1 _ b e1 e2 hA1 hA2⟩).x ?_));
   rintro _ _ _ ⟨rfl, rfl, rfl⟩
   repeat (first|refine q1 ?_|refine q3 ?_|refine q4 tab rfl rfl ?_|refine q5 ?_|refine q6 ?_)
   refine TO.step rfl (OT.sub tab 0 (spanOf lod (c :: r)) rfl rfl rfl rfl rfl rfl rfl (.inl ⟨rfl, rfl⟩) (.inr rfl) (Nat.zero_le _) hsl ?_)
   have hp : 0 < spanOf lod (c :: r) := span_pos (by unfold lod; rw [c2]; simp)
   have htk : (c :: r).take (spanOf lod (c :: r)) = c :: r.take (spanOf lod (c :: r) - 1) := by
    obtain ⟨k, hk⟩ : ∃ k, spanOf lod (c :: r) = k + 1 := ⟨spanOf lod (c :: r) - 1, by omega⟩
    rw [hk]; rfl
   rw [List.drop_zero]
   have c1' : ¬ ltr c = true := by rw [c1]; decide
   refine TO.step rfl (OT.call rfl rfl rfl rfl rfl rfl goes62 ((parseInt_law _ _ ((c :: r).take (spanOf lod (c :: r))) (by rw [htk]; simp) (fun x hx => by rw [htk] at hx; cases hx; exact c2) (by rw [List.length_take]; omega) (hE.mono hm1)).x ?_));
   rintro _ m2 _ ⟨hm2, rfl, ⟨v, e1, rfl⟩ | ⟨e1, v, a, b, rfl⟩⟩
   ·repeat (first|refine q1 ?_|refine q3 ?_|refine q4 tab rfl rfl ?_|refine q5 ?_|refine q6 ?_)
    refine TO.step rfl (OT.errNe tab rfl rfl rfl rfl (.inl rfl) rfl rfl ?_)
    repeat (refine q4 tab rfl rfl ?_)
    refine TO.step rfl (OT.sidx tab 0 rfl rfl rfl rfl rfl rfl rfl hx ?_)
    repeat (refine q4 tab rfl rfl ?_)
    (refine TO.splitP rfl rfl (fun c3 => ?_) (fun c3 => ?_))
    ·repeat (refine q4 tab rfl rfl ?_)
     (refine TO.splitP rfl rfl (fun c5 => ?_) (fun c5 => ?_))
     ·skip
      repeat (first|refine q1 ?_|refine q3 ?_|refine q4 tab rfl rfl ?_|refine q5 ?_|refine q6 ?_|refine q16 rfl ?_)
      (refine TO.step rfl (OT.storeL0 tab 0 rfl rfl rfl rfl rfl rfl rfl rfl ?_))
      repeat (first|refine q4 tab rfl rfl ?_|refine q5 ?_|refine q6 ?_|refine q8 ?_|refine q9 ?_|refine q15 ?_)
      refine retQ_ret_c tab 0 rfl rfl rfl rfl rfl (L' := L) (by repeat (first|exact List.Sublist.refl _|refine List.Sublist.cons _ ?_)) ⟨(Mem.le_trans hm1 hm2), rfl, ?_⟩
      refine ⟨⟨0, [], 0, 0⟩, 0, rfl, .inr ⟨?_, rfl⟩⟩
      rw [tokD, if_neg c1', if_pos c2, e1]
      simp only
      rw [if_pos (.inl (by omega))]
     ·skip
      repeat (refine q4 tab rfl rfl ?_)
      refine TO.step rfl (OT.call rfl rfl rfl rfl rfl rfl goes57 ((span_law _ _ (c :: r) (by omega) dgt 59 [] ⟨goes59, fun b => digit_law _ _ b⟩).x ?_));
      rintro _ _ _ ⟨rfl, rfl, rfl⟩
      repeat (first|refine q4 tab rfl rfl ?_|refine q5 ?_|refine q6 ?_)
      refine TC.condN rfl (fun c4 => ?_) (fun c4 => ?_)
      ·skip
       repeat (first|refine q1 ?_|refine q3 ?_|refine q4 tab rfl rfl ?_)
       (refine TO.step rfl (OT.storeL0 tab 0 rfl rfl rfl rfl rfl rfl rfl rfl ?_))
       repeat (first|refine q4 tab rfl rfl ?_|refine q5 ?_|refine q6 ?_|refine q8 ?_|refine q9 ?_|refine q15 ?_)
       refine retQ_ret_c tab 0 rfl rfl rfl rfl rfl (L' := L) (by repeat (first|exact List.Sublist.refl _|refine List.Sublist.cons _ ?_)) ⟨(Mem.le_trans hm1 hm2), rfl, ?_⟩
       refine ⟨⟨0, [], 0, 0⟩, 0, rfl, .inr ⟨?_, rfl⟩⟩
       rw [tokD, if_neg c1', if_pos c2, e1]
       simp only
       rw [if_pos (.inr (by omega))]
      ·repeat (first|refine q1 ?_|refine q3 ?_|refine q4 tab rfl rfl ?_|refine q6 ?_|refine q13 ?_)
       (refine TO.step rfl (OT.storeL0 tab 0 rfl rfl rfl rfl rfl rfl rfl rfl ?_))
       repeat (first|refine q4 tab rfl rfl ?_|refine q5 ?_|refine q6 ?_|refine q8 ?_|refine q9 ?_|refine q15 ?_)
       refine retQ_ret_c tab 0 rfl rfl rfl rfl rfl (L' := L) (by repeat (first|exact List.Sublist.refl _|refine List.Sublist.cons _ ?_)) ⟨Mem.le_trans hm1 hm2, rfl, ?_⟩
       refine ⟨⟨2, [], v, 0⟩, spanOf lod (c :: r), rfl, .inl ?_⟩
       rw [tokD, if_neg c1', if_pos c2, e1]
       simp only
       rw [if_neg (by omega)]
    ·skip
     repeat (refine q4 tab rfl rfl ?_)
     refine TO.step rfl (OT.call rfl rfl rfl rfl rfl rfl goes57 ((span_law _ _ (c :: r) (by omega) dgt 59 [] ⟨goes59, fun b => digit_law _ _ b⟩).x ?_));
     rintro _ _ _ ⟨rfl, rfl, rfl⟩
     repeat (first|refine q4 tab rfl rfl ?_|refine q5 ?_|refine q6 ?_)
     refine TC.condN rfl (fun c4 => ?_) (fun c4 => ?_)
     ·skip
      repeat (first|refine q1 ?_|refine q3 ?_|refine q4 tab rfl rfl ?_)
      (refine TO.step rfl (OT.storeL0 tab 0 rfl rfl rfl rfl rfl rfl rfl rfl ?_))
      repeat (first|refine q4 tab rfl rfl ?_|refine q5 ?_|refine q6 ?_|refine q8 ?_|refine q9 ?_|refine q15 ?_)
      refine retQ_ret_c tab 0 rfl rfl rfl rfl rfl (L' := L) (by repeat (first|exact List.Sublist.refl _|refine List.Sublist.cons _ ?_)) ⟨(Mem.le_trans hm1 hm2), rfl, ?_⟩
      refine ⟨⟨0, [], 0, 0⟩, 0, rfl, .inr ⟨?_, rfl⟩⟩
      rw [tokD, if_neg c1', if_pos c2, e1]
      simp only
      rw [if_pos (.inr (by omega))]
     ·repeat (first|refine q1 ?_|refine q3 ?_|refine q4 tab rfl rfl ?_|refine q6 ?_|refine q13 ?_)
      (refine TO.step rfl (OT.storeL0 tab 0 rfl rfl rfl rfl rfl rfl rfl rfl ?_))
      repeat (first|refine q4 tab rfl rfl ?_|refine q5 ?_|refine q6 ?_|refine q8 ?_|refine q9 ?_|refine q15 ?_)
      refine retQ_ret_c tab 0 rfl rfl rfl rfl rfl (L' := L) (by repeat (first|exact List.Sublist.refl _|refine List.Sublist.cons _ ?_)) ⟨Mem.le_trans hm1 hm2, rfl, ?_⟩
      refine ⟨⟨2, [], v, 0⟩, spanOf lod (c :: r), rfl, .inl ?_⟩
      rw [tokD, if_neg c1', if_pos c2, e1]
      simp only
      rw [if_neg (by omega)]
   ·repeat (first|refine q1 ?_|refine q3 ?_|refine q4 tab rfl rfl ?_|refine q5 ?_|refine q6 ?_)
    refine TO.step rfl (OT.errNe tab rfl rfl rfl rfl (.inr ⟨_, _, rfl⟩) rfl rfl ?_)
    repeat (first|refine q1 ?_|refine q3 ?_|refine q4 tab rfl rfl ?_|refine q5 ?_|refine q6 ?_|refine q16 rfl ?_)
    (refine TO.step rfl (OT.storeL0 tab 0 rfl rfl rfl rfl rfl rfl rfl rfl ?_))
    repeat (first|refine q4 tab rfl rfl ?_|refine q5 ?_|refine q6 ?_|refine q8 ?_|refine q9 ?_|refine q15 ?_)
    refine retQ_ret_c tab 0 rfl rfl rfl rfl rfl (L' := L) (by repeat (first|exact List.Sublist.refl _|refine List.Sublist.cons _ ?_)) ⟨(Mem.le_trans hm1 hm2), rfl, ?_⟩
    refine ⟨⟨0, [], 0, 0⟩, 0, rfl, .inr ⟨?_, rfl⟩⟩
    rw [tokD, if_neg c1', if_pos c2, e1]
  ·repeat (first|refine q1 ?_|refine q3 ?_|refine q4 tab rfl rfl ?_)
   refine TO.step rfl (OT.sidx tab 0 rfl rfl rfl rfl rfl rfl rfl hx ?_)
   repeat (first|refine q4 tab rfl rfl ?_|refine q5 ?_|refine q6 ?_)
   have c1' : ¬ ltr c = true := by rw [c1]; decide
   have c2' : ¬ dgt c = true := by rw [c2]; decide
   refine TC.condP rfl (fun c3 => ?_) (fun c3 => ?_)
   ·repeat (first|refine q1 ?_|refine q3 ?_|refine q4 tab rfl rfl ?_)
    refine TO.step rfl (OT.call rfl rfl rfl rfl rfl rfl goes63 ((literal_law _ _ (c :: r) h0 hl hE).x ?_));
    rintro _ m1 _ ⟨hm1, rfl, rfl⟩
    show TO _ _ _ _ ((_, litR (lit r)) :: _) _ _ _ _
    have hD : tokD (c :: r) = (match lit r with
     | none => none
     | some (t, n) => if 1024 < t.length then none else some (⟨3, t, 0, 0⟩, n + 1)) := by
     rw [tokD, if_neg c1', if_neg c2', if_pos (by omega)]
     try rfl
    rcases hlit : lit r with _ | ⟨t, n⟩
    ·rw [hlit] at hD
     show TO _ _ _ _ ((_, .tuple ⟨[strV [], .int .i64 0]⟩) :: _) _ _ _ _
     repeat (first|refine q1 ?_|refine q3 ?_|refine q4 tab rfl rfl ?_|refine q5 ?_|refine q6 ?_|refine q13 ?_|refine q17 rfl ?_)
     (refine TO.step rfl (OT.storeL0 tab 0 rfl rfl rfl rfl rfl rfl rfl rfl ?_))
     repeat (first|refine q4 tab rfl rfl ?_|refine q5 ?_|refine q6 ?_|refine q8 ?_|refine q9 ?_|refine q15 ?_)
     refine retQ_ret_c tab 0 rfl rfl rfl rfl rfl (L' := L) (by repeat (first|exact List.Sublist.refl _|refine List.Sublist.cons _ ?_)) ⟨hm1, rfl, ?_⟩
     refine ⟨⟨3, [], 0, 0⟩, 0, rfl, .inr ⟨?_, rfl⟩⟩
     rw [hD]
    ·rw [hlit] at hD
     show TO _ _ _ _ ((_, .tuple ⟨[strV t, .int .i64 ((n + 1 : Nat) : Int)]⟩) :: _) _ _ _ _
     repeat (first|refine q1 ?_|refine q3 ?_|refine q4 tab rfl rfl ?_|refine q5 ?_|refine q6 ?_)
     refine TC.condP rfl (fun c4 => ?_) (fun c4 => ?_)
     ·repeat (first|refine q1 ?_|refine q3 ?_|refine q4 tab rfl rfl ?_|refine q5 ?_|refine q6 ?_)
      (refine TO.step rfl (OT.storeL0 tab 0 rfl rfl rfl rfl rfl rfl rfl rfl ?_))
      repeat (first|refine q4 tab rfl rfl ?_|refine q5 ?_|refine q6 ?_|refine q8 ?_|refine q9 ?_|refine q15 ?_)
      refine retQ_ret_c tab 0 rfl rfl rfl rfl rfl (L' := L) (by repeat (first|exact List.Sublist.refl _|refine List.Sublist.cons _ ?_)) ⟨hm1, rfl, ?_⟩
      refine ⟨⟨3, t, 0, 0⟩, 0, rfl, .inr ⟨?_, rfl⟩⟩
      rw [hD]
      simp only
      rw [if_pos (by omega)]
     ·repeat (first|refine q1 ?_|refine q3 ?_|refine q4 tab rfl rfl ?_|refine q6 ?_|refine q13 ?_)
      (refine TO.step rfl (OT.storeL0 tab 0 rfl rfl rfl rfl rfl rfl rfl rfl ?_))
      repeat (first|refine q4 tab rfl rfl ?_|refine q5 ?_|refine q6 ?_|refine q8 ?_|refine q9 ?_|refine q15 ?_)
      refine retQ_ret_c tab 0 rfl rfl rfl rfl rfl (L' := L) (by repeat (first|exact List.Sublist.refl _|refine List.Sublist.cons _ ?_)) ⟨hm1, rfl, ?_⟩
      refine ⟨⟨3, t, 0, 0⟩, n + 1, rfl, .inl ?_⟩
      rw [hD]
      simp only
      rw [if_neg (by omega)]
   ·repeat (first|refine q1 ?_|refine q3 ?_|refine q6 ?_|refine q7 ?_|refine q13 ?_)
    refine TO.step rfl (OT.call rfl rfl rfl rfl rfl rfl goes64 ((marks_law _ _).x ?_));
    rintro _ m1 _ ⟨hm1, rfl, w, rfl, hw⟩
    repeat (first|refine q2 ?_|refine q4 tab rfl rfl ?_|refine q5 ?_|refine q6 ?_)
    have hwl : w.len = 27 := hw.len
    rw [hwl]
    have hD : tokD (c :: r) = (match markL.find? (fun p => prefixB p (c :: r)) with
     | none => none
     | some p => some (⟨4, p, 0, 0⟩, p.length)) := by
     rw [tokD, if_neg c1', if_neg c2', if_neg (by omega)]
     try rfl
    refine TC.loopK (ι := Nat) [0, 2, 84, 85] rfl (fun k => [(86, .int .i64 (k : Int))]) (fun _ => m1) (fun _ => .cells b2 0 (tokC ⟨0, [], 0, 0⟩) :: L) (fun k => k ≤ 27 ∧ markL.find? (fun p => prefixB p (c :: r)) = (markL.drop k).find? (fun p => prefixB p (c :: r))) (fun k => 27 - k) 0 (by repeat (first|exact trivial|refine And.intro rfl ?_)) rfl (by repeat (exact List.Sublist.refl _)) ⟨Nat.zero_le _, rfl⟩ ?_
    rintro k ⟨hk, hI⟩
    have hml : markL.length = 27 := rfl
    repeat (first|refine q1 ?_|refine q3 ?_|refine q4 tab rfl rfl ?_|refine q5 ?_|refine q6 ?_)
    refine TC.condP rfl (fun g1 => ?_) (fun g1 => ?_)
    ·have hlt : k < markL.length := by omega
     have hx : markL[k]? = some markL[k] := by simp [hlt]
     repeat (first|refine q1 ?_|refine q2 ?_|refine q3 ?_|refine q6 ?_|refine q13 ?_)
     refine TO.step rfl (OT.index tab rStr k hw rfl rfl rfl rfl rfl (by first | rfl | omega | (simp only; omega)) rfl hx ?_)
     rintro b i hd rfl hA
     (refine TO.step rfl (OT.loadA0 tab hA rfl rfl rfl rfl rfl ?_))
     repeat (first|refine q1 ?_|refine q3 ?_|refine q4 tab rfl rfl ?_|refine q5 ?_|refine q6 ?_)
     refine TO.step rfl (OT.call rfl rfl rfl rfl rfl rfl goes55 ((prefix_law _ _ (c :: r) markL[k]).x ?_));
     rintro _ _ _ ⟨rfl, rfl, rfl⟩
     repeat (first|refine q5 ?_|refine q6 ?_)
     refine TC.cond rfl (fun g2 => ?_) (fun g2 => ?_)
     ·repeat (first|refine q1 ?_|refine q3 ?_|refine q4 tab rfl rfl ?_)
      (refine TO.step rfl (OT.storeL0 tab 0 rfl rfl rfl rfl rfl rfl rfl rfl ?_))
      repeat (first|refine q4 tab rfl rfl ?_|refine q5 ?_|refine q6 ?_|refine q8 ?_|refine q9 ?_|refine q15 ?_)
      refine retQ_ret_c tab 0 rfl rfl rfl rfl rfl (L' := L) (by repeat (first|exact List.Sublist.refl _|refine List.Sublist.cons _ ?_)) ⟨hm1, rfl, ?_⟩
      refine ⟨⟨4, markL[k], 0, 0⟩, markL[k].length, rfl, .inl ?_⟩
      rw [hD, hI, List.drop_eq_getElem_cons hlt, List.find?_cons_of_pos (p := fun p => prefixB p (c :: r)) g2]
     ·repeat (first|refine q3 ?_|refine q6 ?_|refine q7 ?_|refine q13 ?_)
      refine TO.step rfl (OT.arith (r' := ((k + 1 : Nat) : Int)) rfl rfl rfl rfl rfl rfl rfl (by omega) ?_)
      repeat (first|refine q4 tab rfl rfl ?_|refine q5 ?_|refine q6 ?_)
      exact ⟨k + 1, (by repeat (first|exact trivial|refine And.intro rfl ?_)), (by repeat (first|exact trivial|refine And.intro rfl ?_)), rfl, rfl, (by repeat (exact List.Sublist.refl _)), ⟨by omega, by rw [hI, List.drop_eq_getElem_cons hlt, List.find?_cons_of_neg (p := fun p => prefixB p (c :: r)) (by show ¬ prefixB markL[k] (c :: r) = true; rw [g2]; decide)]⟩, by omega⟩
    ·skip
     repeat (first|refine q1 ?_|refine q3 ?_|refine q4 tab rfl rfl ?_|refine q6 ?_|refine q10 ?_|refine q11 ?_|refine q14 ?_)
     (refine TO.step rfl (OT.storeL0 tab 0 rfl rfl rfl rfl rfl rfl rfl rfl ?_))
     repeat (first|refine q4 tab rfl rfl ?_|refine q5 ?_|refine q6 ?_|refine q15 ?_)
     refine retQ_ret_c tab 0 rfl rfl rfl rfl rfl (L' := L) (by repeat (first|exact List.Sublist.refl _|refine List.Sublist.cons _ ?_)) ⟨hm1, rfl, ?_⟩
     refine ⟨⟨0, [], 0, 0⟩, 0, rfl, .inr ⟨?_, rfl⟩⟩
     rw [hD, hI, List.drop_eq_nil_of_le (by omega)]
     rfl
end Go.Sep


/- ScScanW -/
set_option linter.unusedVariables false
set_option linter.unusedSimpArgs false
namespace Go.Sep
open Go.Proofs
attribute [local irreducible] TC TO OT TCallX TCall DO DOt thenQ blockQ retQ At
def rTok : R Tok Tok where
 size := 4
 bytes := 40
 enc t := tokC t
 rep _ h a := h = a
 enc_len _ := rfl
 one _ := rfl
 mono _ h := h
def joinE (l : List Tok) : Except (Nat × Int) (List Tok) → Except (Nat × Int) (List Tok)
 | .error e => .error e
 | .ok l' => .ok (l ++ l')
def CutAt (s : Str) (at_ : Nat) (l : List Tok) (res : Except (Nat × Int) (List Tok)) : Prop := ∃ f, s.length < at_ + f ∧ res = joinE l (cutF f (s.drop at_) at_ l.length)
theorem CutAt.start (s : Str) : CutAt s 0 [] (cutF (s.length + 1) s 0 0) := by
 refine ⟨s.length + 1, by omega, ?_⟩
 rw [List.drop_zero]
 show _ = joinE [] (cutF (s.length + 1) s 0 0)
 cases cutF (s.length + 1) s 0 0 <;> rfl
section
variable {s : Str} {a : Nat} {l : List Tok} {res : Except (Nat × Int) (List Tok)}
theorem CutAt.pos (h : CutAt s a l res) (ha : a ≤ s.length) : ∃ f, s.length < a + (f + 1) ∧ res = joinE l (cutF (f + 1) (s.drop a) a l.length) := by
 obtain ⟨f, h1, h2⟩ := h
 cases f with
 | zero => omega
 | succ f => exact ⟨f, h1, h2⟩
theorem CutAt.end_ (h : CutAt s a l res) (ha : a ≤ s.length) (hb : a + blk false (s.drop a) = s.length) : res = .ok l := by
 obtain ⟨f, h1, h2⟩ := h.pos ha
 rw [h2, cutF, List.drop_drop, List.drop_eq_nil_of_le (by omega), if_pos rfl]
 simp [joinE]
theorem drop_ne {s : Str} {k : Nat} (h : k < s.length) : s.drop k ≠ [] := fun e => by
 have := congrArg List.length e
 simp at this
 omega
theorem CutAt.large (h : CutAt s a l res) (ha : a ≤ s.length) (hb : a + blk false (s.drop a) < s.length) (hl : l.length = 20000) : res = .error (a + blk false (s.drop a), 4) := by
 obtain ⟨f, h1, h2⟩ := h.pos ha
 rw [h2, cutF, List.drop_drop, if_neg (drop_ne hb), if_pos hl]; rfl
theorem CutAt.text (h : CutAt s a l res) (ha : a ≤ s.length) (hb : a + blk false (s.drop a) < s.length) (hl : l.length ≠ 20000) (ht : tokD (s.drop (a + blk false (s.drop a))) = none) : res = .error (a + blk false (s.drop a), 3) := by
 obtain ⟨f, h1, h2⟩ := h.pos ha
 rw [h2, cutF, List.drop_drop, if_neg (drop_ne hb), if_neg hl, ht]; rfl
theorem CutAt.go (h : CutAt s a l res) (ha : a ≤ s.length) (hb : a + blk false (s.drop a) < s.length) (hl : l.length ≠ 20000) {t : Tok} {n : Nat} (ht : tokD (s.drop (a + blk false (s.drop a))) = some (t, n)) :
  CutAt s (a + blk false (s.drop a) + n) (l ++ [⟨t.kind, t.text, t.num, ((a + blk false (s.drop a) : Nat) : Int)⟩]) res := by
 obtain ⟨f, h1, h2⟩ := h.pos ha
 have hn := (tokD_le ht).1
 refine ⟨f, by omega, ?_⟩
 rw [h2, cutF, List.drop_drop, if_neg (drop_ne hb), if_neg hl, ht]
 simp only [List.drop_drop, List.length_append, List.length_cons, List.length_nil]
 cases cutF f (s.drop (a + blk false (s.drop a) + n)) (a + blk false (s.drop a) + n) (l.length + 1) with
 | error e => rfl
 | ok l' => simp [joinE]
end
structure ScanS where
 m : Mem
 sl : Sl
 l : List Tok
 a : Nat
def ScanR (c : Cut) (r : Value) (m' : Mem) : Prop := ∃ sl : Sl, r = .tuple ⟨[sl.v, .int .i64 ((c.at_ : Nat) : Int), .int .i64 c.e]⟩ ∧ SlRep rTok m' sl c.list
set_option maxHeartbeats 1000000 in
theorem scan_law (m : Mem) (L : List Item) (s : Str) (hE : Errs m) : TCall Tryz.prog 14 ⟨[strV s]⟩ m L (Made m L fun r m' => ScanR (scanD s) r m') := by
 unfold TCall
 refine TCallX.enter Tryz.func14 rfl 44 rfl ?_
 repeat (first|refine q1 ?_|refine q3 ?_|refine q4 tab rfl rfl ?_|refine q5 ?_|refine q6 ?_)
 refine TC.condP rfl (fun c0 => ?_) (fun c0 => ?_)
 ·repeat (first|refine q1 ?_|refine q3 ?_|refine q4 tab rfl rfl ?_|refine q5 ?_|refine q6 ?_|refine q8 ?_|refine q15 ?_)
  refine retQ_ret rfl (by repeat (exact List.Sublist.refl _)) ⟨Mem.le_refl _, rfl, ?_⟩
  rw [scanD, if_pos (by omega)]
  exact ⟨⟨none, 0, 0⟩, rfl, SlRep.nil _ _⟩
 have hl : s.length ≤ 65536 := by omega
 have hD : scanD s = .of (cutF (s.length + 1) s 0 0) := by rw [scanD, if_neg (by omega)]
 repeat (first|refine q2 ?_|refine q6 ?_|refine q13 ?_)
 refine TC.grow0 (size := 4) ?_
 refine TC.loopK (ι := ScanS) [0] rfl (fun x => [(2, x.sl.v), (3, .int .i64 (x.a : Int))]) (fun x => x.m) (fun x => tok x.sl 4 :: L) (fun x => m ≤ x.m ∧ x.a ≤ s.length ∧ SlRep rTok x.m x.sl x.l ∧ Own x.sl ∧ x.l.length ≤ 20000 ∧ CutAt s x.a x.l (cutF (s.length + 1) s 0 0)) (fun x => s.length - x.a) ⟨m, ⟨none, 0, 0⟩, [], 0⟩ (by repeat (first|exact trivial|refine And.intro rfl ?_)) rfl (by repeat (exact List.Sublist.refl _)) ⟨Mem.le_refl _, Nat.zero_le _, SlRep.nil _ _, Own.nil, Nat.zero_le _, CutAt.start s⟩ ?_
 rintro ⟨m1, sl, l, a⟩ ⟨hm, ha, hsl, hown, hll, hI⟩
 replace hm : m ≤ m1 := hm
 replace ha : a ≤ s.length := ha
 replace hsl : SlRep rTok m1 sl l := hsl
 replace hown : Own sl := hown
 replace hll : l.length ≤ 20000 := hll
 replace hI : CutAt s a l (cutF (s.length + 1) s 0 0) := hI
 show TC _ _ _ ((2, sl.v) :: (3, .int .i64 (a : Int)) :: _) _ m1 (tok sl 4 :: L) _
 have hlen := hsl.len
 have hb := blk_le false (s.drop a)
 rw [List.length_drop] at hb
 repeat (first|refine q1 ?_|refine q2 ?_|refine q3 ?_|refine q4 tab rfl rfl ?_)
 refine TO.step rfl (OT.sub tab a s.length rfl rfl rfl rfl rfl rfl rfl (.inr rfl) (.inl ⟨rfl, rfl⟩) (by omega) (by omega) ?_)
 rw [List.take_length]
 refine TO.step rfl (OT.call rfl rfl rfl rfl rfl rfl goes30 ((blank_law _ _ (s.drop a) (by rw [List.length_drop]; omega)).x ?_));
 rintro _ _ _ ⟨rfl, rfl, rfl⟩
 skip
 refine TO.step rfl (OT.arith (r' := ((a + blk false (s.drop a) : Nat) : Int)) rfl rfl rfl rfl rfl rfl rfl (by omega) ?_)
 repeat (first|refine q1 ?_|refine q3 ?_|refine q4 tab rfl rfl ?_|refine q5 ?_|refine q6 ?_)
 refine TC.condP rfl (fun c1 => ?_) (fun c1 => ?_)
 ·repeat (first|refine q1 ?_|refine q3 ?_|refine q4 tab rfl rfl ?_|refine q5 ?_|refine q6 ?_|refine q8 ?_|refine q9 ?_|refine q15 ?_)
  refine retQ_ret rfl (by repeat (first|exact List.Sublist.refl _|refine List.Sublist.cons _ ?_)) ⟨hm, rfl, ?_⟩
  rw [hD, hI.end_ ha (by omega)]
  exact ⟨sl, rfl, hsl⟩
 repeat (first|refine q1 ?_|refine q3 ?_|refine q4 tab rfl rfl ?_|refine q5 ?_|refine q6 ?_|refine q13 ?_)
 refine TC.condP rfl (fun c2 => ?_) (fun c2 => ?_)
 ·repeat (first|refine q1 ?_|refine q3 ?_|refine q4 tab rfl rfl ?_|refine q5 ?_|refine q6 ?_|refine q8 ?_|refine q9 ?_|refine q15 ?_)
  refine retQ_ret rfl (by repeat (first|exact List.Sublist.refl _|refine List.Sublist.cons _ ?_)) ⟨hm, rfl, ?_⟩
  rw [hD, hI.large ha (by omega) (by omega)]
  exact ⟨⟨none, 0, 0⟩, rfl, SlRep.nil _ _⟩
 repeat (first|refine q1 ?_|refine q3 ?_|refine q4 tab rfl rfl ?_|refine q6 ?_|refine q13 ?_)
 refine TO.step rfl (OT.sub tab (a + blk false (s.drop a)) s.length rfl rfl rfl rfl rfl rfl rfl (.inr rfl) (.inl ⟨rfl, rfl⟩) (by omega) (by omega) ?_)
 rw [List.take_length]
 refine TO.step rfl (OT.call rfl rfl rfl rfl rfl rfl goes31 ((next_law _ _ (s.drop (a + blk false (s.drop a))) (by rw [List.length_drop]; omega) (by rw [List.length_drop]; omega) (hE.mono hm)).x ?_));
 rintro _ m2 _ ⟨hm2, rfl, t, n, rfl, hn⟩
 repeat (refine q4 tab rfl rfl ?_)
 refine TO.step rfl (OT.alloc tab rfl rfl rfl rfl (fun b5 => ?_))
 skip
 (refine TO.step rfl (OT.storeL0 tab 0 rfl rfl rfl rfl rfl rfl rfl rfl ?_))
 repeat (first|refine q1 ?_|refine q3 ?_|refine q4 tab rfl rfl ?_|refine q5 ?_|refine q6 ?_)
 rcases hn with hn | ⟨hn, rfl⟩
 ·have hnl := tokD_le hn
  rw [List.length_drop] at hnl
  refine TC.condP rfl (fun c3 => ?_) (fun c3 => ?_)
  ·omega
  repeat (first|refine q1 ?_|refine q3 ?_|refine q4 tab rfl rfl ?_|refine q6 ?_|refine q13 ?_)
  (refine TO.step rfl (OT.storeL tab 0 rfl rfl rfl rfl rfl rfl rfl rfl ?_))
  repeat (first|refine q1 ?_|refine q3 ?_|refine q4 tab rfl rfl ?_|refine q5 ?_|refine q6 ?_)
  (refine qs rfl (qz tab 0 rfl rfl rfl rfl rfl rfl ?_))
  skip
  refine TO.step rfl (OT.lit tab rfl rfl rfl rfl (fun b => ?_))
  refine TO.step rfl (OT.append1 tab rTok 1 (hd' := ⟨t.kind, t.text, t.num, ((a + blk false (s.drop a) : Nat) : Int)⟩) (a := ⟨t.kind, t.text, t.num, ((a + blk false (s.drop a) : Nat) : Int)⟩) (hsl.mono hm2) hown rfl rfl rfl rfl rfl rfl rfl rfl (by show (l.length + 1) * 40 ≤ _; omega) (fun s' m3 hm3 hs3 ho3 => ?_))
  repeat (first|refine q3 ?_|refine q4 tab rfl rfl ?_|refine q5 ?_|refine q6 ?_)
  refine TO.step rfl (OT.arith (r' := ((a + blk false (s.drop a) + n : Nat) : Int)) rfl rfl rfl rfl rfl rfl rfl (by omega) ?_)
  repeat (first|refine q4 tab rfl rfl ?_|refine q5 ?_|refine q6 ?_|refine q7 ?_)
  exact ⟨⟨m3, s', l ++ [⟨t.kind, t.text, t.num, ((a + blk false (s.drop a) : Nat) : Int)⟩], a + blk false (s.drop a) + n⟩, (by repeat (first|exact trivial|refine And.intro rfl ?_)), (by repeat (first|exact trivial|refine And.intro rfl ?_)), rfl, rfl, (by repeat (first|exact List.Sublist.refl _|refine List.Sublist.cons _ ?_)), ⟨Mem.le_trans hm (Mem.le_trans hm2 hm3), by show _ + n ≤ _; omega, hs3, ho3, by show (l ++ [_]).length ≤ _; rw [List.length_append]; simp only [List.length_cons, List.length_nil]; omega, hI.go ha (by omega) (by omega) hn⟩, by show s.length - (_ + n) < s.length - a; omega⟩
 ·repeat (first|refine q1 ?_|refine q3 ?_|refine q4 tab rfl rfl ?_|refine q5 ?_|refine q6 ?_|refine q8 ?_|refine q9 ?_|refine q15 ?_|refine q16 rfl ?_)
  refine retQ_ret rfl (by repeat (first|exact List.Sublist.refl _|refine List.Sublist.cons _ ?_)) ⟨Mem.le_trans hm hm2, rfl, ?_⟩
  rw [hD, hI.text ha (by omega) (by omega) hn]
  exact ⟨⟨none, 0, 0⟩, rfl, SlRep.nil _ _⟩
end Go.Sep

