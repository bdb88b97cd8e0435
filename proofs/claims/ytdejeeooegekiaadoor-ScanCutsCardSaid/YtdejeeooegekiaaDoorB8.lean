/-
  From the reading of the arguments and of the listed variables to the state that the walks start from; and back (the scan seat).
-/
import Derived.Test.YtdejeeooegekiaaDoorCards
import Derived.Test.YtdejeeooegekiaaDoorTie
import Derived.Deep.DeepHandedRow
import Derived.Deep.DeepWitnessRowRef
import Derived.Stop.LaidErr
import Derived.SizedLaws
import Derived.ChangeSame
import Derived.RowKit3
import Derived.ProofKit
import Derived.OpenShut
import Derived.JoinedCond
import Derived.LaidLaws
import Derived.Test.YtdejeeooegekiaaDoorB7
set_option linter.unusedVariables false
set_option linter.unusedSimpArgs false
namespace Go.Sep
open Go.Proofs Go.ChangeShapes Go.WideShapes Go.Proofs.YtdejeeooegekiaaDoor

/-- all that is there at the start -/
def memOf (W : World) : Mem := ⟨W, fun b i => W.cell? ⟨b, i, none⟩, fun _ => none, fun _ => none⟩

theorem St.start (W : World) : St (memOf W) W [] where
  os := rfl
  tape := rfl
  output := rfl
  size := Nat.le_refl _
  pin := fun _ _ => rfl
  c := fun _ _ _ h => h
  o := fun _ _ h => by cases h
  t := fun _ _ h => by cases h
  items := fun _ h => by cases h
  free := fun _ h => by cases h
  disj := List.Pairwise.nil

theorem St.kept {W w' : World} {m' : Mem} {L' : List Item} (h : St m' w' L') (hm : memOf W ≤ m') : W.keptBut w' (fun _ => False) := by
  have hp : m'.pin = W := hm.pin
  have hsz := h.size
  have hpin := h.pin
  rw [hp] at hsz hpin
  refine ⟨by rw [h.os, hp], by rw [h.output, hp], fun i hi => ?_⟩
  rw [hpin i hi]
  split
  · rename_i c t fr c' t' fr' h1 h2
    rw [h1] at h2
    simp only [Option.some.injEq, Obj.cells.injEq] at h2
    obtain ⟨rfl, rfl, rfl⟩ := h2
    exact ⟨rfl, rfl, rfl, fun _ _ => rfl⟩
  · rename_i es c es' c' h1 h2
    rw [h1] at h2
    simp only [Option.some.injEq, Obj.map.injEq] at h2
    obtain ⟨rfl, rfl⟩ := h2
    exact .inr ⟨rfl, rfl⟩
  · rfl
end Go.Sep
namespace Go.Proofs.YtdejeeooegekiaaDoor
open Go.ChangeShapes Go.WideShapes Go.ChangeAt Go.RowKit Go.Sep
open Go.ChangeMaps (open_string shut_string)
theorem own : ownKnob Tryd.prog.godebug = none := by kernel_rfl
theorem cells86 : Tryd.prog.cellsOf 86 = 1 := by kernel_rfl
theorem cells9 : Tryd.prog.cellsOf 9 = 1 := by kernel_rfl
theorem star : "*" ++ "errors.errorString" = "*errors.errorString" := by decide
theorem row84 (u : TypeId) (h : Tryd.prog.typeName? 3 u = some "*errors.errorString") : u = 84 :=
  typeName_ptr_named (nm := "errors.errorString") (by rw [star]; kernel_rfl) (by kernel_rfl) (by decide) u (by rw [star]; exact h)
theorem gSyn : Tryd.prog.globalNamed "strconv.ErrSyntax" = some 1 := by kernel_rfl
theorem gSynT : (Tryd.prog.globals[1]?).map (·.type) = some 52 := by kernel_rfl
theorem gRng : Tryd.prog.globalNamed "strconv.ErrRange" = some 2 := by kernel_rfl
theorem gRngT : (Tryd.prog.globals[2]?).map (·.type) = some 52 := by kernel_rfl

/-- what the rows list -/
def laidL : List (String × DataW Unit) := [("math/bits.deBruijn32tab", Rows.laid_math_bits_deBruijn32tab), ("math/bits.deBruijn64tab", Rows.laid_math_bits_deBruijn64tab), ("internal/strconv.uint64pow10", Rows.laid_internal_strconv_uint64pow10), ("strconv.ErrRange", Rows.laid_strconv_ErrRange), ("strconv.ErrSyntax", Rows.laid_strconv_ErrSyntax)]

theorem errs_of {W : World} (h : laidMetH Tryd.prog laidL W) : Errs (memOf W) := by
  have hL : laidMet Tryd.prog laidL W := h
  obtain ⟨a0, s0, hv0, -, -, -⟩ := laid_sentinel hL.tail.tail.tail gRng gRngT Tryd.underlying52 row84 Tryd.underlying84 Tryd.underlying86 rfl rfl Tryd.underlying9 cells86 cells9
  obtain ⟨a1, s1, hv1, -, -, -⟩ := laid_sentinel hL.tail.tail.tail.tail gSyn gSynT Tryd.underlying52 row84 Tryd.underlying84 Tryd.underlying86 rfl rfl Tryd.underlying9 cells86 cells9
  have c0 : W.cell? ⟨2, 0, none⟩ = some (.iface 84 (.pointer (some a0))) := by simpa using World.var?_cell gRng hv0 0
  have c1 : W.cell? ⟨1, 0, none⟩ = some (.iface 84 (.pointer (some a1))) := by simpa using World.var?_cell gSyn hv1 0
  refine ⟨⟨84, .pointer (some a1), fun j v hj => ?_⟩, ⟨84, .pointer (some a0), fun j v hj => ?_⟩⟩
  · cases j with
    | zero => cases hj; exact c1
    | succ j => simp at hj
  · cases j with
    | zero => cases hj; exact c0
    | succ j => simp at hj

abbrev synS : ByteArray := { data := #[105, 110, 118, 97, 108, 105, 100, 32, 115, 121, 110, 116, 97, 120] }
abbrev rngS : ByteArray := { data := #[118, 97, 108, 117, 101, 32, 111, 117, 116, 32, 111, 102, 32, 114, 97, 110, 103, 101] }
noncomputable def low : Nat := (World.holding Tryd.prog default ⟨#[], #[], []⟩).heap.size
/-- a world in which the listed variables are laid -/
noncomputable def laidWorld (os : Os) : World :=
  let w0 := World.holding Tryd.prog os ⟨#[.cells #[.string synS] 86, .cells #[.string rngS] 86], #[], []⟩
  let put (g : Nat) (vs : Array Value) (h : Array Obj) : Array Obj := h.modify g fun
      | .cells _ t frozen => .cells vs t frozen
      | o => o
  { w0 with heap := put 5 #[.int .u8 0, .int .u8 1, .int .u8 56, .int .u8 2, .int .u8 57, .int .u8 49, .int .u8 28, .int .u8 3, .int .u8 61, .int .u8 58, .int .u8 42, .int .u8 50, .int .u8 38, .int .u8 29, .int .u8 17, .int .u8 4, .int .u8 62, .int .u8 47, .int .u8 59, .int .u8 36, .int .u8 45, .int .u8 43, .int .u8 51, .int .u8 22, .int .u8 53, .int .u8 39, .int .u8 33, .int .u8 30, .int .u8 24, .int .u8 18, .int .u8 12, .int .u8 5, .int .u8 63, .int .u8 55, .int .u8 48, .int .u8 27, .int .u8 60, .int .u8 41, .int .u8 37, .int .u8 16, .int .u8 46, .int .u8 35, .int .u8 44, .int .u8 21, .int .u8 52, .int .u8 32, .int .u8 23, .int .u8 11, .int .u8 54, .int .u8 26, .int .u8 40, .int .u8 15, .int .u8 34, .int .u8 20, .int .u8 31, .int .u8 10, .int .u8 25, .int .u8 14, .int .u8 19, .int .u8 9, .int .u8 13, .int .u8 8, .int .u8 7, .int .u8 6] (put 4 #[.int .u8 0, .int .u8 1, .int .u8 28, .int .u8 2, .int .u8 29, .int .u8 14, .int .u8 24, .int .u8 3, .int .u8 30, .int .u8 22, .int .u8 20, .int .u8 15, .int .u8 25, .int .u8 17, .int .u8 4, .int .u8 8, .int .u8 31, .int .u8 27, .int .u8 13, .int .u8 23, .int .u8 21, .int .u8 19, .int .u8 16, .int .u8 7, .int .u8 26, .int .u8 12, .int .u8 18, .int .u8 6, .int .u8 11, .int .u8 5, .int .u8 10, .int .u8 9] (put 3 #[.int .u64 1, .int .u64 10, .int .u64 100, .int .u64 1000, .int .u64 10000, .int .u64 100000, .int .u64 1000000, .int .u64 10000000, .int .u64 100000000, .int .u64 1000000000, .int .u64 10000000000, .int .u64 100000000000, .int .u64 1000000000000, .int .u64 10000000000000, .int .u64 100000000000000, .int .u64 1000000000000000, .int .u64 10000000000000000, .int .u64 100000000000000000, .int .u64 1000000000000000000, .int .u64 10000000000000000000] (put 2 #[.iface 84 (.pointer (some ⟨low + 1, 0, none⟩))] (put 1 #[.iface 84 (.pointer (some ⟨low, 0, none⟩))] w0.heap)))) }

theorem laid_met (os : Os) (args : Array Value) : laidMet Tryd.prog laidL ((laidWorld os).forCall (fun _ _ => 0) ⟨#[], args, []⟩).memory :=
  laidMet_of_run' 8 (by kernel_rfl) (by kernel_rfl)

/-- behind the call all is as1 it was; what is new may be frozen -/
theorem post_old {H : Type} {enc : TypeId × Value → H} {f : Func} {s : ChangeSpec} {apart fresh handsOn : Bool} {W W' : World} {args : Array Value} {v : Value} {ds gs : List (DataW H)} {before pa pv : List MemPlace}
    (hW : DataW.Whole enc Tryd.prog f.params.toList s.vars apart W args.toList ds gs before)
    (hres : ∀ (b : Nat) (sp : Nat → Bool) (hd : Bool), DataW.TrodAll enc Tryd.prog W' b sp hd f.resultTypes.toList (v.resultList f.resultTypes.size) (s.fn H (ds ++ gs)).results [])
    (hargs : ∀ sp : Nat → Bool, (∀ p ∈ before, sp p.block = true) → DataW.TrodAll enc Tryd.prog W' 0 sp true f.params.toList args.toList (s.fn H (ds ++ gs)).args pa)
    (hvars : ∀ sp : Nat → Bool, (∀ p ∈ before, sp p.block = true) → DataW.TrodVars enc Tryd.prog W' sp s.vars (s.fn H (ds ++ gs)).vars pv)
    (hk : W.keptBut W' (fun _ => False)) : s.post enc Tryd.prog f apart fresh handsOn false W args v W' := by
  have hold : ∀ p ∈ before, (fun b => decide (b < W.heap.size)) p.block = true := fun p hp => by simpa using hW.lt p hp
  exact ⟨ds, gs, before, [], pa, pv, hW, hres _ _ _, hargs _ hold, hvars _ hold, World.keptBut_mono (fun _ hp => hp.elim) hk, fun h => by cases h⟩

set_option maxRecDepth 100000 in
/-- a law over a string -/
theorem lawS {f : FuncId} {fn : Func} {s : ChangeSpec} (hvars : s.vars = []) (hpar : fn.params = #[9]) (hres : fn.resultTypes = #[4])
    (hfn : ∀ (H : Type) (d : DataW H), s.fn H [d] = { results := [.lit (.bool true)], args := [d] }) (ok : Str → Prop)
    (hT : ∀ (m : Mem) (L : List Sep.Item) (t : Str), Errs m → ok t → TCall Tryd.prog f ⟨[strV t]⟩ m L (Made m L fun r _ => r = .bool true))
    {fresh handsOn : Bool} (H : Type) (enc : TypeId × Value → H) (W : World) (base : Nat) (args : Array Value) (ds gs : List (DataW H)) (before : List MemPlace)
    (hval : ∀ (j : Nat) t v, fn.params[j]? = some t → args[j]? = some v → Value.okWide Tryd.prog W .any base t v)
    (hW : DataW.Whole enc Tryd.prog fn.params.toList s.vars false W args.toList ds gs before) (hok : ∀ t : Str, ds ++ gs = [.lit (.string t)] → ok t) (hL : laidMetH Tryd.prog laidL W) :
    Calls Tryd.prog f args W fun e W' => ∃ v, e = .returned v ∧ s.post enc Tryd.prog fn false fresh handsOn false W args v W' := by
  have hW' := hW
  obtain ⟨p, q, hA0, hV, rfl, hfz, hnd⟩ := hW
  rw [hvars] at hV
  obtain ⟨rfl, rfl⟩ := trodVars_none hV
  rw [hpar] at hA0 hval
  obtain ⟨v, d, rfl, rfl, h0⟩ := trodAll_one hA0
  obtain ⟨t, rfl, rfl, rfl, hz⟩ := open_string Tryd.underlying9 (hval 0 9 v rfl rfl) h0
  simp only [List.append_nil] at hW'
  refine (hT (memOf W) [] t.data.toList (errs_of hL) (hok _ rfl) W (St.start W)).mono fun e W' hX => ?_
  cases e with
  | returned r =>
    obtain ⟨m', L', hst, hle, _, rfl⟩ := hX
    refine ⟨_, rfl, post_old (pa := []) (pv := []) hW' (fun _ _ _ => ?_) (fun sp hsp => ?_) (fun _ _ => ?_) (hst.kept hle)⟩
    · rw [hres, show ([.lit (.string t.data.toList)] ++ [] : List (DataW H)) = [.lit (.string t.data.toList)] from rfl, hfn]
      exact trodAll_mk1 (shut_bool Tryd.underlying4 _)
    · rw [hpar, show ([.lit (.string t.data.toList)] ++ [] : List (DataW H)) = [.lit (.string t.data.toList)] from rfl, hfn]
      exact trodAll_mk1 (shut_string Tryd.underlying9 hz)
    · rw [hvars, show ([.lit (.string t.data.toList)] ++ [] : List (DataW H)) = [.lit (.string t.data.toList)] from rfl, hfn]
      rfl
  | panicked ch =>
    obtain ⟨_, _, _, hf⟩ := hX
    exact hf.elim
  | outgrown => exact hX.elim
end Go.Proofs.YtdejeeooegekiaaDoor

/-
  The reference's blanks.
-/
set_option linter.unusedVariables false
set_option linter.unusedSimpArgs false
namespace Go.Sep
open Go.Proofs
attribute [local irreducible] TC TO OT TCallX TCall DO DOt thenQ blockQ retQ At

theorem isSp_iff (c : UInt8) : isSp c = true ↔ (c.toNat = 9 ∨ c.toNat = 10 ∨ c.toNat = 13 ∨ c.toNat = 32) := by
  unfold isSp
  simp only [Bool.or_eq_true, decide_eq_true_eq]
theorem blk_sp {c : UInt8} {r : Str} (h : isSp c = true) : blk false (c :: r) = 1 + blk false r := by rw [blk, if_pos h]
/-- does a remark begin? -/
def remB (s : Str) : Bool := prefixB [47, 47] s
theorem blk_no {c : UInt8} {r : Str} (h : isSp c = false) (h2 : remB (c :: r) = false) : blk false (c :: r) = 0 := by
  rw [blk, if_neg (by rw [h]; decide), if_neg]
  rintro ⟨h3, h4⟩
  refine Bool.eq_false_iff.1 h2 ((prefix_2 _).2 ?_)
  have h5 : c = 47 := UInt8.toNat_inj.1 h3
  cases r with
  | nil => cases h4
  | cons x r => exact ⟨r, by rw [h5]; simp at h4; rw [h4]⟩
theorem blk_re {s : Str} (h : remB s = true) : blk false s = blk true s := by
  obtain ⟨r, rfl⟩ := (prefix_2 _).1 h
  exact blk_rem rfl rfl
theorem remB_at {s : Str} {i : Nat} (h : i < s.length) : remB (s.drop i) = true ↔ (i + 1 < s.length ∧ s[i].toNat = 47 ∧ ∀ h2 : i + 1 < s.length, s[i + 1].toNat = 47) := by
  unfold remB
  rw [prefix_2]
  constructor
  · rintro ⟨r, hr⟩
    have h1 : i + 1 < s.length := by
      have := congrArg List.length hr
      simp at this; omega
    rw [List.drop_eq_getElem_cons h, List.drop_eq_getElem_cons h1] at hr
    simp only [List.cons.injEq] at hr
    exact ⟨h1, by rw [hr.1]; rfl, fun _ => by rw [hr.2.1]; rfl⟩
  · rintro ⟨h1, h2, h3⟩
    refine ⟨s.drop (i + 1 + 1), ?_⟩
    rw [List.drop_eq_getElem_cons h, List.drop_eq_getElem_cons h1]
    have e1 : s[i] = 47 := UInt8.toNat_inj.1 h2
    have e2 : s[i + 1] = 47 := UInt8.toNat_inj.1 (h3 h1)
    rw [e1, e2]
theorem blk_end {s : Str} (h : s = [] ∨ s.head? = some 10) : blk true s = blk false s := by
  cases s with
  | nil => rfl
  | cons c r =>
    rcases h with h | h
    · cases h
    · have hc : c = 10 := by simpa using h
      subst hc
      rw [blk, blk, if_pos (by decide), if_pos (by decide)]
theorem blk_in {c : UInt8} {r : Str} (h : c.toNat ≠ 10) : blk true (c :: r) = 1 + blk true r := by rw [blk, if_neg h]

set_option maxHeartbeats 2000000 in
theorem blanks_ref (m : Mem) (L : List Item) (s : Str) (a : Nat) (ha : a ≤ s.length) (hl : s.length ≤ 70000) : TCall Tryd.prog 19 ⟨[strV s, .int .i64 (a : Int)]⟩ m L (Ret (.int .i64 ((a + blk false (s.drop a) : Nat) : Int)) m L) := by
  unfold TCall
  refine TCallX.enter Tryd.func19 rfl 67 rfl ?_
  repeat (first|refine q1 ?_|refine q2 ?_|refine q3 ?_|refine q4 tab rfl rfl ?_|refine q5 ?_|refine q6 ?_)
  refine TC.loopK (ι := Nat) [0] rfl (fun i => [(1, .int .i64 (i : Int))]) (fun _ => m) (fun _ => L) (fun i => i ≤ s.length ∧ a + blk false (s.drop a) = i + blk false (s.drop i)) (fun i => s.length - i) a (by repeat (first|exact trivial|refine And.intro rfl ?_)) rfl (by repeat (exact List.Sublist.refl _)) ⟨ha, rfl⟩ ?_
  rintro i ⟨hi, hI⟩
  repeat (first|refine q1 ?_|refine q3 ?_|refine q4 tab rfl rfl ?_|refine q5 ?_|refine q6 ?_)
  refine TC.condP rfl (fun g1 => ?_) (fun g1 => ?_)
  · have hlt : i < s.length := by omega
    have hx : s[i]? = some s[i] := by simp [hlt]
    have hd := List.drop_eq_getElem_cons hlt
    repeat (first|refine q1 ?_|refine q2 ?_|refine q6 ?_|refine q13 ?_)
    refine TC.cutT (ι := Bool) [0, 1] rfl (fun v => [(10, .bool v)]) (fun _ => m) (fun _ => L) (fun v => v = isSp s[i]) ?_ (fun v hv => ?_)
    · repeat (first|refine q3 ?_|refine q4 tab rfl rfl ?_)
      refine TO.step rfl (OT.sidx tab i rfl rfl rfl rfl rfl rfl rfl hx ?_)
      repeat (refine q4 tab rfl rfl ?_)
      (refine TO.splitP rfl rfl (fun c1 => ?_) (fun c1 => ?_))
      · repeat (first|refine q4 tab rfl rfl ?_|refine q5 ?_|refine q6 ?_)
        exact ⟨true, (by repeat (first|exact trivial|refine And.intro rfl ?_)), (by repeat (first|exact trivial|refine And.intro rfl ?_)), rfl, rfl, (by repeat (exact List.Sublist.refl _)), ((isSp_iff _).2 (by omega)).symm⟩
      repeat (refine q4 tab rfl rfl ?_)
      refine TO.step rfl (OT.sidx tab i rfl rfl rfl rfl rfl rfl rfl hx ?_)
      repeat (refine q4 tab rfl rfl ?_)
      (refine TO.splitP rfl rfl (fun c2 => ?_) (fun c2 => ?_))
      · repeat (first|refine q4 tab rfl rfl ?_|refine q5 ?_|refine q6 ?_)
        exact ⟨true, (by repeat (first|exact trivial|refine And.intro rfl ?_)), (by repeat (first|exact trivial|refine And.intro rfl ?_)), rfl, rfl, (by repeat (exact List.Sublist.refl _)), ((isSp_iff _).2 (by omega)).symm⟩
      repeat (refine q4 tab rfl rfl ?_)
      refine TO.step rfl (OT.sidx tab i rfl rfl rfl rfl rfl rfl rfl hx ?_)
      repeat (refine q4 tab rfl rfl ?_)
      (refine TO.splitP rfl rfl (fun c3 => ?_) (fun c3 => ?_))
      · repeat (first|refine q4 tab rfl rfl ?_|refine q5 ?_|refine q6 ?_)
        exact ⟨true, (by repeat (first|exact trivial|refine And.intro rfl ?_)), (by repeat (first|exact trivial|refine And.intro rfl ?_)), rfl, rfl, (by repeat (exact List.Sublist.refl _)), ((isSp_iff _).2 (by omega)).symm⟩
      repeat (refine q4 tab rfl rfl ?_)
      refine TO.step rfl (OT.sidx tab i rfl rfl rfl rfl rfl rfl rfl hx ?_)
      repeat (first|refine q4 tab rfl rfl ?_|refine q5 ?_|refine q6 ?_)
      refine ⟨_, (by repeat (first|exact trivial|refine And.intro rfl ?_)), (by repeat (first|exact trivial|refine And.intro rfl ?_)), rfl, rfl, (by repeat (exact List.Sublist.refl _)), ?_⟩
      rw [Bool.eq_iff_iff, isSp_iff, decide_eq_true_iff]
      omega
    subst hv
    skip
    refine TC.cond rfl (fun g2 => ?_) (fun g2 => ?_)
    · repeat (first|refine q3 ?_|refine q4 tab rfl rfl ?_)
      refine TO.step rfl (OT.arith (r' := ((i + 1 : Nat) : Int)) rfl rfl rfl rfl rfl rfl rfl (by omega) ?_)
      repeat (first|refine q4 tab rfl rfl ?_|refine q5 ?_|refine q6 ?_|refine q7 ?_)
      exact ⟨i + 1, (by repeat (first|exact trivial|refine And.intro rfl ?_)), (by repeat (first|exact trivial|refine And.intro rfl ?_)), rfl, rfl, (by repeat (exact List.Sublist.refl _)), ⟨by omega, by rw [hI, hd, blk_sp g2]; omega⟩, by omega⟩
    repeat (refine q1 ?_)
    refine TC.cutT (ι := Bool) [0, 1] rfl (fun v => [(35, .bool v)]) (fun _ => m) (fun _ => L) (fun v => v = remB (s.drop i)) ?_ (fun v hv => ?_)
    · repeat (first|refine q3 ?_|refine q4 tab rfl rfl ?_)
      refine TO.step rfl (OT.arith (r' := ((i + 1 : Nat) : Int)) rfl rfl rfl rfl rfl rfl rfl (by omega) ?_)
      repeat (refine q4 tab rfl rfl ?_)
      (refine TO.splitP rfl rfl (fun c1 => ?_) (fun c1 => ?_))
      · have hlt1 : i + 1 < s.length := by omega
        have hx1 : s[i + 1]? = some s[i + 1] := by simp [hlt1]
        repeat (refine q4 tab rfl rfl ?_)
        refine TO.step rfl (OT.sidx tab i rfl rfl rfl rfl rfl rfl rfl hx ?_)
        repeat (refine q4 tab rfl rfl ?_)
        (refine TO.splitP rfl rfl (fun c2 => ?_) (fun c2 => ?_))
        · repeat (refine q4 tab rfl rfl ?_)
          refine TO.step rfl (OT.arith (r' := ((i + 1 : Nat) : Int)) rfl rfl rfl rfl rfl rfl rfl (by omega) ?_)
          refine TO.step rfl (OT.sidx tab (i + 1) rfl rfl rfl rfl rfl rfl rfl hx1 ?_)
          repeat (first|refine q4 tab rfl rfl ?_|refine q5 ?_|refine q6 ?_)
          refine ⟨_, (by repeat (first|exact trivial|refine And.intro rfl ?_)), (by repeat (first|exact trivial|refine And.intro rfl ?_)), rfl, rfl, (by repeat (exact List.Sublist.refl _)), ?_⟩
          rw [Bool.eq_iff_iff, remB_at hlt, decide_eq_true_iff]
          constructor
          · intro h; exact ⟨hlt1, by omega, fun _ => by omega⟩
          · rintro ⟨_, _, h⟩; have := h hlt1; omega
        · repeat (first|refine q4 tab rfl rfl ?_|refine q5 ?_|refine q6 ?_)
          refine ⟨false, (by repeat (first|exact trivial|refine And.intro rfl ?_)), (by repeat (first|exact trivial|refine And.intro rfl ?_)), rfl, rfl, (by repeat (exact List.Sublist.refl _)), ?_⟩
          symm
          rw [Bool.eq_false_iff]
          intro h
          have := (remB_at hlt).1 h
          omega
      · repeat (first|refine q4 tab rfl rfl ?_|refine q5 ?_|refine q6 ?_)
        refine ⟨false, (by repeat (first|exact trivial|refine And.intro rfl ?_)), (by repeat (first|exact trivial|refine And.intro rfl ?_)), rfl, rfl, (by repeat (exact List.Sublist.refl _)), ?_⟩
        symm
        rw [Bool.eq_false_iff]
        intro h
        have := (remB_at hlt).1 h
        omega
    subst hv
    skip
    refine TC.cond rfl (fun g3 => ?_) (fun g3 => ?_)
    · repeat (refine q2 ?_)
      have hrem := (remB_at hlt).1 g3
      have hb := blk_re g3
      refine TC.loopK (ι := Nat) [0] rfl (fun j => [(1, .int .i64 (j : Int))]) (fun _ => m) (fun _ => L) (fun j => i ≤ j ∧ j ≤ s.length ∧ blk true (s.drop i) = (j - i) + blk true (s.drop j)) (fun j => s.length - j) i (by repeat (first|exact trivial|refine And.intro rfl ?_)) rfl (by repeat (exact List.Sublist.refl _)) ⟨Nat.le_refl _, hi, by omega⟩ ?_
      rintro j ⟨hij, hj, hJ⟩
      repeat (first|refine q1 ?_|refine q3 ?_|refine q4 tab rfl rfl ?_)
      (refine TO.splitP rfl rfl (fun d1 => ?_) (fun d1 => ?_))
      · have hlj : j < s.length := by omega
        have hxj : s[j]? = some s[j] := by simp [hlj]
        have hdj := List.drop_eq_getElem_cons hlj
        repeat (refine q4 tab rfl rfl ?_)
        refine TO.step rfl (OT.sidx tab j rfl rfl rfl rfl rfl rfl rfl hxj ?_)
        repeat (first|refine q4 tab rfl rfl ?_|refine q5 ?_|refine q6 ?_)
        refine TC.condN rfl (fun d2 => ?_) (fun d2 => ?_)
        · repeat (first|refine q2 ?_|refine q3 ?_|refine q4 tab rfl rfl ?_|refine q6 ?_|refine q13 ?_)
          refine TO.step rfl (OT.arith (r' := ((j + 1 : Nat) : Int)) rfl rfl rfl rfl rfl rfl rfl (by omega) ?_)
          repeat (first|refine q4 tab rfl rfl ?_|refine q5 ?_|refine q6 ?_|refine q7 ?_)
          exact ⟨j + 1, (by repeat (first|exact trivial|refine And.intro rfl ?_)), (by repeat (first|exact trivial|refine And.intro rfl ?_)), rfl, rfl, (by repeat (exact List.Sublist.refl _)), ⟨by omega, by omega, by rw [hJ, hdj, blk_in (by omega)]; omega⟩, by omega⟩
        · have hh : s[j] = 10 := UInt8.toNat_inj.1 (by have h10 : (10 : UInt8).toNat = 10 := rfl; omega)
          have hne : j ≠ i := fun e => by subst e; omega
          repeat (first|refine q6 ?_|refine q7 ?_|refine q10 ?_|refine q11 ?_|refine q14 ?_)
          exact ⟨j, (by repeat (first|exact trivial|refine And.intro rfl ?_)), (by repeat (first|exact trivial|refine And.intro rfl ?_)), rfl, rfl, (by repeat (exact List.Sublist.refl _)), ⟨by omega, by rw [hI, hb, hJ, blk_end (.inr (by rw [hdj, hh]; rfl))]; omega⟩, by omega⟩
      · repeat (first|refine q4 tab rfl rfl ?_|refine q5 ?_|refine q6 ?_|refine q7 ?_|refine q10 ?_|refine q11 ?_|refine q14 ?_|refine q17 rfl ?_)
        exact ⟨j, (by repeat (first|exact trivial|refine And.intro rfl ?_)), (by repeat (first|exact trivial|refine And.intro rfl ?_)), rfl, rfl, (by repeat (exact List.Sublist.refl _)), ⟨by omega, by rw [hI, hb, hJ, blk_end (.inl (List.drop_eq_nil_of_le (by omega)))]; omega⟩, by omega⟩
    · repeat (first|refine q1 ?_|refine q3 ?_|refine q4 tab rfl rfl ?_|refine q5 ?_|refine q6 ?_|refine q8 ?_|refine q9 ?_|refine q15 ?_)
      refine retQ_ret rfl (by repeat (exact List.Sublist.refl _)) ⟨rfl, rfl, ?_⟩
      rw [hI, hd, blk_no g2 (by rw [← hd]; exact g3)]; rfl
  · repeat (first|refine q1 ?_|refine q3 ?_|refine q4 tab rfl rfl ?_|refine q5 ?_|refine q6 ?_|refine q10 ?_|refine q11 ?_|refine q14 ?_|refine q15 ?_)
    refine retQ_ret rfl (by repeat (exact List.Sublist.refl _)) ⟨rfl, rfl, ?_⟩
    rw [hI, List.drop_eq_nil_of_le (by omega), blk]; rfl
end Go.Sep

/-
  Plain laws of scanning: quoted texts; what stands ahead of a place.
-/
set_option linter.unusedVariables false
set_option linter.unusedSimpArgs false
namespace Go.Sep

/-! ### quoted texts -/
theorem hexB_all : ∀ n : Fin 256, hexB (hexD (n.val / 16)) (hexD (n.val % 16)) = some (UInt8.ofNat n.val) := by decide +kernel
theorem hexB_hexD (c : UInt8) : hexB (hexD (c.toNat / 16)) (hexD (c.toNat % 16)) = some c := by
  have := hexB_all ⟨c.toNat, c.toNat_lt⟩
  simpa using this
theorem lit_quoteC (c : UInt8) (r : Str) : lit (quoteC c ++ r) = (lit r).map fun p => (c :: p.1, p.2 + (quoteC c).length) := by
  by_cases h1 : c.toNat = 10
  · have hc : c = 10 := UInt8.toNat_inj.1 h1
    rw [qc_nl h1, hc]
    exact (lit_esc_some (c := 92) rfl (esc_n (r := r) rfl))
  by_cases h2 : c.toNat = 9
  · have hc : c = 9 := UInt8.toNat_inj.1 h2
    rw [qc_tab h2, hc]
    exact (lit_esc_some (c := 92) rfl (esc_t (r := r) rfl))
  by_cases h3 : c.toNat = 34 ∨ c.toNat = 92
  · rw [qc_self h3]
    exact (lit_esc_some (c := 92) rfl (esc_self (r := r) h3))
  by_cases h4 : 32 ≤ c.toNat ∧ c.toNat ≤ 126
  · rw [qc_one (by omega) (by omega) h4.1 h4.2]
    exact lit_one (by omega) h1 (by omega)
  · rw [qc_hex h1 h2 (by omega)]
    have he : escB (120 :: hexD (c.toNat / 16) :: hexD (c.toNat % 16) :: r) = some (c, 3) := by rw [esc_x rfl, hexB_hexD]; rfl
    exact lit_esc_some (c := 92) rfl he
theorem lit_quoteB : ∀ (s r : Str), lit (quoteB s ++ 34 :: r) = some (s, (quoteB s).length + 1)
  | [], r => by rw [quoteB, List.flatMap_nil, List.nil_append, lit_quote rfl]; rfl
  | c :: s, r => by
    have hq : quoteB (c :: s) = quoteC c ++ quoteB s := by unfold quoteB; rw [List.flatMap_cons]
    rw [hq, List.append_assoc, lit_quoteC, lit_quoteB s r]
    simp
    omega

theorem tokD_str {r t : Str} {n : Nat} (h : lit r = some (t, n)) : tokD (34 :: r) = if 1024 < t.length then none else some (⟨3, t, 0, 0⟩, n + 1) := by
  have h1 : ¬ ltr 34 = true := by decide
  have h2 : ¬ dgt 34 = true := by decide
  rw [tokD, if_neg h1, if_neg h2, if_pos (by decide), h]
theorem quoteD_len (s : Str) : (quoteD s).length = (quoteB s).length + 2 := by simp [quoteD]
theorem tokD_quote (s : Str) : tokD (quoteD s) = if 1024 < s.length then none else some (⟨3, s, 0, 0⟩, (quoteD s).length) := by
  rw [quoteD, tokD_str (lit_quoteB s [])]
  rw [show (34 :: (quoteB s ++ [34])).length = (quoteB s).length + 1 + 1 by simp]
theorem blk_34 (r : Str) : blk false (34 :: r) = 0 := by
  rw [blk, if_neg (by decide), if_neg (by intro h; exact absurd h.1 (by decide))]
theorem scan_quote (s : Str) (hl : (quoteD s).length ≤ 65536) : scanD (quoteD s) = if 1024 < s.length then ⟨[], 0, 3⟩ else ⟨[⟨3, s, 0, 0⟩], 0, 0⟩ := by
  rw [scanD, if_neg (by omega)]
  have h0 := CutAt.start (quoteD s)
  have hb : blk false ((quoteD s).drop 0) = 0 := by rw [List.drop_zero, quoteD, blk_34]
  have hlen := quoteD_len s
  have ht := tokD_quote s
  by_cases h : 1024 < s.length
  · rw [if_pos h] at ht ⊢
    have := h0.text (Nat.zero_le _) (by rw [hb]; omega) (by decide) (by rw [hb]; exact ht)
    rw [this, hb]; rfl
  · rw [if_neg h] at ht ⊢
    have h1 := h0.go (Nat.zero_le _) (by rw [hb]; omega) (by decide) (by rw [hb]; exact ht)
    rw [hb] at h1
    simp only [Nat.zero_add] at h1
    have := h1.end_ (Nat.le_refl _) (by rw [List.drop_length]; rfl)
    rw [this]; rfl

/-! ### what stands ahead of a place -/
theorem blk_take : ∀ (b : Bool) (r : Str) (j : Nat), blk b r ≤ j → blk b (r.take j) = blk b r
  | _, [], j, _ => by simp [blk]
  | true, c :: r, 0, h => by
    rw [blk] at h
    split at h <;> omega
  | true, c :: r, j + 1, h => by
    rw [List.take_succ_cons, blk, blk]
    rw [blk] at h
    split at h
    · rename_i hc
      rw [if_pos hc, if_pos hc, blk_take false r j (by omega)]
    · rename_i hc
      rw [if_neg hc, if_neg hc, blk_take true r j (by omega)]
  | false, c :: r, 0, h => by
    have : blk false (c :: r) = 0 := by omega
    rw [this]; rfl
  | false, c :: r, j + 1, h => by
    rw [List.take_succ_cons, blk, blk]
    rw [blk] at h
    split at h
    · rename_i hc
      rw [if_pos hc, if_pos hc, blk_take false r j (by omega)]
    · rename_i hc
      rw [if_neg hc, if_neg hc]
      split at h
      · rename_i h2
        have hj : 1 ≤ j := by
          cases r with
          | nil => cases h2.2
          | cons x r =>
            have hx : x = 47 := by have := h2.2; simpa using this
            subst hx
            rw [blk, if_neg (by decide)] at h
            omega
        have hh : (r.take j).head? = r.head? := by
          cases r with
          | nil => simp
          | cons x r =>
            obtain ⟨i, rfl⟩ : ∃ i, j = i + 1 := ⟨j - 1, by omega⟩
            simp
        rw [hh, if_pos h2, if_pos h2, blk_take true r j (by omega)]
      · rename_i h2
        rw [if_neg h2, if_neg]
        rintro ⟨h3, h4⟩
        refine h2 ⟨h3, ?_⟩
        cases j with
        | zero => simp at h4
        | succ i =>
          cases r with
          | nil => simp at h4
          | cons x r => simpa using h4

theorem takeWhile_take (p : UInt8 → Bool) : ∀ (s : Str) (j : Nat), (s.takeWhile p).length ≤ j → ((s.take j).takeWhile p).length = (s.takeWhile p).length
  | [], j, _ => by simp
  | c :: r, 0, h => by
    rw [List.takeWhile_cons] at h ⊢
    split at h
    · simp at h
    · rename_i hc
      rw [if_neg hc]; rfl
  | c :: r, j + 1, h => by
    rw [List.take_succ_cons, List.takeWhile_cons, List.takeWhile_cons]
    rw [List.takeWhile_cons] at h
    split
    · rename_i hc
      rw [if_pos hc] at h
      simp only [List.length_cons] at h ⊢
      rw [takeWhile_take p r j (by omega)]
    · rfl
theorem span_take {p : UInt8 → Bool} {s : Str} {j : Nat} (h : spanOf p s ≤ j) : spanOf p (s.take j) = spanOf p s := takeWhile_take p s j h

theorem escX_take {r : Str} {b : UInt8} {n j : Nat} (h : escX r = some (b, n)) (hj : n ≤ j + 1) : escX (r.take j) = some (b, n) := by
  match r, h with
  | x :: y :: r', h =>
    have h' : (hexB x y).map (fun z => (z, 3)) = some (b, n) := h
    have hn : n = 3 := by
      cases hx : hexB x y with
      | none => rw [hx] at h'; cases h'
      | some z => rw [hx] at h'; cases h'; rfl
    obtain ⟨i, rfl⟩ : ∃ i, j = i + 2 := ⟨j - 2, by omega⟩
    exact h
theorem escB_take {r : Str} {b : UInt8} {n j : Nat} (h : escB r = some (b, n)) (hj : n ≤ j) : escB (r.take j) = some (b, n) := by
  have hp := escB_pos h
  cases r with
  | nil => cases h
  | cons c r =>
    obtain ⟨i, rfl⟩ : ∃ i, j = i + 1 := ⟨j - 1, by omega⟩
    rw [List.take_succ_cons]
    rw [escB] at h ⊢
    by_cases h1 : c.toNat = 110
    · rw [if_pos h1] at h ⊢; exact h
    · rw [if_neg h1] at h ⊢
      by_cases h2 : c.toNat = 116
      · rw [if_pos h2] at h ⊢; exact h
      · rw [if_neg h2] at h ⊢
        by_cases h3 : c.toNat = 34 ∨ c.toNat = 92
        · rw [if_pos h3] at h ⊢; exact h
        · rw [if_neg h3] at h ⊢
          by_cases h4 : c.toNat = 120
          · rw [if_pos h4] at h ⊢; exact escX_take h hj
          · rw [if_neg h4] at h; cases h

theorem lit_take : ∀ (N : Nat) (r t : Str) (n j : Nat), r.length < N → lit r = some (t, n) → n ≤ j → lit (r.take j) = some (t, n)
  | 0, _, _, _, _, h, _, _ => by omega
  | N + 1, [], _, _, _, _, h, _ => by cases h
  | N + 1, c :: r, t, n, j, hN, h, hj => by
    have hp := lit_le h
    simp only [List.length_cons] at hN
    obtain ⟨i, rfl⟩ : ∃ i, j = i + 1 := ⟨j - 1, by omega⟩
    rw [List.take_succ_cons]
    by_cases h1 : c.toNat = 34
    · rw [lit_quote h1] at h ⊢; exact h
    by_cases h2 : c.toNat = 10
    · rw [lit_nl h2] at h; cases h
    by_cases h3 : c.toNat = 92
    · cases he : escB r with
      | none => rw [lit_esc_none h3 he] at h; cases h
      | some p =>
        obtain ⟨b, k⟩ := p
        rw [lit_esc_some h3 he] at h
        cases hl : lit (r.drop k) with
        | none => rw [hl] at h; cases h
        | some q =>
          obtain ⟨t', n'⟩ := q
          rw [hl] at h
          simp only [Option.map_some, Option.some.injEq, Prod.mk.injEq] at h
          have hk := escB_pos he
          have he' := escB_take (j := i) he (by omega)
          rw [lit_esc_some h3 he', List.drop_take, lit_take N (r.drop k) t' n' (i - k) (by rw [List.length_drop]; omega) hl (by omega)]
          simp only [Option.map_some, Option.some.injEq, Prod.mk.injEq]
          exact h
    · cases hl : lit r with
      | none => rw [lit_one h1 h2 h3, hl] at h; cases h
      | some q =>
        obtain ⟨t', n'⟩ := q
        rw [lit_one h1 h2 h3, hl] at h
        simp only [Option.map_some, Option.some.injEq, Prod.mk.injEq] at h
        rw [lit_one h1 h2 h3, lit_take N r t' n' i (by omega) hl (by omega)]
        simp only [Option.map_some, Option.some.injEq, Prod.mk.injEq]
        exact h

theorem prefixB_iff {p s : Str} : prefixB p s = true ↔ p.length ≤ s.length ∧ s.take p.length = p := by
  unfold prefixB
  rw [Bool.and_eq_true, decide_eq_true_iff, decide_eq_true_iff]
theorem find_take {s p : Str} {j : Nat} (hj : p.length ≤ j) : ∀ l : List Str, l.find? (fun q => prefixB q s) = some p → l.find? (fun q => prefixB q (s.take j)) = some p
  | [], h => by cases h
  | q :: l, h => by
    by_cases hq : prefixB q s = true
    · rw [List.find?_cons_of_pos (p := fun q => prefixB q s) hq] at h
      cases h
      refine List.find?_cons_of_pos (p := fun q => prefixB q (s.take j)) (prefixB_iff.2 ?_)
      obtain ⟨h1, h2⟩ := prefixB_iff.1 hq
      refine ⟨by rw [List.length_take]; omega, ?_⟩
      rw [List.take_take, Nat.min_eq_left hj]; exact h2
    · rw [List.find?_cons_of_neg (p := fun q => prefixB q s) hq] at h
      rw [List.find?_cons_of_neg (p := fun q => prefixB q (s.take j))]
      · exact find_take hj l h
      · intro h3
        obtain ⟨h1, h2⟩ := prefixB_iff.1 h3
        rw [List.length_take] at h1
        rw [List.take_take, Nat.min_eq_left (by omega)] at h2
        exact hq (prefixB_iff.2 ⟨by omega, h2⟩)

theorem tokD_take {s : Str} {t : Tok} {n j : Nat} (h : tokD s = some (t, n)) (hj : n ≤ j) : tokD (s.take j) = some (t, n) := by
  have hp := tokD_le h
  cases s with
  | nil => cases h
  | cons c r =>
    obtain ⟨i, rfl⟩ : ∃ i, j = i + 1 := ⟨j - 1, by omega⟩
    have hts : (c :: r).take (i + 1) = c :: r.take i := rfl
    by_cases h1 : ltr c = true
    · have hn : n = spanOf lod (c :: r) := by
        rw [tokD, if_pos h1] at h
        split at h
        · cases h
        · cases h; rfl
      have hsp : spanOf lod ((c :: r).take (i + 1)) = spanOf lod (c :: r) := span_take (by omega)
      have htt : ((c :: r).take (i + 1)).take (spanOf lod (c :: r)) = (c :: r).take (spanOf lod (c :: r)) := by rw [List.take_take, Nat.min_eq_left (by omega)]
      rw [hts] at hsp htt ⊢
      rw [tokD, if_pos h1] at h ⊢
      rw [hsp, htt]; exact h
    · by_cases h2 : dgt c = true
      · have hn : n = spanOf lod (c :: r) ∧ spanOf dgt (c :: r) = spanOf lod (c :: r) := by
          rw [tokD, if_neg h1, if_pos h2] at h
          split at h
          · cases h
          · split at h
            · cases h
            · rename_i h3
              cases h; exact ⟨rfl, by omega⟩
        have hsp : spanOf lod ((c :: r).take (i + 1)) = spanOf lod (c :: r) := span_take (by omega)
        have hsd : spanOf dgt ((c :: r).take (i + 1)) = spanOf dgt (c :: r) := span_take (by omega)
        have htt : ((c :: r).take (i + 1)).take (spanOf lod (c :: r)) = (c :: r).take (spanOf lod (c :: r)) := by rw [List.take_take, Nat.min_eq_left (by omega)]
        rw [hts] at hsp hsd htt ⊢
        rw [tokD, if_neg h1, if_pos h2] at h ⊢
        rw [hsp, hsd, htt]; exact h
      · by_cases h3 : c.toNat = 34
        · rw [hts]
          rw [tokD, if_neg h1, if_neg h2, if_pos h3] at h ⊢
          cases hl : lit r with
          | none => rw [hl] at h; cases h
          | some q =>
            obtain ⟨t', n'⟩ := q
            rw [hl] at h
            simp only at h
            have hn : n = n' + 1 := by
              split at h
              · cases h
              · cases h; rfl
            rw [lit_take (r.length + 1) r t' n' i (by omega) hl (by omega)]
            exact h
        · rw [tokD, if_neg h1, if_neg h2, if_neg h3] at h
          cases hf : markL.find? (fun p => prefixB p (c :: r)) with
          | none => rw [hf] at h; cases h
          | some p =>
            rw [hf] at h
            have hn : n = p.length := by cases h; rfl
            have := find_take (s := c :: r) (p := p) (j := i + 1) (by omega) markL hf
            rw [hts] at this ⊢
            rw [tokD, if_neg h1, if_neg h2, if_neg h3, this]
            exact h

/-- what stands ahead of a fault is tokens -/
theorem cutF_take : ∀ (f : Nat) (r : Str) (at_ k a : Nat), cutF f r at_ k = .error (a, 3) → r.length < f → at_ ≤ a ∧ a - at_ < r.length ∧ ∀ g, a - at_ < g → ∃ l, cutF g (r.take (a - at_)) at_ k = .ok l
  | 0, r, at_, k, a, h, hf => by omega
  | f + 1, r, at_, k, a, h, hf => by
    have hb := blk_le false r
    rw [cutF] at h
    by_cases h1 : r.drop (blk false r) = []
    · rw [if_pos h1] at h; cases h
    · rw [if_neg h1] at h
      have hlt : blk false r < r.length := by
        refine Nat.lt_of_not_le fun hge => h1 (List.drop_eq_nil_of_le hge)
      by_cases h2 : k = 20000
      · rw [if_pos h2] at h
        cases h
      · rw [if_neg h2] at h
        cases ht : tokD (r.drop (blk false r)) with
        | none =>
          rw [ht] at h
          simp only [Except.error.injEq, Prod.mk.injEq, and_true] at h
          subst h
          refine ⟨by omega, by omega, fun g hg => ?_⟩
          rw [show at_ + blk false r - at_ = blk false r by omega]
          cases g with
          | zero => omega
          | succ g =>
            refine ⟨[], ?_⟩
            rw [cutF, blk_take false r _ (Nat.le_refl _), List.drop_eq_nil_of_le (by rw [List.length_take]; omega), if_pos rfl]
        | some p =>
          obtain ⟨t, n⟩ := p
          rw [ht] at h
          simp only at h
          have hn := tokD_le ht
          rw [List.length_drop] at hn
          cases hc : cutF f ((r.drop (blk false r)).drop n) (at_ + blk false r + n) (k + 1) with
          | ok l => rw [hc] at h; cases h
          | error e =>
            rw [hc] at h
            simp only [Except.error.injEq] at h
            subst h
            obtain ⟨g1, g2, g3⟩ := cutF_take f _ _ _ _ hc (by rw [List.length_drop, List.length_drop]; omega)
            rw [List.length_drop, List.length_drop] at g2
            refine ⟨by omega, by omega, fun g hg => ?_⟩
            cases g with
            | zero => omega
            | succ g =>
              have hd : (r.take (a - at_)).drop (blk false r) = (r.drop (blk false r)).take (a - at_ - blk false r) := List.drop_take ..
              obtain ⟨l, hl⟩ := g3 g (by omega)
              have ht' := tokD_take (j := a - at_ - blk false r) ht (by omega)
              refine ⟨⟨t.kind, t.text, t.num, ((at_ + blk false r : Nat) : Int)⟩ :: l, ?_⟩
              rw [cutF, blk_take false r _ (by omega), hd, if_neg, if_neg h2, ht']
              · simp only
                rw [List.drop_take, show a - at_ - blk false r - n = a - (at_ + blk false r + n) by omega, hl]
              · intro e
                rw [e] at ht'
                cases ht'
end Go.Sep

/-
  Plain laws of scanning: places.
-/
set_option linter.unusedVariables false
set_option linter.unusedSimpArgs false
namespace Go.Sep

theorem cutF_ok : ∀ (f : Nat) (r : Str) (at_ k : Nat) (l : List Tok), cutF f r at_ k = .ok l → r.length < f → k ≤ 20000 → l.length + k ≤ 20000 ∧ (∀ t ∈ l, (at_ : Int) ≤ t.at_ ∧ t.at_ < at_ + r.length) ∧ l.Pairwise (fun a b => a.at_ < b.at_)
  | 0, r, at_, k, l, h, hf, hk => by omega
  | f + 1, r, at_, k, l, h, hf, hk => by
    have hb := blk_le false r
    rw [cutF] at h
    by_cases h1 : r.drop (blk false r) = []
    · rw [if_pos h1] at h
      cases h
      exact ⟨by simpa using hk, by simp, List.Pairwise.nil⟩
    · rw [if_neg h1] at h
      have hlt : blk false r < r.length := Nat.lt_of_not_le fun hge => h1 (List.drop_eq_nil_of_le hge)
      by_cases h2 : k = 20000
      · rw [if_pos h2] at h; cases h
      · rw [if_neg h2] at h
        cases ht : tokD (r.drop (blk false r)) with
        | none => rw [ht] at h; cases h
        | some p =>
          obtain ⟨t, n⟩ := p
          rw [ht] at h
          simp only at h
          have hn := tokD_le ht
          rw [List.length_drop] at hn
          cases hc : cutF f ((r.drop (blk false r)).drop n) (at_ + blk false r + n) (k + 1) with
          | error e => rw [hc] at h; cases h
          | ok l' =>
            rw [hc] at h
            cases h
            obtain ⟨g1, g2, g3⟩ := cutF_ok f _ _ _ _ hc (by rw [List.length_drop, List.length_drop]; omega) (by omega)
            have g2' : ∀ t ∈ l', ((at_ + blk false r + n : Nat) : Int) ≤ t.at_ ∧ t.at_ < at_ + r.length := fun t ht => by
              have := g2 t ht
              rw [List.length_drop, List.length_drop] at this
              omega
            refine ⟨by simp only [List.length_cons]; omega, fun t' ht' => ?_, List.pairwise_cons.2 ⟨fun t' ht' => ?_, g3⟩⟩
            · rcases List.mem_cons.1 ht' with rfl | ht'
              · simp only; omega
              · have := g2' t' ht'; omega
            · have := g2' t' ht'
              simp only; omega
theorem cutF_err : ∀ (f : Nat) (r : Str) (at_ k a : Nat) (e : Int), cutF f r at_ k = .error (a, e) → r.length < f → at_ ≤ a ∧ a < at_ + r.length ∧ (e = 3 ∨ e = 4)
  | 0, r, at_, k, a, e, h, hf => by omega
  | f + 1, r, at_, k, a, e, h, hf => by
    have hb := blk_le false r
    rw [cutF] at h
    by_cases h1 : r.drop (blk false r) = []
    · rw [if_pos h1] at h; cases h
    · rw [if_neg h1] at h
      have hlt : blk false r < r.length := Nat.lt_of_not_le fun hge => h1 (List.drop_eq_nil_of_le hge)
      by_cases h2 : k = 20000
      · rw [if_pos h2] at h
        simp only [Except.error.injEq, Prod.mk.injEq] at h
        omega
      · rw [if_neg h2] at h
        cases ht : tokD (r.drop (blk false r)) with
        | none =>
          rw [ht] at h
          simp only [Except.error.injEq, Prod.mk.injEq] at h
          omega
        | some p =>
          obtain ⟨t, n⟩ := p
          rw [ht] at h
          simp only at h
          have hn := tokD_le ht
          rw [List.length_drop] at hn
          cases hc : cutF f ((r.drop (blk false r)).drop n) (at_ + blk false r + n) (k + 1) with
          | ok l => rw [hc] at h; cases h
          | error e' =>
            rw [hc] at h
            simp only [Except.error.injEq] at h
            subst h
            have := cutF_err f _ _ _ _ _ hc (by rw [List.length_drop, List.length_drop]; omega)
            rw [List.length_drop, List.length_drop] at this
            omega
/-- what a text's scan can be -/
theorem scanD_cases (s : Str) : (65536 < s.length ∧ scanD s = ⟨[], 0, 13⟩) ∨
    (s.length ≤ 65536 ∧ ∃ l : List Tok, scanD s = ⟨l, 0, 0⟩ ∧ cutF (s.length + 1) s 0 0 = .ok l ∧ l.length ≤ 20000 ∧ (∀ t ∈ l, 0 ≤ t.at_ ∧ t.at_ < s.length) ∧ l.Pairwise (fun a b => a.at_ < b.at_)) ∨
    (s.length ≤ 65536 ∧ ∃ a e, scanD s = ⟨[], a, e⟩ ∧ a < s.length ∧ (e = 4 ∨ (e = 3 ∧ (scanD (s.take a)).e = 0))) := by
  by_cases hl : 65536 < s.length
  · exact .inl ⟨hl, by rw [scanD, if_pos hl]⟩
  · refine .inr ?_
    have hs : scanD s = .of (cutF (s.length + 1) s 0 0) := by rw [scanD, if_neg hl]
    cases hc : cutF (s.length + 1) s 0 0 with
    | ok l =>
      obtain ⟨h1, h2, h3⟩ := cutF_ok _ _ _ _ _ hc (by omega) (by omega)
      refine .inl ⟨by omega, l, by rw [hs, hc]; rfl, rfl, by omega, fun t ht => ?_, h3⟩
      have := h2 t ht
      omega
    | error x =>
      obtain ⟨a, e⟩ := x
      obtain ⟨h1, h2, h3⟩ := cutF_err _ _ _ _ _ _ hc (by omega)
      refine .inr ⟨by omega, a, e, by rw [hs, hc]; rfl, by omega, ?_⟩
      rcases h3 with rfl | rfl
      · refine .inr ⟨rfl, ?_⟩
        obtain ⟨_, _, h4⟩ := cutF_take _ _ _ _ _ hc (by omega)
        obtain ⟨l, hl2⟩ := h4 (a + 1) (by omega)
        rw [Nat.sub_zero] at hl2
        rw [scanD, if_neg (by rw [List.length_take]; omega), show (s.take a).length = a by rw [List.length_take]; omega, hl2]
        rfl
      · exact .inl rfl
end Go.Sep

/-
  Plain laws of scanning: numbers.
-/
set_option linter.unusedVariables false
set_option linter.unusedSimpArgs false
namespace Go.Sep

/-- the number that digits are -/
def valN : Str → Nat → Nat
  | [], a => a
  | c :: r, a => valN r (a * 10 + (c.toNat - 48))
theorem valN_ge : ∀ (s : Str) (a : Nat), a ≤ valN s a
  | [], a => Nat.le_refl _
  | c :: r, a => by
    have := valN_ge r (a * 10 + (c.toNat - 48))
    rw [valN]; omega
theorem dgt_le {c : UInt8} (h : dgt c = true) : 48 ≤ c.toNat ∧ c.toNat ≤ 57 := of_decide_eq_true h
theorem dv_dgt {c : UInt8} (h : dgt c = true) : dv c = some (c.toNat - 48) := dv_dig (dgt_le h).1 (dgt_le h).2
theorem pU_val : ∀ (s : Str) (a : Nat), s.all dgt = true → valN s a ≤ 18446744073709551615 → pU 10 18446744073709551615 s a = some (valN s a)
  | [], a, _, _ => rfl
  | c :: r, a, h, hv => by
    rw [List.all_cons, Bool.and_eq_true] at h
    have hc := dgt_le h.1
    rw [valN] at hv
    have := valN_ge r (a * 10 + (c.toNat - 48))
    rw [pU, dv_dgt h.1]
    simp only
    rw [if_pos ⟨by omega, by omega⟩, pU_val r _ h.2 hv, valN]
theorem numOf_val {s : Str} (h : s.all dgt = true) (hv : valN s 0 < 9223372036854775808) : numOf s = some (valN s 0) := by
  rw [numOf, pU_val s 0 h (by omega)]
  simp only
  rw [if_pos hv]
theorem dgt_lod {c : UInt8} (h : dgt c = true) : lod c = true := by unfold lod; rw [h]; simp
theorem dgt_nltr {c : UInt8} (h : dgt c = true) : ¬ ltr c = true := by rw [dgt_ltr, h]; simp
theorem all_dgt_lod {s : Str} (h : s.all dgt = true) : s.all lod = true := List.all_eq_true.2 fun x hx => dgt_lod (List.all_eq_true.1 h x hx)
theorem takeWhile_app {p : UInt8 → Bool} : ∀ (s r : Str), s.all p = true → (s ++ r).takeWhile p = s ++ r.takeWhile p
  | [], r, _ => rfl
  | c :: s, r, h => by
    rw [List.all_cons, Bool.and_eq_true] at h
    rw [List.cons_append, List.takeWhile_cons, if_pos h.1, takeWhile_app s r h.2]; rfl
theorem span_app {p : UInt8 → Bool} {s r : Str} (h : s.all p = true) : spanOf p (s ++ r) = s.length + spanOf p r := by
  unfold spanOf
  rw [takeWhile_app s r h, List.length_append]
theorem span_stop {p : UInt8 → Bool} {c : UInt8} {r : Str} (h : p c = false) : spanOf p (c :: r) = 0 := by
  unfold spanOf
  rw [List.takeWhile_cons, if_neg (by rw [h]; decide)]; rfl

/-- decimal digits of a number -/
structure Dec (s : Str) (n : Nat) : Prop where
  pos : s ≠ []
  dig : s.all dgt = true
  val : valN s 0 = n
  lead : s.head? ≠ some 48 ∨ s.length = 1
theorem tok_num {s : Str} {n : Nat} {c : UInt8} {r : Str} (h : Dec s n) (hn : n < 9223372036854775808) (hc : lod c = false) : tokD (s ++ c :: r) = some (⟨2, [], n, 0⟩, s.length) := by
  have hd : dgt c = false := by
    cases hd : dgt c with
    | false => rfl
    | true => rw [dgt_lod hd] at hc; cases hc
  have hs1 : spanOf lod (s ++ c :: r) = s.length := by rw [span_app (all_dgt_lod h.dig), span_stop hc]; omega
  have hs2 : spanOf dgt (s ++ c :: r) = s.length := by rw [span_app h.dig, span_stop hd]; omega
  have ht : (s ++ c :: r).take s.length = s := by simp
  have hnum : numOf s = some n := by rw [numOf_val h.dig (by rw [h.val]; exact hn), h.val]
  have hlead := h.lead
  obtain ⟨x, s', rfl⟩ : ∃ x s', s = x :: s' := by
    cases s with
    | nil => exact absurd rfl h.pos
    | cons x s' => exact ⟨x, s', rfl⟩
  have hdx : dgt x = true := List.all_eq_true.1 h.dig x (by simp)
  rw [List.cons_append] at hs1 hs2 ht ⊢
  rw [tokD, if_neg (dgt_nltr hdx), if_pos hdx, hs1, ht, hnum]
  simp only
  rw [if_neg]
  rintro (⟨h1, h2⟩ | h3)
  · rcases hlead with h4 | h4
    · exact h4 (by rw [List.head?_cons]; congr 1; exact UInt8.toNat_inj.1 h1)
    · omega
  · exact h3 hs2
theorem tok_bad {s : Str} {c : UInt8} {r : Str} (h0 : s ≠ []) (h : s.all dgt = true) (h1 : lod c = true) (h2 : dgt c = false) : tokD (s ++ c :: r) = none := by
  have hs1 : s.length < spanOf lod (s ++ c :: r) := by
    have := span_pos (p := lod) (r := r) h1
    rw [span_app (all_dgt_lod h)]; omega
  have hs2 : spanOf dgt (s ++ c :: r) = s.length := by rw [span_app h, span_stop h2]; omega
  obtain ⟨x, s', rfl⟩ : ∃ x s', s = x :: s' := by
    cases s with
    | nil => exact absurd rfl h0
    | cons x s' => exact ⟨x, s', rfl⟩
  have hdx : dgt x = true := List.all_eq_true.1 h x (by simp)
  rw [List.cons_append] at hs1 hs2 ⊢
  rw [tokD, if_neg (dgt_nltr hdx), if_pos hdx]
  split
  · rfl
  · rw [if_pos (.inr (by omega))]
theorem tok_nought {s : Str} (h0 : s ≠ []) (h : s.all dgt = true) : tokD (48 :: s) = none := by
  have hs1 : spanOf lod (48 :: s) = s.length + 1 := by
    have := span_app (p := lod) (s := 48 :: s) (r := []) (by rw [List.all_cons, all_dgt_lod h]; rfl)
    rw [List.append_nil] at this
    rw [this]; rfl
  have hl : 0 < s.length := List.length_pos_iff.2 h0
  rw [tokD, if_neg (by decide), if_pos (by decide)]
  split
  · rfl
  · rw [if_pos (.inl ⟨rfl, by omega⟩)]

theorem blk_dgt {c : UInt8} {r : Str} (h : dgt c = true) : blk false (c :: r) = 0 := by
  have := dgt_le h
  rw [blk, if_neg, if_neg]
  · rintro ⟨h1, _⟩; omega
  · unfold isSp
    simp only [Bool.or_eq_true, decide_eq_true_eq]
    omega
theorem dec_head {s : Str} {n : Nat} (h : Dec s n) : ∃ x s', s = x :: s' ∧ dgt x = true := by
  cases hs : s with
  | nil => exact absurd hs h.pos
  | cons x s' => exact ⟨x, s', rfl, List.all_eq_true.1 h.dig x (by simp [hs])⟩

theorem scan_num {s : Str} {n : Nat} (h : Dec s n) (hn : n < 9223372036854775808) (hl : s.length ≤ 1000) : scanD (s ++ [43]) = ⟨[⟨2, [], n, 0⟩, ⟨4, [43], 0, s.length⟩], 0, 0⟩ := by
  obtain ⟨x, s', hs, hx⟩ := dec_head h
  have hlen : (s ++ [43]).length = s.length + 1 := by simp
  rw [scanD, if_neg (by omega)]
  have h0 := CutAt.start (s ++ [43])
  have hb : blk false ((s ++ [43]).drop 0) = 0 := by rw [List.drop_zero, hs, List.cons_append, blk_dgt hx]
  have ht := tok_num (c := 43) (r := []) h hn (by decide)
  have h1 := h0.go (Nat.zero_le _) (by rw [hb]; omega) (by decide) (by rw [hb, Nat.add_zero, List.drop_zero]; exact ht)
  rw [hb] at h1
  simp only [Nat.zero_add] at h1
  have hd : (s ++ [43]).drop s.length = [43] := by simp
  have hb2 : blk false ((s ++ [43]).drop s.length) = 0 := by rw [hd]; decide
  have h2 := h1.go (t := ⟨4, [43], 0, 0⟩) (n := 1) (by omega) (by rw [hb2]; omega) (by simp) (by rw [hb2, Nat.add_zero, hd]; decide +kernel)
  rw [hb2] at h2
  have h3 := h2.end_ (by omega) (by rw [List.drop_eq_nil_of_le (by omega), blk]; omega)
  rw [h3]
  rfl
theorem scan_nought {s : Str} {n : Nat} (h : Dec s n) (hl : s.length ≤ 1000) : scanD (97 :: 32 :: 48 :: s) = ⟨[], 2, 3⟩ := by
  have hlen : (97 :: 32 :: 48 :: s).length = s.length + 3 := by simp
  rw [scanD, if_neg (by omega)]
  have h0 := CutAt.start (97 :: 32 :: 48 :: s)
  have hb : blk false ((97 :: 32 :: 48 :: s).drop 0) = 0 := by
    rw [List.drop_zero, blk, if_neg (by decide), if_neg (by rintro ⟨h1, _⟩; revert h1; decide)]
  have hsp : spanOf lod (97 :: 32 :: 48 :: s) = 1 := by
    have := span_app (p := lod) (s := [97]) (r := 32 :: 48 :: s) (by decide)
    rw [span_stop (by decide)] at this
    exact this
  have ht : tokD (97 :: 32 :: 48 :: s) = some (⟨1, [97], 0, 0⟩, 1) := by
    rw [tokD, if_pos (by decide), hsp, if_neg (by decide)]
    rfl
  have h1 := h0.go (Nat.zero_le _) (by rw [hb]; omega) (by decide) (by rw [hb, Nat.add_zero, List.drop_zero]; exact ht)
  rw [hb] at h1
  simp only [Nat.zero_add] at h1
  have hb2 : blk false ((97 :: 32 :: 48 :: s).drop 1) = 1 := by
    show blk false (32 :: 48 :: s) = 1
    rw [blk, if_pos (by decide), blk_dgt (by decide)]
  have h2 := h1.text (by omega) (by rw [hb2]; omega) (by simp) (by rw [hb2]; exact tok_nought h.pos h.dig)
  rw [h2, hb2]
  rfl
theorem scan_behind {s : Str} {n : Nat} (h : Dec s n) (hl : s.length ≤ 1000) : scanD (s ++ [120]) = ⟨[], 0, 3⟩ := by
  obtain ⟨x, s', hs, hx⟩ := dec_head h
  have hlen : (s ++ [120]).length = s.length + 1 := by simp
  rw [scanD, if_neg (by omega)]
  have h0 := CutAt.start (s ++ [120])
  have hb : blk false ((s ++ [120]).drop 0) = 0 := by rw [List.drop_zero, hs, List.cons_append, blk_dgt hx]
  have h2 := h0.text (Nat.zero_le _) (by rw [hb]; omega) (by decide) (by rw [hb]; exact tok_bad h.pos h.dig (by decide) (by decide))
  rw [h2, hb]
  rfl
theorem scan_most : scanD [57, 50, 50, 51, 51, 55, 50, 48, 51, 54, 56, 53, 52, 55, 55, 53, 56, 48, 56] = ⟨[], 0, 3⟩ := by decide +kernel

/-- digits on the way: k is still to come -/
structure DecAt (s : Str) (k n : Nat) : Prop where
  dig : s.all dgt = true
  val : k * 10 ^ s.length + valN s 0 = n
  lead : k = 0 → s ≠ [] → s.head? ≠ some 48 ∨ s.length = 1
theorem valN_app : ∀ (s : Str) (a : Nat), valN s a = a * 10 ^ s.length + valN s 0
  | [], a => by simp [valN]
  | c :: r, a => by
    rw [valN, valN, valN_app r (a * 10 + (c.toNat - 48)), valN_app r (0 * 10 + (c.toNat - 48)), List.length_cons, Nat.pow_succ]
    rw [Nat.zero_mul, Nat.zero_add, Nat.add_mul]
    have : a * 10 * 10 ^ r.length = a * (10 ^ r.length * 10) := by rw [Nat.mul_assoc, Nat.mul_comm 10]
    omega
theorem DecAt.start (n : Nat) : DecAt [] n n := ⟨rfl, by simp [valN], fun _ h => absurd rfl h⟩
theorem dig_lt (k : Nat) : (UInt8.ofNat (48 + k % 10)).toNat = 48 + k % 10 := by
  rw [UInt8.toNat_ofNat', Nat.mod_eq_of_lt (by omega)]
theorem DecAt.step {s : Str} {k n : Nat} (h : DecAt s k n) (hk : 0 < k ∨ s = []) : DecAt (UInt8.ofNat (48 + k % 10) :: s) (k / 10) n := by
  have hd := dig_lt k
  refine ⟨?_, ?_, ?_⟩
  · rw [List.all_cons, h.dig, Bool.and_true]
    unfold dgt
    rw [hd]
    exact decide_eq_true (by omega)
  · rw [valN, valN_app, hd, List.length_cons, Nat.pow_succ, ← h.val, Nat.zero_mul, Nat.zero_add]
    have h1 : 48 + k % 10 - 48 = k % 10 := by omega
    have h2 : k = k / 10 * 10 + k % 10 := by omega
    rw [h1]
    have h3 : k * 10 ^ s.length = k / 10 * (10 ^ s.length * 10) + k % 10 * 10 ^ s.length := by
      conv => lhs; rw [h2, Nat.add_mul]
      rw [Nat.mul_assoc, Nat.mul_comm 10]
    omega
  · intro h0 _
    rcases hk with hk | rfl
    · refine .inl fun e => ?_
      rw [List.head?_cons] at e
      have := congrArg UInt8.toNat (Option.some.inj e)
      rw [hd] at this
      have h48 : (48 : UInt8).toNat = 48 := rfl
      omega
    · exact .inr rfl
theorem DecAt.done {s : Str} {n : Nat} (h : DecAt s 0 n) (hs : s ≠ []) : Dec s n := ⟨hs, h.dig, by have := h.val; omega, h.lead rfl hs⟩
end Go.Sep

/-
  The reference's numbers.
-/
set_option linter.unusedVariables false
set_option linter.unusedSimpArgs false
namespace Go.Sep
open Go.Proofs
attribute [local irreducible] TC TO OT TCallX TCall DO DOt thenQ blockQ retQ At

/-- a number that a text begins with, and how many bytes it takes -/
def numT (s : Str) : Option (Nat × Nat) := match numOf (s.take (spanOf lod s)) with
  | none => none
  | some v => if (s.head? = some 48 ∧ 1 < spanOf lod s) ∨ spanOf dgt s ≠ spanOf lod s then none else some (v, spanOf lod s)
theorem tokD_num {c : UInt8} {r : Str} (h : dgt c = true) : tokD (c :: r) = (numT (c :: r)).map fun p => (⟨2, [], p.1, 0⟩, p.2) := by
  rw [tokD, if_neg (dgt_nltr h), if_pos h, numT]
  cases numOf ((c :: r).take (spanOf lod (c :: r))) with
  | none => rfl
  | some v =>
    simp only [List.head?_cons, Option.some.injEq]
    have : (c.toNat = 48 ∧ 1 < spanOf lod (c :: r)) ↔ (c = 48 ∧ 1 < spanOf lod (c :: r)) :=
      ⟨fun h => ⟨UInt8.toNat_inj.1 h.1, h.2⟩, fun h => ⟨by rw [h.1]; rfl, h.2⟩⟩
    by_cases hc : (c = 48 ∧ 1 < spanOf lod (c :: r)) ∨ spanOf dgt (c :: r) ≠ spanOf lod (c :: r)
    · rw [if_pos hc, if_pos (by rcases hc with hc | hc; exact .inl (this.2 hc); exact .inr hc)]; rfl
    · rw [if_neg hc, if_neg (by intro h; exact hc (by rcases h with h | h; exact .inl (this.1 h); exact .inr h))]; rfl

theorem pU_some : ∀ (s : Str) (a v : Nat), s.all dgt = true → pU 10 18446744073709551615 s a = some v → v = valN s a
  | [], a, v, _, h => by cases h; rfl
  | c :: r, a, v, h, hv => by
    rw [List.all_cons, Bool.and_eq_true] at h
    rw [pU, dv_dgt h.1] at hv
    simp only at hv
    split at hv
    · exact pU_some r _ v h.2 hv
    · cases hv
theorem numOf_big {s : Str} (h : s.all dgt = true) (hv : 9223372036854775808 ≤ valN s 0) : numOf s = none := by
  rw [numOf]
  cases hp : pU 10 18446744073709551615 s 0 with
  | none => rfl
  | some v =>
    have := pU_some s 0 v h hp
    simp only
    rw [if_neg (by omega)]
theorem valN_lo {c : UInt8} {r : Str} (h : 49 ≤ c.toNat) : 10 ^ r.length ≤ valN (c :: r) 0 := by
  rw [valN, valN_app]
  have : 1 * 10 ^ r.length ≤ (0 * 10 + (c.toNat - 48)) * 10 ^ r.length := Nat.mul_le_mul_right _ (by omega)
  omega
theorem valN_hi : ∀ (s : Str) (a : Nat), s.all dgt = true → valN s a < (a + 1) * 10 ^ s.length
  | [], a, _ => by simp [valN]
  | c :: r, a, h => by
    rw [List.all_cons, Bool.and_eq_true] at h
    have hc := dgt_le h.1
    have := valN_hi r (a * 10 + (c.toNat - 48)) h.2
    rw [valN, List.length_cons, Nat.pow_succ]
    have h2 : (a * 10 + (c.toNat - 48) + 1) * 10 ^ r.length ≤ (a + 1) * 10 * 10 ^ r.length := Nat.mul_le_mul_right _ (by omega)
    have h3 : (a + 1) * 10 * 10 ^ r.length = (a + 1) * (10 ^ r.length * 10) := by rw [Nat.mul_assoc, Nat.mul_comm 10]
    omega
theorem valN_snoc (s : Str) (c : UInt8) : valN (s ++ [c]) 0 = valN s 0 * 10 + (c.toNat - 48) := by
  have : ∀ (s : Str) (a : Nat), valN (s ++ [c]) a = valN s a * 10 + (c.toNat - 48) := by
    intro s
    induction s with
    | nil => intro a; rfl
    | cons x s ih => intro a; rw [List.cons_append, valN, valN, ih]
  exact this s 0

theorem span_cons {p : UInt8 → Bool} {c : UInt8} {r : Str} (h : p c = true) : spanOf p (c :: r) = 1 + spanOf p r := by
  unfold spanOf
  rw [List.takeWhile_cons_of_pos h]
  simp; omega
theorem span_le_of {p : UInt8 → Bool} {s : Str} {k : Nat} (h : (s.take k).all p = true) (hk : k ≤ s.length) : k ≤ spanOf p s := by
  have := span_app (p := p) (s := s.take k) (r := s.drop k) h
  rw [List.take_append_drop, List.length_take] at this
  omega
theorem span_eq_of {p : UInt8 → Bool} {s : Str} {k : Nat} (h : (s.take k).all p = true) (hk : k ≤ s.length) (h2 : ∀ x, s[k]? = some x → p x = false) : spanOf p s = k := by
  have h3 := span_app (p := p) (s := s.take k) (r := s.drop k) h
  rw [List.take_append_drop, List.length_take] at h3
  have h4 : spanOf p (s.drop k) = 0 := by
    by_cases hk2 : k < s.length
    · rw [List.drop_eq_getElem_cons hk2]
      exact span_stop (h2 _ (by simp [hk2]))
    · rw [List.drop_eq_nil_of_le (by omega)]; rfl
  omega
theorem take_tw (p : UInt8 → Bool) : ∀ s : Str, s.take (s.takeWhile p).length = s.takeWhile p
  | [] => by simp
  | c :: r => by
    rw [List.takeWhile_cons]
    split
    · rw [List.length_cons, List.take_succ_cons, take_tw p r]
    · rfl
/-- twenty digits are too many -/
theorem numT_many {s : Str} (h : (s.take 20).all dgt = true) (hl : 20 ≤ s.length) : numT s = none := by
  have h20 : 20 ≤ spanOf dgt s := span_le_of h hl
  rw [numT]
  by_cases heq : spanOf dgt s = spanOf lod s
  · have hall : (s.take (spanOf lod s)).all dgt = true := by
      rw [← heq]
      unfold spanOf
      rw [take_tw]
      exact List.all_eq_true.2 fun x hx => by
        have : ∀ (l : Str), x ∈ l.takeWhile dgt → dgt x = true := by
          intro l
          induction l with
          | nil => intro h; cases h
          | cons y l ih =>
            intro h
            rw [List.takeWhile_cons] at h
            split at h
            · rename_i hy
              rcases List.mem_cons.1 h with rfl | h
              · exact hy
              · exact ih h
            · cases h
        exact this s hx
    cases s with
    | nil => simp at hl
    | cons c r =>
      by_cases hc : c = 48
      · split
        · rfl
        · rw [if_pos (.inl ⟨by rw [hc]; rfl, by omega⟩)]
      · have htk : (c :: r).take (spanOf lod (c :: r)) = c :: r.take (spanOf lod (c :: r) - 1) := by
          obtain ⟨k, hk⟩ : ∃ k, spanOf lod (c :: r) = k + 1 := ⟨spanOf lod (c :: r) - 1, by omega⟩
          rw [hk]; rfl
        have hdc : dgt c = true := by
          rw [htk, List.all_cons, Bool.and_eq_true] at hall
          exact hall.1
        have hc48 : 49 ≤ c.toNat := by
          have h1 := dgt_le hdc
          have h2 : c.toNat ≠ 48 := fun e => hc (UInt8.toNat_inj.1 e)
          omega
        have hsl := span_le lod (c :: r)
        have hlo := valN_lo (c := c) (r := r.take (spanOf lod (c :: r) - 1)) hc48
        rw [List.length_take, Nat.min_eq_left (by simp only [List.length_cons] at hsl; omega)] at hlo
        have hp : 10 ^ 19 ≤ 10 ^ (spanOf lod (c :: r) - 1) := Nat.pow_le_pow_right (by decide) (by omega)
        have : numOf ((c :: r).take (spanOf lod (c :: r))) = none := by
          refine numOf_big hall ?_
          rw [htk]
          have e19 : (10 : Nat) ^ 19 = 10000000000000000000 := by decide
          omega
        rw [this]
  · split
    · rfl
    · rw [if_pos (.inr heq)]

structure NumI where
  k : Nat
  n : Nat

def numR (a : Nat) (o : Option (Nat × Nat)) : Value := match o with
  | some (v, n) => .tuple ⟨[.int .i64 (v : Int), .int .i64 ((a + n : Nat) : Int)]⟩
  | none => .tuple ⟨[.int .i64 0, .int .i64 (-1)]⟩

theorem ltr_not_dgt {c : UInt8} (h : ltr c = true) : dgt c = false := by
  rw [dgt_ltr, Bool.and_eq_true] at h
  simpa using h.2

set_option maxHeartbeats 2000000 in
theorem number_ref (m : Mem) (L : List Item) (s : Str) (a : Nat) (ha : a < s.length) (hc : dgt s[a] = true) (hl : s.length ≤ 70000) : TCall Tryd.prog 35 ⟨[strV s, .int .i64 (a : Int)]⟩ m L (Ret (numR a (numT (s.drop a))) m L) := by
  unfold TCall
  refine TCallX.enter Tryd.func35 rfl 62 rfl ?_
  repeat (first|refine q1 ?_|refine q2 ?_|refine q3 ?_|refine q4 tab rfl rfl ?_|refine q5 ?_|refine q6 ?_)
  refine TC.loopK (ι := NumI) [0, 1] rfl (fun x => [(6, .int .i64 ((a + x.k : Nat) : Int)), (7, .int .u64 (x.n : Int))]) (fun _ => m) (fun _ => L) (fun x => a + x.k ≤ s.length ∧ x.k ≤ 19 ∧ ((s.drop a).take x.k).all dgt = true ∧ x.n = valN ((s.drop a).take x.k) 0 ∧ x.n < 10 ^ x.k) (fun x => s.length - (a + x.k)) ⟨0, 0⟩ (by repeat (first|exact trivial|refine And.intro rfl ?_)) rfl (by repeat (exact List.Sublist.refl _)) ⟨by show a + 0 ≤ _; omega, by decide, by simp, by simp [valN], by show (0 : Nat) < 10 ^ 0; decide⟩ ?_
  rintro ⟨k, n⟩ ⟨hk, hk19, hall, hn, hnk⟩
  replace hk : a + k ≤ s.length := hk
  replace hk19 : k ≤ 19 := hk19
  replace hall : ((s.drop a).take k).all dgt = true := hall
  replace hn : n = valN ((s.drop a).take k) 0 := hn
  replace hnk : n < 10 ^ k := hnk
  have hp19 : 10 ^ k ≤ 10 ^ 19 := Nat.pow_le_pow_right (by decide) hk19
  have e19 : (10 : Nat) ^ 19 = 10000000000000000000 := by decide
  show TC _ _ _ ((6, .int .i64 ((a + k : Nat) : Int)) :: (7, .int .u64 (n : Int)) :: _) _ m L _
  repeat (refine q1 ?_)
  refine TC.cutT (ι := Bool) [0, 1, 6, 7] rfl (fun v => [(18, .bool v)]) (fun _ => m) (fun _ => L) (fun v => (v = true → ∃ h : a + k < s.length, dgt s[a + k] = true) ∧ (v = false → ∀ x, (s.drop a)[k]? = some x → dgt x = false)) ?_ (fun v hv => ?_)
  · repeat (first|refine q3 ?_|refine q4 tab rfl rfl ?_)
    (refine TO.splitP rfl rfl (fun g1 => ?_) (fun g1 => ?_))
    · have hlt : a + k < s.length := by omega
      have hx : s[a + k]? = some s[a + k] := by simp [hlt]
      repeat (refine q4 tab rfl rfl ?_)
      refine TO.step rfl (OT.sidx tab (a + k) rfl rfl rfl rfl rfl rfl rfl hx ?_)
      skip
      refine TO.step rfl (OT.call rfl rfl rfl rfl rfl rfl goes27 ((digit_ref _ _ s[a + k]).x ?_));
      rintro _ _ _ ⟨rfl, rfl, rfl⟩
      repeat (first|refine q4 tab rfl rfl ?_|refine q5 ?_|refine q6 ?_)
      refine ⟨_, (by repeat (first|exact trivial|refine And.intro rfl ?_)), (by repeat (first|exact trivial|refine And.intro rfl ?_)), rfl, rfl, (by repeat (exact List.Sublist.refl _)), fun h => ⟨hlt, h⟩, fun h x hx2 => ?_⟩
      rw [List.getElem?_drop, hx] at hx2
      cases hx2
      exact h
    · repeat (first|refine q4 tab rfl rfl ?_|refine q5 ?_|refine q6 ?_)
      refine ⟨false, (by repeat (first|exact trivial|refine And.intro rfl ?_)), (by repeat (first|exact trivial|refine And.intro rfl ?_)), rfl, rfl, (by repeat (exact List.Sublist.refl _)), fun h => (by cases h), fun _ x hx2 => ?_⟩
      rw [List.getElem?_drop, List.getElem?_eq_none (by omega)] at hx2
      cases hx2
  skip
  refine TC.cond rfl (fun g1 => ?_) (fun g1 => ?_)
  · subst g1
    obtain ⟨hlt, hd⟩ := hv.1 rfl
    have hx : s[a + k]? = some s[a + k] := by simp [hlt]
    have hdl := dgt_le hd
    have hlt' : k < (s.drop a).length := by rw [List.length_drop]; omega
    have hget : (s.drop a)[k] = s[a + k] := by simp
    have hall' : ((s.drop a).take (k + 1)).all dgt = true := by
      rw [List.take_succ_eq_append_getElem hlt', List.all_append, hall, hget, List.all_cons, hd]; rfl
    repeat (first|refine q1 ?_|refine q2 ?_|refine q3 ?_|refine q4 tab rfl rfl ?_|refine q6 ?_|refine q13 ?_)
    refine TO.step rfl (OT.arith (r' := ((k : Nat) : Int)) rfl rfl rfl rfl rfl rfl (by omega) (by omega) ?_)
    repeat (first|refine q4 tab rfl rfl ?_|refine q5 ?_|refine q6 ?_)
    refine TC.condP rfl (fun g2 => ?_) (fun g2 => ?_)
    · have h19 : k = 19 := by omega
      subst h19
      repeat (first|refine q1 ?_|refine q3 ?_|refine q4 tab rfl rfl ?_|refine q5 ?_|refine q6 ?_|refine q8 ?_|refine q9 ?_|refine q15 ?_)
      refine retQ_ret rfl (by repeat (exact List.Sublist.refl _)) ⟨rfl, rfl, ?_⟩
      rw [numT_many hall' (by rw [List.length_drop]; omega)]
      rfl
    · have hp18 : 10 ^ k ≤ 10 ^ 18 := Nat.pow_le_pow_right (by decide) (by omega)
      have e18 : (10 : Nat) ^ 18 = 1000000000000000000 := by decide
      repeat (first|refine q1 ?_|refine q3 ?_|refine q4 tab rfl rfl ?_|refine q6 ?_|refine q13 ?_)
      refine TO.step rfl (OT.arithK rfl rfl rfl rfl rfl rfl (r' := ((n * 10 : Nat) : Int)) (by rw [u64_in (by omega) (by omega)]; omega) ?_)
      repeat (refine q4 tab rfl rfl ?_)
      refine TO.step rfl (OT.sidx tab (a + k) rfl rfl rfl rfl rfl rfl rfl hx ?_)
      refine TO.step rfl (OT.arithK rfl rfl rfl rfl rfl rfl (r' := ((s[a + k].toNat - 48 : Nat) : Int)) (by rw [u8_in (by omega) (by omega)]; omega) ?_)
      refine TO.step rfl (OT.conv tab rfl rfl rfl rfl rfl rfl (r := ((s[a + k].toNat - 48 : Nat) : Int)) (u64_in (by omega) (by omega)) ?_)
      refine TO.step rfl (OT.arithK rfl rfl rfl rfl rfl rfl (r' := ((n * 10 + (s[a + k].toNat - 48) : Nat) : Int)) (by rw [u64_in (by omega) (by omega)]; omega) ?_)
      repeat (first|refine q3 ?_|refine q4 tab rfl rfl ?_|refine q5 ?_|refine q6 ?_)
      refine TO.step rfl (OT.arith (r' := ((a + (k + 1) : Nat) : Int)) rfl rfl rfl rfl rfl rfl rfl (by omega) ?_)
      repeat (first|refine q4 tab rfl rfl ?_|refine q5 ?_|refine q6 ?_|refine q7 ?_)
      exact ⟨⟨k + 1, n * 10 + (s[a + k].toNat - 48)⟩, (by repeat (first|exact trivial|refine And.intro rfl ?_)), (by repeat (first|exact trivial|refine And.intro rfl ?_)), rfl, rfl, (by repeat (exact List.Sublist.refl _)), ⟨by show a + (k + 1) ≤ _; omega, by show k + 1 ≤ 19; omega, hall', by show n * 10 + _ = valN ((s.drop a).take (k + 1)) 0; rw [List.take_succ_eq_append_getElem hlt', valN_snoc, hget, ← hn], by show n * 10 + _ < 10 ^ (k + 1); rw [Nat.pow_succ]; omega⟩, by show s.length - (a + (k + 1)) < s.length - (a + k); omega⟩
  · subst g1
    have hstop := hv.2 rfl
    have hsd0 : spanOf dgt (s.drop a) = k := span_eq_of hall (by rw [List.length_drop]; omega) hstop
    have hk0 : k ≠ 0 := fun e => by
      subst e
      have := hstop s[a] (by rw [List.getElem?_drop]; simp [ha])
      rw [hc] at this; cases this
    have hx0 : s[a]? = some s[a] := by simp [ha]
    have hhead : (s.drop a).head? = some s[a] := by rw [List.head?_drop]; exact hx0
    repeat (first|refine q1 ?_|refine q3 ?_|refine q4 tab rfl rfl ?_|refine q6 ?_|refine q10 ?_|refine q11 ?_|refine q14 ?_)
    (refine TO.splitP rfl rfl (fun e1 => ?_) (fun e1 => ?_))
    · repeat (first|refine q1 ?_|refine q3 ?_|refine q4 tab rfl rfl ?_|refine q5 ?_|refine q6 ?_|refine q8 ?_|refine q15 ?_|refine q16 rfl ?_)
      refine retQ_ret rfl (by repeat (exact List.Sublist.refl _)) ⟨rfl, rfl, ?_⟩
      rw [numT]
      by_cases hsl : spanOf lod (s.drop a) = k
      · rw [hsl, numOf_big hall (by omega)]; rfl
      · cases numOf ((s.drop a).take (spanOf lod (s.drop a))) with
        | none => rfl
        | some v => simp only; rw [if_pos (.inr (by omega))]; rfl
    · have hnum : numOf ((s.drop a).take k) = some n := by rw [numOf_val hall (by omega), ← hn]
      have hsd : ¬ spanOf dgt (s.drop a) ≠ k := by omega
      repeat (refine q4 tab rfl rfl ?_)
      refine TO.step rfl (OT.sidx tab a rfl rfl rfl rfl rfl rfl rfl hx0 ?_)
      repeat (refine q4 tab rfl rfl ?_)
      (refine TO.splitP rfl rfl (fun e2 => ?_) (fun e2 => ?_))
      · have h48 : s[a] = 48 := UInt8.toNat_inj.1 (by have h48 : (48 : UInt8).toNat = 48 := rfl; omega)
        repeat (refine q4 tab rfl rfl ?_)
        refine TO.step rfl (OT.arith (r' := ((a + 1 : Nat) : Int)) rfl rfl rfl rfl rfl rfl rfl (by omega) ?_)
        repeat (refine q4 tab rfl rfl ?_)
        (refine TO.splitP rfl rfl (fun e5 => ?_) (fun e5 => ?_))
        · repeat (first|refine q1 ?_|refine q3 ?_|refine q4 tab rfl rfl ?_|refine q5 ?_|refine q6 ?_|refine q8 ?_|refine q15 ?_|refine q16 rfl ?_)
          refine retQ_ret rfl (by repeat (exact List.Sublist.refl _)) ⟨rfl, rfl, ?_⟩
          have hkl : k ≤ spanOf lod (s.drop a) := span_le_of (all_dgt_lod hall) (by rw [List.length_drop]; omega)
          rw [numT]
          cases numOf ((s.drop a).take (spanOf lod (s.drop a))) with
          | none => rfl
          | some v => simp only; rw [if_pos (.inl ⟨by rw [hhead, h48], by omega⟩)]; rfl
        · have hno : (s.drop a).head? = some 48 → 1 < k → False := fun _ _ => by omega
          repeat (refine q4 tab rfl rfl ?_)
          (refine TO.splitP rfl rfl (fun e3 => ?_) (fun e3 => ?_))
          · have hlt2 : a + k < s.length := by omega
            have hx2 : s[a + k]? = some s[a + k] := by simp [hlt2]
            repeat (refine q4 tab rfl rfl ?_)
            refine TO.step rfl (OT.sidx tab (a + k) rfl rfl rfl rfl rfl rfl rfl hx2 ?_)
            skip
            refine TO.step rfl (OT.call rfl rfl rfl rfl rfl rfl goes29 ((letter_ref _ _ s[a + k]).x ?_));
            rintro _ _ _ ⟨rfl, rfl, rfl⟩
            repeat (first|refine q4 tab rfl rfl ?_|refine q5 ?_|refine q6 ?_)
            refine TC.cond rfl (fun e4 => ?_) (fun e4 => ?_)
            · have hsl : spanOf dgt (s.drop a) ≠ spanOf lod (s.drop a) := by
                have h1 : spanOf lod (s.drop a) = k + spanOf lod ((s.drop a).drop k) := by
                  have := span_app (p := lod) (s := (s.drop a).take k) (r := (s.drop a).drop k) (all_dgt_lod hall)
                  rw [List.take_append_drop, List.length_take] at this
                  rw [List.length_drop] at this
                  omega
                have h2 : 0 < spanOf lod ((s.drop a).drop k) := by
                  rw [List.drop_drop, List.drop_eq_getElem_cons hlt2]
                  exact span_pos (by unfold lod; rw [e4]; rfl)
                omega
              repeat (first|refine q1 ?_|refine q3 ?_|refine q4 tab rfl rfl ?_|refine q5 ?_|refine q6 ?_|refine q8 ?_|refine q15 ?_)
              refine retQ_ret rfl (by repeat (exact List.Sublist.refl _)) ⟨rfl, rfl, ?_⟩
              rw [numT]
              cases numOf ((s.drop a).take (spanOf lod (s.drop a))) with
              | none => rfl
              | some v => simp only; rw [if_pos (.inr hsl)]; rfl
            · have hsl : spanOf lod (s.drop a) = k := by
                refine span_eq_of (all_dgt_lod hall) (by rw [List.length_drop]; omega) fun x hx => ?_
                have hnd := hstop x hx
                rw [List.getElem?_drop, hx2] at hx
                cases hx
                unfold lod
                rw [e4, hnd]; rfl
              repeat (first|refine q1 ?_|refine q3 ?_|refine q4 tab rfl rfl ?_|refine q6 ?_|refine q13 ?_)
              refine TO.step rfl (OT.conv tab rfl rfl rfl rfl rfl rfl (r := (n : Int)) (wrap64_in (by omega) (by omega)) ?_)
              repeat (first|refine q4 tab rfl rfl ?_|refine q5 ?_|refine q6 ?_|refine q15 ?_)
              refine retQ_ret rfl (by repeat (exact List.Sublist.refl _)) ⟨rfl, rfl, ?_⟩
              rw [numT, hsl, hnum]
              simp only
              rw [if_neg (by rintro (⟨h1, h2⟩ | h1); exact hno h1 h2; exact hsd h1)]
              rfl
          · have hsl : spanOf lod (s.drop a) = k := by
              refine span_eq_of (all_dgt_lod hall) (by rw [List.length_drop]; omega) fun x hx => ?_
              rw [List.getElem?_drop, List.getElem?_eq_none (by omega)] at hx
              cases hx
            repeat (first|refine q1 ?_|refine q3 ?_|refine q4 tab rfl rfl ?_|refine q5 ?_|refine q6 ?_|refine q13 ?_|refine q17 rfl ?_)
            refine TO.step rfl (OT.conv tab rfl rfl rfl rfl rfl rfl (r := (n : Int)) (wrap64_in (by omega) (by omega)) ?_)
            repeat (first|refine q4 tab rfl rfl ?_|refine q5 ?_|refine q6 ?_|refine q15 ?_)
            refine retQ_ret rfl (by repeat (exact List.Sublist.refl _)) ⟨rfl, rfl, ?_⟩
            rw [numT, hsl, hnum]
            simp only
            rw [if_neg (by rintro (⟨h1, h2⟩ | h1); exact hno h1 h2; exact hsd h1)]
            rfl
      · have hno : (s.drop a).head? = some 48 → 1 < k → False := fun h _ => e2 (by rw [hhead] at h; rw [Option.some.inj h]; rfl)
        repeat (refine q4 tab rfl rfl ?_)
        (refine TO.splitP rfl rfl (fun e3 => ?_) (fun e3 => ?_))
        · have hlt2 : a + k < s.length := by omega
          have hx2 : s[a + k]? = some s[a + k] := by simp [hlt2]
          repeat (refine q4 tab rfl rfl ?_)
          refine TO.step rfl (OT.sidx tab (a + k) rfl rfl rfl rfl rfl rfl rfl hx2 ?_)
          skip
          refine TO.step rfl (OT.call rfl rfl rfl rfl rfl rfl goes29 ((letter_ref _ _ s[a + k]).x ?_));
          rintro _ _ _ ⟨rfl, rfl, rfl⟩
          repeat (first|refine q4 tab rfl rfl ?_|refine q5 ?_|refine q6 ?_)
          refine TC.cond rfl (fun e4 => ?_) (fun e4 => ?_)
          · have hsl : spanOf dgt (s.drop a) ≠ spanOf lod (s.drop a) := by
              have h1 : spanOf lod (s.drop a) = k + spanOf lod ((s.drop a).drop k) := by
                have := span_app (p := lod) (s := (s.drop a).take k) (r := (s.drop a).drop k) (all_dgt_lod hall)
                rw [List.take_append_drop, List.length_take] at this
                rw [List.length_drop] at this
                omega
              have h2 : 0 < spanOf lod ((s.drop a).drop k) := by
                rw [List.drop_drop, List.drop_eq_getElem_cons hlt2]
                exact span_pos (by unfold lod; rw [e4]; rfl)
              omega
            repeat (first|refine q1 ?_|refine q3 ?_|refine q4 tab rfl rfl ?_|refine q5 ?_|refine q6 ?_|refine q8 ?_|refine q15 ?_)
            refine retQ_ret rfl (by repeat (exact List.Sublist.refl _)) ⟨rfl, rfl, ?_⟩
            rw [numT]
            cases numOf ((s.drop a).take (spanOf lod (s.drop a))) with
            | none => rfl
            | some v => simp only; rw [if_pos (.inr hsl)]; rfl
          · have hsl : spanOf lod (s.drop a) = k := by
              refine span_eq_of (all_dgt_lod hall) (by rw [List.length_drop]; omega) fun x hx => ?_
              have hnd := hstop x hx
              rw [List.getElem?_drop, hx2] at hx
              cases hx
              unfold lod
              rw [e4, hnd]; rfl
            repeat (first|refine q1 ?_|refine q3 ?_|refine q4 tab rfl rfl ?_|refine q6 ?_|refine q13 ?_)
            refine TO.step rfl (OT.conv tab rfl rfl rfl rfl rfl rfl (r := (n : Int)) (wrap64_in (by omega) (by omega)) ?_)
            repeat (first|refine q4 tab rfl rfl ?_|refine q5 ?_|refine q6 ?_|refine q15 ?_)
            refine retQ_ret rfl (by repeat (exact List.Sublist.refl _)) ⟨rfl, rfl, ?_⟩
            rw [numT, hsl, hnum]
            simp only
            rw [if_neg (by rintro (⟨h1, h2⟩ | h1); exact hno h1 h2; exact hsd h1)]
            rfl
        · have hsl : spanOf lod (s.drop a) = k := by
            refine span_eq_of (all_dgt_lod hall) (by rw [List.length_drop]; omega) fun x hx => ?_
            rw [List.getElem?_drop, List.getElem?_eq_none (by omega)] at hx
            cases hx
          repeat (first|refine q1 ?_|refine q3 ?_|refine q4 tab rfl rfl ?_|refine q5 ?_|refine q6 ?_|refine q13 ?_|refine q17 rfl ?_)
          refine TO.step rfl (OT.conv tab rfl rfl rfl rfl rfl rfl (r := (n : Int)) (wrap64_in (by omega) (by omega)) ?_)
          repeat (first|refine q4 tab rfl rfl ?_|refine q5 ?_|refine q6 ?_|refine q15 ?_)
          refine retQ_ret rfl (by repeat (exact List.Sublist.refl _)) ⟨rfl, rfl, ?_⟩
          rw [numT, hsl, hnum]
          simp only
          rw [if_neg (by rintro (⟨h1, h2⟩ | h1); exact hno h1 h2; exact hsd h1)]
          rfl
end Go.Sep

/-
  The reference's strings.
-/
set_option linter.unusedVariables false
set_option linter.unusedSimpArgs false
namespace Go.Sep
open Go.Proofs
attribute [local irreducible] TC TO OT TCallX TCall DO DOt thenQ blockQ retQ At

def hexV (c : UInt8) : Int :=
  if 48 ≤ c.toNat ∧ c.toNat ≤ 57 then ((c.toNat - 48 : Nat) : Int)
  else if 97 ≤ c.toNat ∧ c.toNat ≤ 102 then ((c.toNat - 97 + 10 : Nat) : Int)
  else if 65 ≤ c.toNat ∧ c.toNat ≤ 70 then ((c.toNat - 65 + 10 : Nat) : Int) else -1
theorem hexV_all : ∀ n : Fin 256, (match dv (UInt8.ofNat n.val) with
    | none => decide (hexV (UInt8.ofNat n.val) = -1)
    | some d => if d < 16 then decide (hexV (UInt8.ofNat n.val) = (d : Int)) else decide (hexV (UInt8.ofNat n.val) = -1)) = true := by decide +kernel
theorem hexV_dv (c : UInt8) : (∃ d, d < 16 ∧ dv c = some d ∧ hexV c = (d : Int)) ∨ (hexV c = -1 ∧ (dv c = none ∨ ∃ d, 16 ≤ d ∧ dv c = some d)) := by
  have h := hexV_all ⟨c.toNat, c.toNat_lt⟩
  simp only [UInt8.ofNat_toNat] at h
  cases hd : dv c with
  | none => rw [hd] at h; exact .inr ⟨of_decide_eq_true h, .inl rfl⟩
  | some d =>
    rw [hd] at h
    simp only at h
    split at h
    · exact .inl ⟨d, by assumption, rfl, of_decide_eq_true h⟩
    · exact .inr ⟨of_decide_eq_true h, .inr ⟨d, by omega, rfl⟩⟩
theorem pU_bad {c : UInt8} {r : Str} {n : Nat} (h : hexV c = -1) : pU 16 255 (c :: r) n = none := by
  rcases hexV_dv c with ⟨d, _, _, h2⟩ | ⟨_, h2 | ⟨d, h2, h3⟩⟩
  · omega
  · rw [pU, h2]
  · rw [pU, h3]
    simp only
    rw [if_neg (by omega)]
theorem hexB_none1 {a b : UInt8} (h : hexV a < 0) : hexB a b = none := by
  rw [hexB, pU_bad (by rcases hexV_dv a with ⟨d, _, _, h2⟩ | ⟨h2, _⟩ <;> omega)]; rfl
theorem hexB_none2 {a b : UInt8} (h : ¬ hexV a < 0) (h2 : hexV b < 0) : hexB a b = none := by
  rcases hexV_dv a with ⟨d, h3, h4, h5⟩ | ⟨h3, _⟩
  · rw [hexB, pU, h4]
    simp only
    rw [if_pos ⟨h3, by omega⟩, pU_bad (by rcases hexV_dv b with ⟨d, _, _, h2⟩ | ⟨h2, _⟩ <;> omega)]; rfl
  · omega
theorem hexB_some {a b : UInt8} (h : ¬ hexV a < 0) (h2 : ¬ hexV b < 0) : ∃ x : UInt8, hexB a b = some x ∧ (x.toNat : Int) = hexV a * 16 + hexV b := by
  rcases hexV_dv a with ⟨d, h3, h4, h5⟩ | ⟨h3, _⟩
  · rcases hexV_dv b with ⟨e, g3, g4, g5⟩ | ⟨g3, _⟩
    · refine ⟨UInt8.ofNat (d * 16 + e), ?_, ?_⟩
      · rw [hexB, pU, h4]
        simp only
        rw [if_pos ⟨h3, by omega⟩, pU, g4]
        simp only
        rw [if_pos ⟨g3, by omega⟩, Nat.zero_mul, Nat.zero_add]; rfl
      · rw [UInt8.toNat_ofNat', Nat.mod_eq_of_lt (by omega), h5, g5]; omega
    · omega
  · omega

set_option maxHeartbeats 1000000 in
theorem hexValue_ref (m : Mem) (L : List Item) (c : UInt8) : TCall Tryd.prog 47 ⟨[byteV c]⟩ m L (Ret (.int .i64 (hexV c)) m L) := by
  have hc : c.toNat < 256 := c.toNat_lt
  unfold TCall
  refine TCallX.enter Tryd.func47 rfl 31 rfl ?_
  repeat (first|refine q1 ?_|refine q2 ?_|refine q3 ?_|refine q4 tab rfl rfl ?_|refine q5 ?_|refine q6 ?_)
  refine TO.step rfl (OT.call rfl rfl rfl rfl rfl rfl goes27 ((digit_ref _ _ c).x ?_));
  rintro _ _ _ ⟨rfl, rfl, rfl⟩
  repeat (first|refine q4 tab rfl rfl ?_|refine q5 ?_|refine q6 ?_)
  refine TC.cond rfl (fun c1 => ?_) (fun c1 => ?_)
  · have h1 := dgt_le c1
    repeat (first|refine q1 ?_|refine q3 ?_|refine q4 tab rfl rfl ?_)
    refine TO.step rfl (OT.arithK rfl rfl rfl rfl rfl rfl (r' := ((c.toNat - 48 : Nat) : Int)) (by rw [u8_in (by omega) (by omega)]; omega) ?_)
    refine TO.step rfl (OT.conv tab rfl rfl rfl rfl rfl rfl (r := ((c.toNat - 48 : Nat) : Int)) (wrap64_in (by omega) (by omega)) ?_)
    repeat (first|refine q4 tab rfl rfl ?_|refine q5 ?_|refine q6 ?_|refine q8 ?_|refine q9 ?_|refine q15 ?_)
    refine retQ_ret rfl (by repeat (exact List.Sublist.refl _)) ⟨rfl, rfl, ?_⟩
    rw [hexV, if_pos h1]
  have h1 : ¬ (48 ≤ c.toNat ∧ c.toNat ≤ 57) := fun h => by
    have : dgt c = true := decide_eq_true h
    rw [this] at c1; cases c1
  repeat (refine q1 ?_)
  refine TC.cutT (ι := Bool) [0] rfl (fun v => [(9, .bool v)]) (fun _ => m) (fun _ => L) (fun v => v = decide (97 ≤ c.toNat ∧ c.toNat ≤ 102)) ?_ (fun v hv => ?_)
  · repeat (first|refine q3 ?_|refine q4 tab rfl rfl ?_)
    (refine TO.splitP rfl rfl (fun c2 => ?_) (fun c2 => ?_))
    · repeat (first|refine q4 tab rfl rfl ?_|refine q5 ?_|refine q6 ?_)
      refine ⟨_, (by repeat (first|exact trivial|refine And.intro rfl ?_)), (by repeat (first|exact trivial|refine And.intro rfl ?_)), rfl, rfl, (by repeat (exact List.Sublist.refl _)), ?_⟩
      rw [Bool.eq_iff_iff, decide_eq_true_iff, decide_eq_true_iff]; omega
    · repeat (first|refine q4 tab rfl rfl ?_|refine q5 ?_|refine q6 ?_)
      refine ⟨false, (by repeat (first|exact trivial|refine And.intro rfl ?_)), (by repeat (first|exact trivial|refine And.intro rfl ?_)), rfl, rfl, (by repeat (exact List.Sublist.refl _)), ?_⟩
      symm; exact decide_eq_false (by omega)
  subst hv
  skip
  refine TC.condP rfl (fun c2 => ?_) (fun c2 => ?_)
  · repeat (first|refine q1 ?_|refine q3 ?_|refine q4 tab rfl rfl ?_)
    refine TO.step rfl (OT.arithK rfl rfl rfl rfl rfl rfl (r' := ((c.toNat - 97 : Nat) : Int)) (by rw [u8_in (by omega) (by omega)]; omega) ?_)
    refine TO.step rfl (OT.conv tab rfl rfl rfl rfl rfl rfl (r := ((c.toNat - 97 : Nat) : Int)) (wrap64_in (by omega) (by omega)) ?_)
    refine TO.step rfl (OT.arith (r' := ((c.toNat - 97 + 10 : Nat) : Int)) rfl rfl rfl rfl rfl rfl rfl (by omega) ?_)
    repeat (first|refine q4 tab rfl rfl ?_|refine q5 ?_|refine q6 ?_|refine q8 ?_|refine q9 ?_|refine q15 ?_)
    refine retQ_ret rfl (by repeat (exact List.Sublist.refl _)) ⟨rfl, rfl, ?_⟩
    rw [hexV, if_neg h1, if_pos c2]
  repeat (refine q1 ?_)
  refine TC.cutT (ι := Bool) [0] rfl (fun v => [(20, .bool v)]) (fun _ => m) (fun _ => L) (fun v => v = decide (65 ≤ c.toNat ∧ c.toNat ≤ 70)) ?_ (fun v hv => ?_)
  · repeat (first|refine q3 ?_|refine q4 tab rfl rfl ?_)
    (refine TO.splitP rfl rfl (fun c3 => ?_) (fun c3 => ?_))
    · repeat (first|refine q4 tab rfl rfl ?_|refine q5 ?_|refine q6 ?_)
      refine ⟨_, (by repeat (first|exact trivial|refine And.intro rfl ?_)), (by repeat (first|exact trivial|refine And.intro rfl ?_)), rfl, rfl, (by repeat (exact List.Sublist.refl _)), ?_⟩
      rw [Bool.eq_iff_iff, decide_eq_true_iff, decide_eq_true_iff]; omega
    · repeat (first|refine q4 tab rfl rfl ?_|refine q5 ?_|refine q6 ?_)
      refine ⟨false, (by repeat (first|exact trivial|refine And.intro rfl ?_)), (by repeat (first|exact trivial|refine And.intro rfl ?_)), rfl, rfl, (by repeat (exact List.Sublist.refl _)), ?_⟩
      symm; exact decide_eq_false (by omega)
  subst hv
  skip
  refine TC.condP rfl (fun c3 => ?_) (fun c3 => ?_)
  · repeat (first|refine q1 ?_|refine q3 ?_|refine q4 tab rfl rfl ?_)
    refine TO.step rfl (OT.arithK rfl rfl rfl rfl rfl rfl (r' := ((c.toNat - 65 : Nat) : Int)) (by rw [u8_in (by omega) (by omega)]; omega) ?_)
    refine TO.step rfl (OT.conv tab rfl rfl rfl rfl rfl rfl (r := ((c.toNat - 65 : Nat) : Int)) (wrap64_in (by omega) (by omega)) ?_)
    refine TO.step rfl (OT.arith (r' := ((c.toNat - 65 + 10 : Nat) : Int)) rfl rfl rfl rfl rfl rfl rfl (by omega) ?_)
    repeat (first|refine q4 tab rfl rfl ?_|refine q5 ?_|refine q6 ?_|refine q8 ?_|refine q9 ?_|refine q15 ?_)
    refine retQ_ret rfl (by repeat (exact List.Sublist.refl _)) ⟨rfl, rfl, ?_⟩
    rw [hexV, if_neg h1, if_neg c2, if_pos c3]
  · repeat (first|refine q1 ?_|refine q3 ?_|refine q4 tab rfl rfl ?_|refine q5 ?_|refine q6 ?_|refine q7 ?_|refine q13 ?_|refine q15 ?_)
    refine retQ_ret rfl (by repeat (exact List.Sublist.refl _)) ⟨rfl, rfl, ?_⟩
    rw [hexV, if_neg h1, if_neg c2, if_neg c3]
end Go.Sep

/-
  Within a region whose order is drawn: operations that only compute, taken first.
-/
set_option linter.unusedVariables false
set_option linter.unusedSimpArgs false
namespace Go.Sep
section
variable {P : Program} {N : Nat} {ρ : Env} {D : List Deferred} {m : Mem} {L Ls Lp : List Item} {Q : EPost} {ops : List Oper} {ts : List Nat} {fuel : Nat} {listed : List Bool}
/-- s[k] of a string, taken first -/
theorem DO.sidx (T : Tab P) (i : Nat) {t : TypeId} {x y : Operand} {o : Oper} {s : Str} {iv : Int} {kd : IntKind} {b : UInt8} {d : Nat} (k : Nat) (hc : Calm Q) (hns : Region.noSelect ⟨ops⟩ = true) (hok : orderOkP ops ts [i] listed = true)
    (hi : ops[i]? = some o) (hg : gv ops ρ o = some true) (ho : o.op = .index t x y) (hd : o.dst = some d) (hN : Nat.blt d N = true)
    (ht : T.isStr t = true) (hx : ev ρ x = some (strV s)) (hy : ev ρ y = some (.int kd iv)) (hik : iv = (k : Int)) (hb : s[k]? = some b)
    (h : DO P N ops ts fuel (listed.set i true) ((d, byteV b) :: ρ) D m Ls Lp Q) : DO P N ops ts (fuel + 1) listed ρ D m Ls Lp Q := by
  simp only [orderOkP, Bool.and_eq_true] at hok
  obtain ⟨o1, o2, o3, _⟩ := hok
  obtain ⟨ti, h1, h2⟩ := isStr_get ht
  subst hik
  refine DO.takeP i hc hi hd hN hg hns o1 o2 (by simpa using o3) (fun ac w hA => ?_) h
  have hu := T.run_underlying w h1
  rw [h2] at hu
  have hg := getElem_data s k hb
  simp only [execOp, ho, hA.eval hx, hA.eval hy, Instr.index, asIntOf, Sem.run_bind, Sem.run_pure, Result.andThen_ok, hu, Int.toNat_natCast, Int.natCast_nonneg, if_true, hg]
/-- an integer seen as1 another kind, taken first -/
theorem DO.conv (T : Tab P) (i : Nat) {s t : TypeId} {x : Operand} {o : Oper} {k ks kt : IntKind} {d : Nat} {a r : Int} (hc : Calm Q) (hns : Region.noSelect ⟨ops⟩ = true) (hok : orderOkP ops ts [i] listed = true)
    (hi : ops[i]? = some o) (hg : gv ops ρ o = some true) (ho : o.op = .convert s t x) (hd : o.dst = some d) (hN : Nat.blt d N = true)
    (hs : T.intK s = some ks) (ht : T.intK t = some kt) (hx : ev ρ x = some (.int k a)) (hr : kt.wrap a = r)
    (h : DO P N ops ts fuel (listed.set i true) ((d, .int kt r) :: ρ) D m Ls Lp Q) : DO P N ops ts (fuel + 1) listed ρ D m Ls Lp Q := by
  simp only [orderOkP, Bool.and_eq_true] at hok
  obtain ⟨o1, o2, o3, _⟩ := hok
  obtain ⟨si, s1, s2⟩ := intK_get hs
  obtain ⟨ti, t1, t2⟩ := intK_get ht
  refine DO.takeP i hc hi hd hN hg hns o1 o2 (by simpa using o3) (fun ac w hA => ?_) h
  have hus := T.run_underlying w s1
  have hut := T.run_underlying w t1
  rw [s2] at hus
  rw [t2] at hut
  simp only [execOp, ho, hA.eval hx, Go.convert, Sem.run_bind, hus, hut, Result.andThen_ok, Conv.intToInt, Sem.run_pure, hr]
end
end Go.Sep

/-
  The reference's strings: the walk.
-/
set_option linter.unusedVariables false
set_option linter.unusedSimpArgs false
namespace Go.Sep
open Go.Proofs
attribute [local irreducible] TC TO OT TCallX TCall DO DOt thenQ blockQ retQ At

structure StrS where
  m : Mem
  sl : Sl
  i : Nat
  acc : Str

def strR (a : Nat) (o : Option (Str × Nat)) : Value := match o with
  | some (t, n) => if 1024 < t.length then .tuple ⟨[strV [], .int .i64 (-1)]⟩ else .tuple ⟨[strV t, .int .i64 ((a + 1 + n : Nat) : Int)]⟩
  | none => .tuple ⟨[strV [], .int .i64 (-1)]⟩

set_option maxHeartbeats 2000000 in
theorem str_ref (m : Mem) (L : List Item) (s : Str) (a : Nat) (ha : a < s.length) (hl : s.length ≤ 70000) : TCall Tryd.prog 36 ⟨[strV s, .int .i64 (a : Int)]⟩ m L (Made m L fun r _ => r = strR a (lit (s.drop (a + 1)))) := by
  unfold TCall
  refine TCallX.enter Tryd.func36 rfl 107 rfl ?_
  repeat (first|refine q1 ?_|refine q3 ?_|refine q4 tab rfl rfl ?_|refine q5 ?_|refine q6 ?_)
  refine TO.step rfl (OT.lit tab rfl rfl rfl rfl (fun b0 => ?_))
  refine TO.drop (List.sublist_cons_self _ _) ?_
  repeat (first|refine q1 ?_|refine q3 ?_|refine q4 tab rfl rfl ?_|refine q5 ?_|refine q6 ?_)
  refine TO.step rfl (OT.arith (r' := ((a + 1 : Nat) : Int)) rfl rfl rfl rfl rfl rfl rfl (by omega) ?_)
  repeat (first|refine q2 ?_|refine q4 tab rfl rfl ?_|refine q5 ?_|refine q6 ?_)
  refine TC.growL b0 1 ?_
  refine TC.loopK (ι := StrS) [0] rfl (fun x => [(7, .int .i64 (x.i : Int)), (6, x.sl.v)]) (fun x => x.m) (fun x => tok x.sl 1 :: L) (fun x => m ≤ x.m ∧ a + 1 ≤ x.i ∧ x.i ≤ s.length ∧ SlRep rByte x.m x.sl x.acc ∧ Own x.sl ∧ x.acc.length ≤ x.i ∧ LitAt s (a + 1) x.i x.acc (lit (s.drop (a + 1)))) (fun x => s.length - x.i) ⟨m, ⟨some ⟨b0, 0, none⟩, 0, 0⟩, a + 1, []⟩ (by repeat (first|exact trivial|refine And.intro rfl ?_)) rfl (by repeat (exact List.Sublist.refl _)) ⟨Mem.le_refl _, Nat.le_refl _, by show a + 1 ≤ _; omega, SlRep.lit0 _ _ _, Own.lit _ _ _, Nat.zero_le _, LitAt.start s (a + 1)⟩ ?_
  rintro ⟨m1, sl, i, acc⟩ ⟨hm, hi1, hi, hsl, hown, hacc, hI⟩
  replace hm : m ≤ m1 := hm
  replace hi1 : a + 1 ≤ i := hi1
  replace hi : i ≤ s.length := hi
  replace hsl : SlRep rByte m1 sl acc := hsl
  replace hown : Own sl := hown
  replace hacc : acc.length ≤ i := hacc
  replace hI : LitAt s (a + 1) i acc (lit (s.drop (a + 1))) := hI
  have hsn : sl.len = acc.length := hsl.len
  show TC _ _ _ ((7, .int .i64 (i : Int)) :: (6, sl.v) :: _) _ m1 (tok sl 1 :: L) _
  repeat (first|refine q1 ?_|refine q3 ?_|refine q4 tab rfl rfl ?_|refine q5 ?_|refine q6 ?_)
  refine TC.condP rfl (fun g1 => ?_) (fun g1 => ?_)
  · have hlt : i < s.length := by omega
    have hx : s[i]? = some s[i] := by simp [hlt]
    repeat (first|refine q1 ?_|refine q2 ?_|refine q3 ?_|refine q4 tab rfl rfl ?_|refine q6 ?_|refine q13 ?_)
    refine TO.step rfl (OT.sidx tab i rfl rfl rfl rfl rfl rfl rfl hx ?_)
    repeat (first|refine q1 ?_|refine q3 ?_|refine q4 tab rfl rfl ?_|refine q5 ?_|refine q6 ?_)
    refine TC.condP rfl (fun c1 => ?_) (fun c1 => ?_)
    · repeat (first|refine q1 ?_|refine q3 ?_|refine q4 tab rfl rfl ?_|refine q5 ?_|refine q6 ?_)
      refine TC.condP rfl (fun c0 => ?_) (fun c0 => ?_)
      · repeat (first|refine q1 ?_|refine q3 ?_|refine q4 tab rfl rfl ?_|refine q5 ?_|refine q6 ?_|refine q8 ?_|refine q9 ?_|refine q15 ?_)
        refine retQ_ret rfl (by repeat (first|exact List.Sublist.refl _|refine List.Sublist.cons _ ?_)) ⟨hm, rfl, ?_⟩
        rw [hI.quote hlt (by omega), strR]
        simp only
        rw [if_pos (by omega)]
      · repeat (first|refine q1 ?_|refine q3 ?_|refine q4 tab rfl rfl ?_|refine q6 ?_|refine q13 ?_)
        refine TO.step rfl (OT.bytesStrA tab rfl rfl rfl rfl rfl rfl rfl hsl ?_)
        repeat (refine q4 tab rfl rfl ?_)
        refine TO.step rfl (OT.arith (r' := ((i + 1 : Nat) : Int)) rfl rfl rfl rfl rfl rfl rfl (by omega) ?_)
        repeat (first|refine q4 tab rfl rfl ?_|refine q5 ?_|refine q6 ?_|refine q8 ?_|refine q9 ?_|refine q15 ?_)
        refine retQ_ret rfl (by repeat (first|exact List.Sublist.refl _|refine List.Sublist.cons _ ?_)) ⟨hm, rfl, ?_⟩
        rw [hI.quote hlt (by omega), strR]
        simp only
        rw [if_neg (by omega), show a + 1 + (i - (a + 1) + 1) = i + 1 by omega]
    repeat (first|refine q1 ?_|refine q3 ?_|refine q4 tab rfl rfl ?_|refine q5 ?_|refine q6 ?_|refine q13 ?_)
    refine TC.condP rfl (fun c2 => ?_) (fun c2 => ?_)
    · skip
      repeat (first|refine q1 ?_|refine q3 ?_|refine q4 tab rfl rfl ?_|refine q5 ?_|refine q6 ?_|refine q8 ?_|refine q9 ?_|refine q15 ?_)
      refine retQ_ret rfl (by repeat (first|exact List.Sublist.refl _|refine List.Sublist.cons _ ?_)) ⟨hm, rfl, ?_⟩
      rw [hI.nl hlt (by omega)]; rfl
    repeat (first|refine q1 ?_|refine q3 ?_|refine q4 tab rfl rfl ?_|refine q5 ?_|refine q6 ?_|refine q13 ?_)
    refine TC.condN rfl (fun c3 => ?_) (fun c3 => ?_)
    · repeat (first|refine q1 ?_|refine q3 ?_|refine q4 tab rfl rfl ?_)
      refine TO.step rfl (OT.lit tab rfl rfl rfl rfl (fun b => ?_))
      refine TO.step rfl (OT.append1 tab rByte 0 (hd' := s[i]) (a := s[i]) hsl hown rfl rfl rfl rfl rfl rfl rfl rfl (by show (acc.length + 1) * 1 ≤ _; omega) (fun s' m3 hm3 hs3 ho3 => ?_))
      repeat (first|refine q3 ?_|refine q4 tab rfl rfl ?_|refine q5 ?_|refine q6 ?_|refine q10 ?_|refine q11 ?_|refine q14 ?_)
      refine TO.step rfl (OT.arith (r' := ((i + 1 : Nat) : Int)) rfl rfl rfl rfl rfl rfl rfl (by omega) ?_)
      repeat (first|refine q4 tab rfl rfl ?_|refine q5 ?_|refine q6 ?_)
      exact ⟨⟨m3, s', i + 1, acc ++ [s[i]]⟩, (by repeat (first|exact trivial|refine And.intro rfl ?_)), (by repeat (first|exact trivial|refine And.intro rfl ?_)), rfl, rfl, (by repeat (exact List.Sublist.refl _)), ⟨Mem.le_trans hm hm3, by show _ ≤ i + 1; omega, by show i + 1 ≤ _; omega, hs3, ho3, by show (acc ++ [_]).length ≤ i + 1; rw [List.length_append]; simp only [List.length_cons, List.length_nil]; omega, (hI.one hi1 hlt (by omega) (by omega) (by omega))⟩, by show s.length - (i + 1) < s.length - i; omega⟩
    · repeat (first|refine q1 ?_|refine q3 ?_|refine q4 tab rfl rfl ?_|refine q6 ?_|refine q13 ?_)
      refine TO.step rfl (OT.arith (r' := ((i + 1 : Nat) : Int)) rfl rfl rfl rfl rfl rfl rfl (by omega) ?_)
      repeat (first|refine q1 ?_|refine q3 ?_|refine q4 tab rfl rfl ?_|refine q5 ?_|refine q6 ?_)
      refine TC.condP rfl (fun c4 => ?_) (fun c4 => ?_)
      · skip
        repeat (first|refine q1 ?_|refine q3 ?_|refine q4 tab rfl rfl ?_|refine q5 ?_|refine q6 ?_|refine q8 ?_|refine q9 ?_|refine q15 ?_)
        refine retQ_ret rfl (by repeat (first|exact List.Sublist.refl _|refine List.Sublist.cons _ ?_)) ⟨hm, rfl, ?_⟩
        rw [hI.bad hlt (by omega) (by rw [List.drop_eq_nil_of_le (by omega)]; rfl)]; rfl
      have hlt2 : i + 1 < s.length := by omega
      have hx2 : s[i + 1]? = some s[i + 1] := by simp [hlt2]
      have hd2 := List.drop_eq_getElem_cons hlt2
      repeat (first|refine q1 ?_|refine q3 ?_|refine q4 tab rfl rfl ?_|refine q6 ?_|refine q13 ?_)
      refine TO.step rfl (OT.sidx tab (i + 1) rfl rfl rfl rfl rfl rfl rfl hx2 ?_)
      repeat (first|refine q1 ?_|refine q2 ?_|refine q3 ?_|refine q4 tab rfl rfl ?_|refine q5 ?_|refine q6 ?_)
      refine TC.condP rfl (fun d1 => ?_) (fun d1 => ?_)
      · have he : escB (s.drop (i + 1)) = some (10, 1) := by rw [hd2]; exact esc_n (by omega)
        repeat (first|refine q3 ?_|refine q4 tab rfl rfl ?_)
        refine TO.step rfl (OT.lit tab rfl rfl rfl rfl (fun b => ?_))
        refine TO.step rfl (OT.append1 tab rByte 0 (hd' := 10) (a := 10) hsl hown rfl rfl rfl rfl rfl rfl rfl rfl (by show (acc.length + 1) * 1 ≤ _; omega) (fun s' m3 hm3 hs3 ho3 => ?_))
        repeat (first|refine q3 ?_|refine q4 tab rfl rfl ?_|refine q5 ?_|refine q6 ?_|refine q7 ?_)
        refine TO.step rfl (OT.arith (r' := (((i + 1) + 1 : Nat) : Int)) rfl rfl rfl rfl rfl rfl rfl (by omega) ?_)
        repeat (first|refine q4 tab rfl rfl ?_|refine q5 ?_|refine q6 ?_)
        exact ⟨⟨m3, s', (i + 1) + 1, acc ++ [10]⟩, (by repeat (first|exact trivial|refine And.intro rfl ?_)), (by repeat (first|exact trivial|refine And.intro rfl ?_)), rfl, rfl, (by repeat (exact List.Sublist.refl _)), ⟨Mem.le_trans hm hm3, by show _ ≤ (i + 1) + 1; omega, by show (i + 1) + 1 ≤ _; omega, hs3, ho3, by show (acc ++ [_]).length ≤ (i + 1) + 1; rw [List.length_append]; simp only [List.length_cons, List.length_nil]; omega, (hI.esc hi1 hlt (by omega) he)⟩, by show s.length - ((i + 1) + 1) < s.length - i; omega⟩
      repeat (first|refine q1 ?_|refine q3 ?_|refine q4 tab rfl rfl ?_|refine q5 ?_|refine q6 ?_)
      refine TC.condP rfl (fun d2 => ?_) (fun d2 => ?_)
      · have he : escB (s.drop (i + 1)) = some (9, 1) := by rw [hd2]; exact esc_t (by omega)
        repeat (first|refine q3 ?_|refine q4 tab rfl rfl ?_)
        refine TO.step rfl (OT.lit tab rfl rfl rfl rfl (fun b => ?_))
        refine TO.step rfl (OT.append1 tab rByte 0 (hd' := 9) (a := 9) hsl hown rfl rfl rfl rfl rfl rfl rfl rfl (by show (acc.length + 1) * 1 ≤ _; omega) (fun s' m3 hm3 hs3 ho3 => ?_))
        repeat (first|refine q3 ?_|refine q4 tab rfl rfl ?_|refine q5 ?_|refine q6 ?_|refine q7 ?_)
        refine TO.step rfl (OT.arith (r' := (((i + 1) + 1 : Nat) : Int)) rfl rfl rfl rfl rfl rfl rfl (by omega) ?_)
        repeat (first|refine q4 tab rfl rfl ?_|refine q5 ?_|refine q6 ?_)
        exact ⟨⟨m3, s', (i + 1) + 1, acc ++ [9]⟩, (by repeat (first|exact trivial|refine And.intro rfl ?_)), (by repeat (first|exact trivial|refine And.intro rfl ?_)), rfl, rfl, (by repeat (exact List.Sublist.refl _)), ⟨Mem.le_trans hm hm3, by show _ ≤ (i + 1) + 1; omega, by show (i + 1) + 1 ≤ _; omega, hs3, ho3, by show (acc ++ [_]).length ≤ (i + 1) + 1; rw [List.length_append]; simp only [List.length_cons, List.length_nil]; omega, (hI.esc hi1 hlt (by omega) he)⟩, by show s.length - ((i + 1) + 1) < s.length - i; omega⟩
      repeat (first|refine q1 ?_|refine q3 ?_|refine q4 tab rfl rfl ?_|refine q5 ?_|refine q6 ?_)
      refine TC.condP rfl (fun d3 => ?_) (fun d3 => ?_)
      · have he : escB (s.drop (i + 1)) = some (s[i + 1], 1) := by rw [hd2]; exact esc_self (by omega)
        repeat (first|refine q6 ?_|refine q13 ?_)
        refine TC.condP rfl (fun _ => ?_) (fun h => absurd d3 h)
        repeat (first|refine q3 ?_|refine q4 tab rfl rfl ?_)
        refine TO.step rfl (OT.sidx tab (i + 1) rfl rfl rfl rfl rfl rfl rfl hx2 ?_)
        skip
        refine TO.step rfl (OT.lit tab rfl rfl rfl rfl (fun b => ?_))
        refine TO.step rfl (OT.append1 tab rByte 0 (hd' := s[i + 1]) (a := s[i + 1]) hsl hown rfl rfl rfl rfl rfl rfl rfl rfl (by show (acc.length + 1) * 1 ≤ _; omega) (fun s' m3 hm3 hs3 ho3 => ?_))
        repeat (first|refine q3 ?_|refine q4 tab rfl rfl ?_|refine q5 ?_|refine q6 ?_|refine q7 ?_)
        refine TO.step rfl (OT.arith (r' := (((i + 1) + 1 : Nat) : Int)) rfl rfl rfl rfl rfl rfl rfl (by omega) ?_)
        repeat (first|refine q4 tab rfl rfl ?_|refine q5 ?_|refine q6 ?_)
        exact ⟨⟨m3, s', (i + 1) + 1, acc ++ [s[i + 1]]⟩, (by repeat (first|exact trivial|refine And.intro rfl ?_)), (by repeat (first|exact trivial|refine And.intro rfl ?_)), rfl, rfl, (by repeat (exact List.Sublist.refl _)), ⟨Mem.le_trans hm hm3, by show _ ≤ (i + 1) + 1; omega, by show (i + 1) + 1 ≤ _; omega, hs3, ho3, by show (acc ++ [_]).length ≤ (i + 1) + 1; rw [List.length_append]; simp only [List.length_cons, List.length_nil]; omega, (hI.esc hi1 hlt (by omega) he)⟩, by show s.length - ((i + 1) + 1) < s.length - i; omega⟩
      repeat (first|refine q3 ?_|refine q4 tab rfl rfl ?_|refine q5 ?_|refine q6 ?_)
      refine TC.condP rfl (fun d4 => ?_) (fun d4 => ?_)
      · have he : escB (s.drop (i + 1)) = some (s[i + 1], 1) := by rw [hd2]; exact esc_self (by omega)
        repeat (first|refine q3 ?_|refine q4 tab rfl rfl ?_)
        refine TO.step rfl (OT.sidx tab (i + 1) rfl rfl rfl rfl rfl rfl rfl hx2 ?_)
        skip
        refine TO.step rfl (OT.lit tab rfl rfl rfl rfl (fun b => ?_))
        refine TO.step rfl (OT.append1 tab rByte 0 (hd' := s[i + 1]) (a := s[i + 1]) hsl hown rfl rfl rfl rfl rfl rfl rfl rfl (by show (acc.length + 1) * 1 ≤ _; omega) (fun s' m3 hm3 hs3 ho3 => ?_))
        repeat (first|refine q3 ?_|refine q4 tab rfl rfl ?_|refine q5 ?_|refine q6 ?_|refine q7 ?_)
        refine TO.step rfl (OT.arith (r' := (((i + 1) + 1 : Nat) : Int)) rfl rfl rfl rfl rfl rfl rfl (by omega) ?_)
        repeat (first|refine q4 tab rfl rfl ?_|refine q5 ?_|refine q6 ?_)
        exact ⟨⟨m3, s', (i + 1) + 1, acc ++ [s[i + 1]]⟩, (by repeat (first|exact trivial|refine And.intro rfl ?_)), (by repeat (first|exact trivial|refine And.intro rfl ?_)), rfl, rfl, (by repeat (exact List.Sublist.refl _)), ⟨Mem.le_trans hm hm3, by show _ ≤ (i + 1) + 1; omega, by show (i + 1) + 1 ≤ _; omega, hs3, ho3, by show (acc ++ [_]).length ≤ (i + 1) + 1; rw [List.length_append]; simp only [List.length_cons, List.length_nil]; omega, (hI.esc hi1 hlt (by omega) he)⟩, by show s.length - ((i + 1) + 1) < s.length - i; omega⟩
      repeat (first|refine q1 ?_|refine q3 ?_|refine q4 tab rfl rfl ?_|refine q5 ?_|refine q6 ?_)
      refine TC.condP rfl (fun d5 => ?_) (fun d5 => ?_)
      · repeat (first|refine q1 ?_|refine q3 ?_|refine q4 tab rfl rfl ?_)
        refine TO.step rfl (OT.arith (r' := ((i + 3 : Nat) : Int)) rfl rfl rfl rfl rfl rfl rfl (by omega) ?_)
        repeat (refine q4 tab rfl rfl ?_)
        (refine TO.splitP rfl rfl (fun d6 => ?_) (fun d6 => ?_))
        · skip
          repeat (first|refine q1 ?_|refine q3 ?_|refine q4 tab rfl rfl ?_|refine q5 ?_|refine q6 ?_|refine q8 ?_|refine q9 ?_|refine q15 ?_|refine q16 rfl ?_)
          refine retQ_ret rfl (by repeat (first|exact List.Sublist.refl _|refine List.Sublist.cons _ ?_)) ⟨hm, rfl, ?_⟩
          rw [hI.bad hlt (by omega) (by rw [hd2]; exact esc_xs (by omega) (by rw [List.length_drop]; omega))]; rfl
        have hl3 : i + 2 < s.length := by omega
        have hl4 : i + 3 < s.length := by omega
        have hx3 : s[i + 2]? = some s[i + 2] := by simp [hl3]
        have hx4 : s[i + 3]? = some s[i + 3] := by simp [hl4]
        have hd3 : s.drop (i + 1) = s[i + 1] :: s[i + 2] :: s[i + 3] :: s.drop (i + 4) := by
          rw [hd2, List.drop_eq_getElem_cons hl3, List.drop_eq_getElem_cons hl4]
        repeat (refine q4 tab rfl rfl ?_)
        refine TO.step rfl (OT.arith (r' := ((i + 2 : Nat) : Int)) rfl rfl rfl rfl rfl rfl rfl (by omega) ?_)
        refine TO.step rfl (OT.sidx tab (i + 2) rfl rfl rfl rfl rfl rfl rfl hx3 ?_)
        refine TO.step rfl (OT.call rfl rfl rfl rfl rfl rfl goes47 ((hexValue_ref _ _ s[i + 2]).x ?_));
        rintro _ _ _ ⟨rfl, rfl, rfl⟩
        repeat (refine q4 tab rfl rfl ?_)
        (refine TO.splitP rfl rfl (fun d7 => ?_) (fun d7 => ?_))
        · skip
          repeat (first|refine q1 ?_|refine q3 ?_|refine q4 tab rfl rfl ?_|refine q5 ?_|refine q6 ?_|refine q8 ?_|refine q9 ?_|refine q15 ?_|refine q16 rfl ?_)
          refine retQ_ret rfl (by repeat (first|exact List.Sublist.refl _|refine List.Sublist.cons _ ?_)) ⟨hm, rfl, ?_⟩
          rw [hI.bad hlt (by omega) (by rw [hd3, esc_x (by omega), hexB_none1 d7]; rfl)]; rfl
        repeat (refine q4 tab rfl rfl ?_)
        refine TO.step rfl (OT.arith (r' := ((i + 3 : Nat) : Int)) rfl rfl rfl rfl rfl rfl rfl (by omega) ?_)
        refine TO.step rfl (OT.sidx tab (i + 3) rfl rfl rfl rfl rfl rfl rfl hx4 ?_)
        refine TO.step rfl (OT.call rfl rfl rfl rfl rfl rfl goes47 ((hexValue_ref _ _ s[i + 3]).x ?_));
        rintro _ _ _ ⟨rfl, rfl, rfl⟩
        repeat (first|refine q4 tab rfl rfl ?_|refine q5 ?_|refine q6 ?_)
        refine TC.condP rfl (fun d8 => ?_) (fun d8 => ?_)
        · skip
          repeat (first|refine q1 ?_|refine q3 ?_|refine q4 tab rfl rfl ?_|refine q5 ?_|refine q6 ?_|refine q8 ?_|refine q9 ?_|refine q15 ?_)
          refine retQ_ret rfl (by repeat (first|exact List.Sublist.refl _|refine List.Sublist.cons _ ?_)) ⟨hm, rfl, ?_⟩
          rw [hI.bad hlt (by omega) (by rw [hd3, esc_x (by omega), hexB_none2 d7 d8]; rfl)]; rfl
        obtain ⟨x, hxb, hxv⟩ := hexB_some d7 d8
        have hx256 : x.toNat < 256 := x.toNat_lt
        have he : escB (s.drop (i + 1)) = some (x, 3) := by rw [hd3, esc_x (by omega), hxb]; rfl
        have hv1 : 0 ≤ hexV s[i + 2] ∧ hexV s[i + 2] < 16 := by rcases hexV_dv s[i + 2] with ⟨d, _, _, h2⟩ | ⟨h2, _⟩ <;> omega
        repeat (first|refine q1 ?_|refine q6 ?_|refine q13 ?_)
        refine TC.draw [] mixed 17 rfl [] (tok sl 1 :: L) (by first | exact List.Perm.refl _ | (rw [List.append_nil]; exact List.Perm.refl _)) ?_
        refine DO.pure tab (by repeat (first|exact Calm.ret|refine Calm.then ?_|refine Calm.block ?_)) (by kernel_rfl) [0, 1, 2] (by kernel_rfl) rfl ?_
        refine DO.arith 3 (r' := ((i + 2 : Nat) : Int)) (by repeat (first|exact Calm.ret|refine Calm.then ?_|refine Calm.block ?_)) (by kernel_rfl) (by kernel_rfl) rfl rfl rfl rfl rfl rfl rfl rfl (by first | rfl | omega | (simp only; omega)) (by omega) ?_
        refine DO.sidx tab 4 (i + 2) (by repeat (first|exact Calm.ret|refine Calm.then ?_|refine Calm.block ?_)) (by kernel_rfl) (by kernel_rfl) rfl rfl rfl rfl rfl rfl rfl rfl rfl hx3 ?_
        refine DO.pure tab (by repeat (first|exact Calm.ret|refine Calm.then ?_|refine Calm.block ?_)) (by kernel_rfl) [7, 8] (by kernel_rfl) rfl ?_
        refine DO.arith 9 (r' := ((i + 3 : Nat) : Int)) (by repeat (first|exact Calm.ret|refine Calm.then ?_|refine Calm.block ?_)) (by kernel_rfl) (by kernel_rfl) rfl rfl rfl rfl rfl rfl rfl rfl (by first | rfl | omega | (simp only; omega)) (by omega) ?_
        refine DO.sidx tab 10 (i + 3) (by repeat (first|exact Calm.ret|refine Calm.then ?_|refine Calm.block ?_)) (by kernel_rfl) (by kernel_rfl) rfl rfl rfl rfl rfl rfl rfl rfl rfl hx4 ?_
        refine DO.run 5 rfl rfl (by kernel_rfl) rfl (OT.call rfl rfl rfl rfl rfl rfl goes47 ((hexValue_ref _ _ s[i + 2]).x ?_))
        rintro _ _ _ ⟨rfl, rfl, rfl⟩; refine ⟨Mem.le_refl _, _, List.Perm.refl _, ?_⟩
        refine DO.arith 6 (r' := (hexV s[i + 2] * 16)) (by repeat (first|exact Calm.ret|refine Calm.then ?_|refine Calm.block ?_)) (by kernel_rfl) (by kernel_rfl) rfl rfl rfl rfl rfl rfl rfl rfl (by first | rfl | omega | (simp only; omega)) (by omega) ?_
        refine DO.run 11 rfl rfl (by kernel_rfl) rfl (OT.call rfl rfl rfl rfl rfl rfl goes47 ((hexValue_ref _ _ s[i + 3]).x ?_))
        rintro _ _ _ ⟨rfl, rfl, rfl⟩; refine ⟨Mem.le_refl _, _, List.Perm.refl _, ?_⟩
        refine DO.arith 12 (r' := (x.toNat : Int)) (by repeat (first|exact Calm.ret|refine Calm.then ?_|refine Calm.block ?_)) (by kernel_rfl) (by kernel_rfl) rfl rfl rfl rfl rfl rfl rfl rfl (by first | rfl | omega | (simp only; omega)) (by omega) ?_
        refine DO.conv tab 13 (r := (x.toNat : Int)) (by repeat (first|exact Calm.ret|refine Calm.then ?_|refine Calm.block ?_)) (by kernel_rfl) (by kernel_rfl) rfl rfl rfl rfl rfl rfl rfl rfl (u8_in (by omega) (by omega)) ?_
        refine DO.run 14 rfl rfl (by kernel_rfl) rfl ?_
        refine OT.lit tab rfl rfl rfl rfl (fun b => ?_); refine ⟨Mem.le_refl _, _, List.Perm.refl _, ?_⟩
        refine DO.run 15 rfl rfl (by kernel_rfl) rfl ?_
        refine OT.append1 tab rByte 0 (hd' := x) (a := x) hsl hown rfl rfl rfl rfl rfl rfl rfl rfl (by show (acc.length + 1) * 1 ≤ _; omega) (fun s' m3 hm3 hs3 ho3 => ?_); refine ⟨hm3, _, List.Perm.refl _, ?_⟩
        refine DO.pure tab (by repeat (first|exact Calm.ret|refine Calm.then ?_|refine Calm.block ?_)) (by kernel_rfl) [16] (by kernel_rfl) rfl ?_
        (refine DO.nil (by kernel_rfl) ?_)
        rotate_left 1
        repeat (first|refine q3 ?_|refine q4 tab rfl rfl ?_|refine q6 ?_)
        refine TO.step rfl (OT.arith (r' := ((i + 3 : Nat) : Int)) rfl rfl rfl rfl rfl rfl rfl (by omega) ?_)
        repeat (first|refine q3 ?_|refine q4 tab rfl rfl ?_|refine q5 ?_|refine q6 ?_|refine q7 ?_)
        refine TO.step rfl (OT.arith (r' := (((i + 3) + 1 : Nat) : Int)) rfl rfl rfl rfl rfl rfl rfl (by omega) ?_)
        repeat (first|refine q4 tab rfl rfl ?_|refine q5 ?_|refine q6 ?_)
        exact ⟨⟨m3, s', (i + 3) + 1, acc ++ [x]⟩, (by repeat (first|exact trivial|refine And.intro rfl ?_)), (by repeat (first|exact trivial|refine And.intro rfl ?_)), rfl, rfl, (by repeat (exact List.Sublist.refl _)), ⟨Mem.le_trans hm hm3, by show _ ≤ (i + 3) + 1; omega, by show (i + 3) + 1 ≤ _; omega, hs3, ho3, by show (acc ++ [_]).length ≤ (i + 3) + 1; rw [List.length_append]; simp only [List.length_cons, List.length_nil]; omega, (hI.esc hi1 hlt (by omega) he)⟩, by show s.length - ((i + 3) + 1) < s.length - i; omega⟩
      · skip
        repeat (first|refine q1 ?_|refine q3 ?_|refine q4 tab rfl rfl ?_|refine q5 ?_|refine q6 ?_|refine q8 ?_|refine q9 ?_|refine q15 ?_)
        refine retQ_ret rfl (by repeat (first|exact List.Sublist.refl _|refine List.Sublist.cons _ ?_)) ⟨hm, rfl, ?_⟩
        rw [hI.bad hlt (by omega) (by rw [hd2]; exact esc_no (by omega) (by omega) (by omega) (by omega) (by omega))]; rfl
  · skip
    repeat (first|refine q1 ?_|refine q3 ?_|refine q4 tab rfl rfl ?_|refine q5 ?_|refine q6 ?_|refine q10 ?_|refine q11 ?_|refine q14 ?_|refine q15 ?_)
    refine retQ_ret rfl (by repeat (first|exact List.Sublist.refl _|refine List.Sublist.cons _ ?_)) ⟨hm, rfl, ?_⟩
    rw [hI.end_ (by omega)]; rfl
end Go.Sep

/-
  The reference's marks.
-/
set_option linter.unusedVariables false
set_option linter.unusedSimpArgs false
namespace Go.Sep
open Go.Proofs
attribute [local irreducible] TC TO OT TCallX TCall DO DOt thenQ blockQ retQ At

def mark2 : List Str := [[58, 61], [61, 61], [33, 61], [60, 61], [62, 61], [38, 38], [124, 124]]
def mark1 : List Str := [[40], [41], [123], [125], [91], [93], [44], [59], [46], [58], [61], [60], [62], [43], [45], [42], [47], [37], [38], [33]]
theorem markL_eq : markL = mark2 ++ mark1 := rfl
theorem mark2_len : ∀ p ∈ mark2, p.length = 2 := by decide
theorem mark1_len : ∀ p ∈ mark1, p.length = 1 := by decide
def markT (s : Str) : Str := (markL.find? (fun p => prefixB p s)).getD []
theorem mark2_rep {m : Mem} {b : Nat} (h : At m b 0 (encs rStr mark2)) : SlRep rStr m ⟨some ⟨b, 0, none⟩, 7, 7⟩ mark2 :=
  ⟨rfl, Nat.le_refl _, (by show 7 * 16 ≤ _; decide), mark2, all_refl2 mark2, .inr ⟨b, 0, rfl, h⟩⟩
theorem mark1_rep {m : Mem} {b : Nat} (h : At m b 0 (encs rStr mark1)) : SlRep rStr m ⟨some ⟨b, 0, none⟩, 20, 20⟩ mark1 :=
  ⟨rfl, Nat.le_refl _, (by show 20 * 16 ≤ _; decide), mark1, all_refl2 mark1, .inr ⟨b, 0, rfl, h⟩⟩
theorem pre_at {s p : Str} {a n : Nat} (hp : p.length = n) (h : a + n ≤ s.length) : prefixB p (s.drop a) = decide ((s.take (a + n)).drop a = p) := by
  rw [Bool.eq_iff_iff, prefixB_iff, decide_eq_true_iff, hp, List.length_drop, List.drop_take, Nat.add_sub_cancel_left]
  exact ⟨fun h => h.2, fun h2 => ⟨by omega, h2⟩⟩

set_option maxHeartbeats 2000000 in
theorem mark_ref (m : Mem) (L : List Item) (s : Str) (a : Nat) (ha : a < s.length) (hl : s.length ≤ 70000) : TCall Tryd.prog 37 ⟨[strV s, .int .i64 (a : Int)]⟩ m L (Made m L fun r _ => r = strV (markT (s.drop a))) := by
  unfold TCall
  refine TCallX.enter Tryd.func37 rfl 46 rfl ?_
  repeat (first|refine q1 ?_|refine q3 ?_|refine q4 tab rfl rfl ?_|refine q5 ?_|refine q6 ?_)
  refine TO.step rfl (OT.lit tab rfl rfl rfl rfl (fun b1 => ?_))
  refine TO.freeze fun m1 hm1 hA1 => ?_
  have hw1 := mark2_rep hA1
  repeat (first|refine q2 ?_|refine q4 tab rfl rfl ?_|refine q5 ?_|refine q6 ?_)
  refine TC.loopK (ι := Nat) [0, 1, 9, 10] rfl (fun k => [(11, .int .i64 (k : Int))]) (fun _ => m1) (fun _ => L) (fun k => k ≤ 7 ∧ markL.find? (fun p => prefixB p (s.drop a)) = ((mark2.drop k) ++ mark1).find? (fun p => prefixB p (s.drop a))) (fun k => 7 - k) 0 (by repeat (first|exact trivial|refine And.intro rfl ?_)) rfl (by repeat (exact List.Sublist.refl _)) ⟨Nat.zero_le _, rfl⟩ ?_
  rintro k ⟨hk, hI⟩
  have hm2l : mark2.length = 7 := rfl
  repeat (first|refine q1 ?_|refine q3 ?_|refine q4 tab rfl rfl ?_|refine q5 ?_|refine q6 ?_)
  refine TC.condP rfl (fun g1 => ?_) (fun g1 => ?_)
  · have hlt : k < mark2.length := by omega
    have hx : mark2[k]? = some mark2[k] := by simp [hlt]
    have h2 := mark2_len mark2[k] (List.getElem_mem hlt)
    have hcons := List.drop_eq_getElem_cons hlt
    repeat (first|refine q1 ?_|refine q2 ?_|refine q3 ?_|refine q6 ?_|refine q13 ?_)
    refine TO.step rfl (OT.index tab rStr k hw1 rfl rfl rfl rfl rfl (by first | rfl | omega) rfl hx ?_)
    rintro b i hd rfl hA
    (refine TO.step rfl (OT.loadA0 tab hA rfl rfl rfl rfl rfl ?_))
    repeat (first|refine q1 ?_|refine q3 ?_|refine q4 tab rfl rfl ?_|refine q5 ?_|refine q6 ?_)
    refine TO.step rfl (OT.arith (r' := ((a + 2 : Nat) : Int)) rfl rfl rfl rfl rfl rfl rfl (by omega) ?_)
    repeat (refine q4 tab rfl rfl ?_)
    (refine TO.splitP rfl rfl (fun g2 => ?_) (fun g2 => ?_))
    · repeat (refine q4 tab rfl rfl ?_)
      refine TO.step rfl (OT.arith (r' := ((a + 2 : Nat) : Int)) rfl rfl rfl rfl rfl rfl rfl (by omega) ?_)
      refine TO.step rfl (OT.sub tab a (a + 2) rfl rfl rfl rfl rfl rfl rfl (.inr rfl) (.inr rfl) (by omega) (by omega) ?_)
      have hpre := pre_at (s := s) h2 (show a + 2 ≤ s.length by omega)
      repeat (first|refine q4 tab rfl rfl ?_|refine q5 ?_|refine q6 ?_)
      refine TC.condP rfl (fun g3 => ?_) (fun g3 => ?_)
      · repeat (first|refine q1 ?_|refine q3 ?_|refine q4 tab rfl rfl ?_|refine q5 ?_|refine q6 ?_|refine q8 ?_|refine q9 ?_|refine q15 ?_)
        refine retQ_ret rfl (by repeat (exact List.Sublist.refl _)) ⟨hm1, rfl, ?_⟩
        rw [decide_eq_true g3] at hpre
        rw [markT, hI, hcons, List.cons_append, List.find?_cons_of_pos (p := fun p => prefixB p (s.drop a)) hpre]
        rfl
      · rw [decide_eq_false g3] at hpre
        repeat (first|refine q3 ?_|refine q6 ?_|refine q7 ?_|refine q13 ?_)
        refine TO.step rfl (OT.arith (r' := ((k + 1 : Nat) : Int)) rfl rfl rfl rfl rfl rfl rfl (by omega) ?_)
        repeat (first|refine q4 tab rfl rfl ?_|refine q5 ?_|refine q6 ?_)
        exact ⟨k + 1, (by repeat (first|exact trivial|refine And.intro rfl ?_)), (by repeat (first|exact trivial|refine And.intro rfl ?_)), rfl, rfl, (by repeat (exact List.Sublist.refl _)), ⟨by omega, by rw [hI, hcons, List.cons_append, List.find?_cons_of_neg (p := fun p => prefixB p (s.drop a)) (by show ¬ prefixB mark2[k] (s.drop a) = true; rw [hpre]; decide)]⟩, by omega⟩
    · repeat (first|refine q3 ?_|refine q4 tab rfl rfl ?_|refine q5 ?_|refine q6 ?_|refine q7 ?_|refine q13 ?_|refine q17 rfl ?_)
      refine TO.step rfl (OT.arith (r' := ((k + 1 : Nat) : Int)) rfl rfl rfl rfl rfl rfl rfl (by omega) ?_)
      repeat (first|refine q4 tab rfl rfl ?_|refine q5 ?_|refine q6 ?_)
      refine ⟨k + 1, (by repeat (first|exact trivial|refine And.intro rfl ?_)), (by repeat (first|exact trivial|refine And.intro rfl ?_)), rfl, rfl, (by repeat (exact List.Sublist.refl _)), ⟨by omega, ?_⟩, by omega⟩
      rw [hI, hcons, List.cons_append, List.find?_cons_of_neg (p := fun p => prefixB p (s.drop a))]
      show ¬ prefixB mark2[k] (s.drop a) = true
      rw [prefixB_iff, List.length_drop, h2]
      omega
  have hk7 : k = 7 := by omega
  subst hk7
  rw [show mark2.drop 7 ++ mark1 = mark1 from rfl] at hI
  repeat (first|refine q1 ?_|refine q3 ?_|refine q6 ?_|refine q10 ?_|refine q11 ?_|refine q14 ?_)
  refine TO.step rfl (OT.lit tab rfl rfl rfl rfl (fun b2 => ?_))
  refine TO.freeze fun m2 hm2 hA2 => ?_
  have hw2 := mark1_rep hA2
  have hm12 := Mem.le_trans hm1 hm2
  repeat (first|refine q2 ?_|refine q4 tab rfl rfl ?_|refine q5 ?_|refine q6 ?_)
  refine TC.loopK (ι := Nat) [0, 1, 31, 32] rfl (fun k => [(33, .int .i64 (k : Int))]) (fun _ => m2) (fun _ => L) (fun k => k ≤ 20 ∧ markL.find? (fun p => prefixB p (s.drop a)) = (mark1.drop k).find? (fun p => prefixB p (s.drop a))) (fun k => 20 - k) 0 (by repeat (first|exact trivial|refine And.intro rfl ?_)) rfl (by repeat (exact List.Sublist.refl _)) ⟨Nat.zero_le _, hI⟩ ?_
  rintro k ⟨hk, hI⟩
  have hm1l : mark1.length = 20 := rfl
  repeat (first|refine q1 ?_|refine q3 ?_|refine q4 tab rfl rfl ?_|refine q5 ?_|refine q6 ?_)
  refine TC.condP rfl (fun g1 => ?_) (fun g1 => ?_)
  · have hlt : k < mark1.length := by omega
    have hx : mark1[k]? = some mark1[k] := by simp [hlt]
    have h2 := mark1_len mark1[k] (List.getElem_mem hlt)
    have hcons := List.drop_eq_getElem_cons hlt
    have hpre := pre_at (s := s) h2 (show a + 1 ≤ s.length by omega)
    repeat (first|refine q1 ?_|refine q2 ?_|refine q3 ?_|refine q6 ?_|refine q13 ?_)
    refine TO.step rfl (OT.index tab rStr k hw2 rfl rfl rfl rfl rfl (by first | rfl | omega) rfl hx ?_)
    rintro b i hd rfl hA
    (refine TO.step rfl (OT.loadA0 tab hA rfl rfl rfl rfl rfl ?_))
    repeat (first|refine q1 ?_|refine q3 ?_|refine q4 tab rfl rfl ?_|refine q5 ?_|refine q6 ?_)
    refine TO.step rfl (OT.arith (r' := ((a + 1 : Nat) : Int)) rfl rfl rfl rfl rfl rfl rfl (by omega) ?_)
    refine TO.step rfl (OT.sub tab a (a + 1) rfl rfl rfl rfl rfl rfl rfl (.inr rfl) (.inr rfl) (by omega) (by omega) ?_)
    repeat (first|refine q4 tab rfl rfl ?_|refine q5 ?_|refine q6 ?_)
    refine TC.condP rfl (fun g3 => ?_) (fun g3 => ?_)
    · repeat (first|refine q1 ?_|refine q3 ?_|refine q4 tab rfl rfl ?_|refine q5 ?_|refine q6 ?_|refine q8 ?_|refine q9 ?_|refine q15 ?_)
      refine retQ_ret rfl (by repeat (exact List.Sublist.refl _)) ⟨hm12, rfl, ?_⟩
      rw [decide_eq_true g3] at hpre
      rw [markT, hI, hcons, List.find?_cons_of_pos (p := fun p => prefixB p (s.drop a)) hpre]
      rfl
    · rw [decide_eq_false g3] at hpre
      repeat (first|refine q3 ?_|refine q6 ?_|refine q7 ?_|refine q13 ?_)
      refine TO.step rfl (OT.arith (r' := ((k + 1 : Nat) : Int)) rfl rfl rfl rfl rfl rfl rfl (by omega) ?_)
      repeat (first|refine q4 tab rfl rfl ?_|refine q5 ?_|refine q6 ?_)
      exact ⟨k + 1, (by repeat (first|exact trivial|refine And.intro rfl ?_)), (by repeat (first|exact trivial|refine And.intro rfl ?_)), rfl, rfl, (by repeat (exact List.Sublist.refl _)), ⟨by omega, by rw [hI, hcons, List.find?_cons_of_neg (p := fun p => prefixB p (s.drop a)) (by show ¬ prefixB mark1[k] (s.drop a) = true; rw [hpre]; decide)]⟩, by omega⟩
  · repeat (first|refine q1 ?_|refine q3 ?_|refine q4 tab rfl rfl ?_|refine q5 ?_|refine q6 ?_|refine q10 ?_|refine q11 ?_|refine q14 ?_|refine q15 ?_)
    refine retQ_ret rfl (by repeat (exact List.Sublist.refl _)) ⟨hm12, rfl, ?_⟩
    rw [markT, hI, show mark1.drop k = [] from List.drop_eq_nil_of_le (by omega)]
    rfl
end Go.Sep

/-
  The reference's token.
-/
set_option linter.unusedVariables false
set_option linter.unusedSimpArgs false
namespace Go.Sep
open Go.Proofs
attribute [local irreducible] TC TO OT TCallX TCall DO DOt thenQ blockQ retQ At

/-- what the reference's token answers -/
def TokR (a : Nat) (o : Option (Tok × Nat)) (r : Value) : Prop := ∃ t e, r = .tuple ⟨[tokV t, .int .i64 e]⟩ ∧ ((∃ t' n, o = some (t', n) ∧ t = ⟨t'.kind, t'.text, t'.num, (a : Int)⟩ ∧ e = ((a + n : Nat) : Int)) ∨ (o = none ∧ e = -1))

set_option maxHeartbeats 2000000 in
theorem token_ref (m : Mem) (L : List Item) (s : Str) (a : Nat) (ha : a < s.length) (hl : s.length ≤ 70000) : TCall Tryd.prog 20 ⟨[strV s, .int .i64 (a : Int)]⟩ m L (Made m L fun r _ => TokR a (tokD (s.drop a)) r) := by
  have hx0 : s[a]? = some s[a] := by simp [ha]
  have hd := List.drop_eq_getElem_cons ha
  unfold TCall
  refine TCallX.enter Tryd.func20 rfl 90 rfl ?_
  repeat (first|refine q1 ?_|refine q3 ?_)
  refine TO.step rfl (OT.alloc tab rfl rfl rfl rfl (fun b4 => ?_))
  repeat (first|refine q1 ?_|refine q3 ?_|refine q4 tab rfl rfl ?_|refine q5 ?_|refine q6 ?_)
  refine TO.step rfl (OT.alloc tab rfl rfl rfl rfl (fun b6 => ?_))
  skip
  (refine TO.step rfl (OT.storeL0 tab 0 rfl rfl rfl rfl rfl rfl rfl rfl ?_))
  repeat (first|refine q1 ?_|refine q2 ?_|refine q3 ?_|refine q4 tab rfl rfl ?_|refine q5 ?_|refine q6 ?_)
  refine TO.step rfl (OT.sidx tab a rfl rfl rfl rfl rfl rfl rfl hx0 ?_)
  refine TO.step rfl (OT.call rfl rfl rfl rfl rfl rfl goes29 ((letter_ref _ _ s[a]).x ?_));
  rintro _ _ _ ⟨rfl, rfl, rfl⟩
  repeat (first|refine q4 tab rfl rfl ?_|refine q5 ?_|refine q6 ?_)
  refine TC.cond rfl (fun c1 => ?_) (fun c1 => ?_)
  · repeat (first|refine q1 ?_|refine q2 ?_)
    refine TC.loopK (ι := Nat) [0, 1, 4, 6] rfl (fun k => [(7, .int .i64 ((a + k : Nat) : Int))]) (fun _ => m) (fun _ => .cells b6 0 (tokC ⟨0, [], 0, (a : Int)⟩) :: .cells b4 0 (tokC ⟨0, [], 0, 0⟩) :: L) (fun k => a + k ≤ s.length ∧ ((s.drop a).take k).all lod = true) (fun k => s.length - (a + k)) 0 (by repeat (first|exact trivial|refine And.intro rfl ?_)) rfl (by repeat (exact List.Sublist.refl _)) ⟨by omega, by simp⟩ ?_
    rintro k ⟨hk, hall⟩
    repeat (refine q1 ?_)
    refine TC.cutT (ι := Bool) [0, 1, 4, 6, 7] rfl (fun v => [(44, .bool v)]) (fun _ => m) (fun _ => .cells b6 0 (tokC ⟨0, [], 0, (a : Int)⟩) :: .cells b4 0 (tokC ⟨0, [], 0, 0⟩) :: L) (fun v => (v = true → ∃ h : a + k < s.length, lod s[a + k] = true) ∧ (v = false → ∀ x, (s.drop a)[k]? = some x → lod x = false)) ?_ (fun v hv => ?_)
    · repeat (first|refine q3 ?_|refine q4 tab rfl rfl ?_)
      (refine TO.splitP rfl rfl (fun g1 => ?_) (fun g1 => ?_))
      · have hlt : a + k < s.length := by omega
        have hx : s[a + k]? = some s[a + k] := by simp [hlt]
        repeat (refine q4 tab rfl rfl ?_)
        refine TO.step rfl (OT.sidx tab (a + k) rfl rfl rfl rfl rfl rfl rfl hx ?_)
        skip
        refine TO.step rfl (OT.call rfl rfl rfl rfl rfl rfl goes29 ((letter_ref _ _ s[a + k]).x ?_));
        rintro _ _ _ ⟨rfl, rfl, rfl⟩
        repeat (refine q4 tab rfl rfl ?_)
        (refine TO.split rfl rfl (fun g2 => ?_) (fun g2 => ?_))
        · repeat (first|refine q4 tab rfl rfl ?_|refine q5 ?_|refine q6 ?_)
          refine ⟨true, (by repeat (first|exact trivial|refine And.intro rfl ?_)), (by repeat (first|exact trivial|refine And.intro rfl ?_)), rfl, rfl, (by repeat (exact List.Sublist.refl _)), fun _ => ⟨hlt, by unfold lod; rw [g2]; rfl⟩, fun h => (by cases h)⟩
        · repeat (refine q4 tab rfl rfl ?_)
          refine TO.step rfl (OT.sidx tab (a + k) rfl rfl rfl rfl rfl rfl rfl hx ?_)
          skip
          refine TO.step rfl (OT.call rfl rfl rfl rfl rfl rfl goes27 ((digit_ref _ _ s[a + k]).x ?_));
          rintro _ _ _ ⟨rfl, rfl, rfl⟩
          repeat (first|refine q4 tab rfl rfl ?_|refine q5 ?_|refine q6 ?_)
          refine ⟨_, (by repeat (first|exact trivial|refine And.intro rfl ?_)), (by repeat (first|exact trivial|refine And.intro rfl ?_)), rfl, rfl, (by repeat (exact List.Sublist.refl _)), fun h => ⟨hlt, by unfold lod; rw [h]; simp⟩, fun h x hx2 => ?_⟩
          rw [List.getElem?_drop, hx] at hx2
          cases hx2
          unfold lod
          rw [g2, h]; rfl
      · repeat (first|refine q4 tab rfl rfl ?_|refine q5 ?_|refine q6 ?_)
        refine ⟨false, (by repeat (first|exact trivial|refine And.intro rfl ?_)), (by repeat (first|exact trivial|refine And.intro rfl ?_)), rfl, rfl, (by repeat (exact List.Sublist.refl _)), fun h => (by cases h), fun _ x hx2 => ?_⟩
        rw [List.getElem?_drop, List.getElem?_eq_none (by omega)] at hx2
        cases hx2
    skip
    refine TC.cond rfl (fun g1 => ?_) (fun g1 => ?_)
    · subst g1
      obtain ⟨hlt, hlo⟩ := hv.1 rfl
      have hlt' : k < (s.drop a).length := by rw [List.length_drop]; omega
      have hget : (s.drop a)[k] = s[a + k] := by simp
      repeat (first|refine q2 ?_|refine q3 ?_|refine q4 tab rfl rfl ?_|refine q6 ?_|refine q13 ?_)
      refine TO.step rfl (OT.arith (r' := ((a + (k + 1) : Nat) : Int)) rfl rfl rfl rfl rfl rfl rfl (by omega) ?_)
      repeat (first|refine q4 tab rfl rfl ?_|refine q5 ?_|refine q6 ?_|refine q7 ?_)
      exact ⟨k + 1, (by repeat (first|exact trivial|refine And.intro rfl ?_)), (by repeat (first|exact trivial|refine And.intro rfl ?_)), rfl, rfl, (by repeat (exact List.Sublist.refl _)), ⟨by omega, by rw [List.take_succ_eq_append_getElem hlt', List.all_append, hall, hget, List.all_cons, hlo]; rfl⟩, by omega⟩
    subst g1
    have hsp : spanOf lod (s.drop a) = k := span_eq_of hall (by rw [List.length_drop]; omega) (hv.2 rfl)
    have hcut : (s.take (a + k)).drop a = (s.drop a).take k := by rw [List.drop_take, Nat.add_sub_cancel_left]
    repeat (first|refine q1 ?_|refine q3 ?_|refine q4 tab rfl rfl ?_|refine q6 ?_|refine q10 ?_|refine q11 ?_|refine q14 ?_)
    refine TO.step rfl (OT.arith (r' := ((k : Nat) : Int)) rfl rfl rfl rfl rfl rfl (by omega) (by omega) ?_)
    repeat (first|refine q4 tab rfl rfl ?_|refine q5 ?_|refine q6 ?_)
    refine TC.condP rfl (fun c2 => ?_) (fun c2 => ?_)
    · repeat (first|refine q1 ?_|refine q3 ?_)
      (refine qs rfl (qz tab 0 rfl rfl rfl rfl rfl rfl ?_))
      skip
      (refine TO.step rfl (OT.storeL0 tab 1 rfl rfl rfl rfl rfl rfl rfl rfl ?_))
      repeat (first|refine q4 tab rfl rfl ?_|refine q5 ?_|refine q6 ?_|refine q8 ?_|refine q9 ?_|refine q15 ?_)
      refine retQ_ret_c tab 1 rfl rfl rfl rfl rfl (L' := L) (by repeat (first|exact List.Sublist.refl _|refine List.Sublist.cons _ ?_)) ⟨(Mem.le_refl _), rfl, ?_⟩
      refine ⟨⟨0, [], 0, (a : Int)⟩, _, rfl, .inr ⟨?_, rfl⟩⟩
      rw [hd, tokD, if_pos c1, ← hd, hsp, if_pos (by omega)]
    · repeat (first|refine q1 ?_|refine q6 ?_|refine q13 ?_)
      refine TC.draw [] mixed 8 rfl [] (.cells b6 0 (tokC ⟨0, [], 0, (a : Int)⟩) :: .cells b4 0 (tokC ⟨0, [], 0, 0⟩) :: L) (List.Perm.refl _) ?_
      refine DO.pure tab (by repeat (first|exact Calm.ret|refine Calm.then ?_|refine Calm.block ?_)) (by kernel_rfl) [0, 1, 2, 4] (by kernel_rfl) rfl ?_
      refine DO.fork 3 [5] (by kernel_rfl) ⟨⟨_, rfl, rfl, rfl, ?_⟩, ⟨_, rfl, rfl, rfl, ?_⟩, trivial⟩
      · refine OT.sub tab a (a + k) rfl rfl rfl rfl rfl rfl rfl (.inr rfl) (.inr rfl) (by omega) (by omega) ?_
        refine ⟨Mem.le_refl _, _, List.Perm.refl _, ?_⟩
        refine DO.run 5 rfl rfl (by kernel_rfl) rfl ?_
        refine OT.storeL0 tab 0 rfl rfl rfl rfl rfl rfl rfl rfl ?_
        refine ⟨Mem.le_refl _, _, List.Perm.refl _, ?_⟩
        refine DO.pure tab (by repeat (first|exact Calm.ret|refine Calm.then ?_|refine Calm.block ?_)) (by kernel_rfl) [6] (by kernel_rfl) rfl ?_
        refine DO.run 7 rfl rfl (by kernel_rfl) rfl ?_
        refine OT.storeL tab 0 rfl rfl rfl rfl rfl rfl rfl rfl ?_
        refine ⟨Mem.le_refl _, _, List.Perm.refl _, ?_⟩
        refine DO.nil (by kernel_rfl) ?_
        refine thenQ_n ?_
        repeat (first|refine q1 ?_|refine q3 ?_|refine q4 tab rfl rfl ?_)
        (refine qs rfl (ql tab 0 rfl rfl rfl rfl rfl rfl ?_))
        skip
        refine TO.step rfl (OT.call rfl rfl rfl rfl rfl rfl goes28 ((reserved_ref _ _ _).x ?_));
        rintro _ _ _ ⟨rfl, rfl, rfl⟩
        rw [hcut]
        repeat (first|refine q5 ?_|refine q6 ?_)
        refine TC.condP rfl (fun c3 => ?_) (fun c3 => ?_)
        · repeat (first|refine q3 ?_|refine q4 tab rfl rfl ?_)
          (refine TO.step rfl (OT.storeL tab 0 rfl rfl rfl rfl rfl rfl rfl rfl ?_))
          repeat (first|refine q1 ?_|refine q3 ?_|refine q5 ?_|refine q6 ?_|refine q7 ?_)
          (refine qs rfl (qz tab 0 rfl rfl rfl rfl rfl rfl ?_))
          repeat (refine q4 tab rfl rfl ?_)
          (refine TO.step rfl (OT.storeL0 tab 1 rfl rfl rfl rfl rfl rfl rfl rfl ?_))
          repeat (first|refine q4 tab rfl rfl ?_|refine q5 ?_|refine q6 ?_|refine q15 ?_)
          refine retQ_ret_c tab 1 rfl rfl rfl rfl rfl (L' := L) (by repeat (first|exact List.Sublist.refl _|refine List.Sublist.cons _ ?_)) ⟨(Mem.le_refl _), rfl, ?_⟩
          refine ⟨⟨5, (s.drop a).take k, 0, (a : Int)⟩, _, rfl, .inl ⟨⟨5, (s.drop a).take k, 0, 0⟩, k, ?_, rfl, rfl⟩⟩
          rw [hd, tokD, if_pos c1, ← hd, hsp, if_neg (by omega), if_pos c3]
        · repeat (first|refine q1 ?_|refine q3 ?_|refine q6 ?_|refine q7 ?_|refine q13 ?_)
          (refine qs rfl (qz tab 0 rfl rfl rfl rfl rfl rfl ?_))
          repeat (refine q4 tab rfl rfl ?_)
          (refine TO.step rfl (OT.storeL0 tab 1 rfl rfl rfl rfl rfl rfl rfl rfl ?_))
          repeat (first|refine q4 tab rfl rfl ?_|refine q5 ?_|refine q6 ?_|refine q15 ?_)
          refine retQ_ret_c tab 1 rfl rfl rfl rfl rfl (L' := L) (by repeat (first|exact List.Sublist.refl _|refine List.Sublist.cons _ ?_)) ⟨(Mem.le_refl _), rfl, ?_⟩
          refine ⟨⟨1, (s.drop a).take k, 0, (a : Int)⟩, _, rfl, .inl ⟨⟨1, (s.drop a).take k, 0, 0⟩, k, ?_, rfl, rfl⟩⟩
          rw [hd, tokD, if_pos c1, ← hd, hsp, if_neg (by omega), if_neg c3]
      · refine OT.storeL0 tab 0 rfl rfl rfl rfl rfl rfl rfl rfl ?_
        refine ⟨Mem.le_refl _, _, List.Perm.refl _, ?_⟩
        refine DO.run 3 rfl rfl (by kernel_rfl) rfl ?_
        refine OT.sub tab a (a + k) rfl rfl rfl rfl rfl rfl rfl (.inr rfl) (.inr rfl) (by omega) (by omega) ?_
        refine ⟨Mem.le_refl _, _, List.Perm.refl _, ?_⟩
        refine DO.pure tab (by repeat (first|exact Calm.ret|refine Calm.then ?_|refine Calm.block ?_)) (by kernel_rfl) [6] (by kernel_rfl) rfl ?_
        refine DO.run 7 rfl rfl (by kernel_rfl) rfl ?_
        refine OT.storeL tab 0 rfl rfl rfl rfl rfl rfl rfl rfl ?_
        refine ⟨Mem.le_refl _, _, List.Perm.refl _, ?_⟩
        refine DO.nil (by kernel_rfl) ?_
        refine thenQ_n ?_
        repeat (first|refine q1 ?_|refine q3 ?_|refine q4 tab rfl rfl ?_)
        (refine qs rfl (ql tab 0 rfl rfl rfl rfl rfl rfl ?_))
        skip
        refine TO.step rfl (OT.call rfl rfl rfl rfl rfl rfl goes28 ((reserved_ref _ _ _).x ?_));
        rintro _ _ _ ⟨rfl, rfl, rfl⟩
        rw [hcut]
        repeat (first|refine q5 ?_|refine q6 ?_)
        refine TC.condP rfl (fun c3 => ?_) (fun c3 => ?_)
        · repeat (first|refine q3 ?_|refine q4 tab rfl rfl ?_)
          (refine TO.step rfl (OT.storeL tab 0 rfl rfl rfl rfl rfl rfl rfl rfl ?_))
          repeat (first|refine q1 ?_|refine q3 ?_|refine q5 ?_|refine q6 ?_|refine q7 ?_)
          (refine qs rfl (qz tab 0 rfl rfl rfl rfl rfl rfl ?_))
          repeat (refine q4 tab rfl rfl ?_)
          (refine TO.step rfl (OT.storeL0 tab 1 rfl rfl rfl rfl rfl rfl rfl rfl ?_))
          repeat (first|refine q4 tab rfl rfl ?_|refine q5 ?_|refine q6 ?_|refine q15 ?_)
          refine retQ_ret_c tab 1 rfl rfl rfl rfl rfl (L' := L) (by repeat (first|exact List.Sublist.refl _|refine List.Sublist.cons _ ?_)) ⟨(Mem.le_refl _), rfl, ?_⟩
          refine ⟨⟨5, (s.drop a).take k, 0, (a : Int)⟩, _, rfl, .inl ⟨⟨5, (s.drop a).take k, 0, 0⟩, k, ?_, rfl, rfl⟩⟩
          rw [hd, tokD, if_pos c1, ← hd, hsp, if_neg (by omega), if_pos c3]
        · repeat (first|refine q1 ?_|refine q3 ?_|refine q6 ?_|refine q7 ?_|refine q13 ?_)
          (refine qs rfl (qz tab 0 rfl rfl rfl rfl rfl rfl ?_))
          repeat (refine q4 tab rfl rfl ?_)
          (refine TO.step rfl (OT.storeL0 tab 1 rfl rfl rfl rfl rfl rfl rfl rfl ?_))
          repeat (first|refine q4 tab rfl rfl ?_|refine q5 ?_|refine q6 ?_|refine q15 ?_)
          refine retQ_ret_c tab 1 rfl rfl rfl rfl rfl (L' := L) (by repeat (first|exact List.Sublist.refl _|refine List.Sublist.cons _ ?_)) ⟨(Mem.le_refl _), rfl, ?_⟩
          refine ⟨⟨1, (s.drop a).take k, 0, (a : Int)⟩, _, rfl, .inl ⟨⟨1, (s.drop a).take k, 0, 0⟩, k, ?_, rfl, rfl⟩⟩
          rw [hd, tokD, if_pos c1, ← hd, hsp, if_neg (by omega), if_neg c3]
  have c1' : ¬ ltr s[a] = true := by rw [c1]; decide
  repeat (first|refine q1 ?_|refine q3 ?_|refine q4 tab rfl rfl ?_)
  refine TO.step rfl (OT.sidx tab a rfl rfl rfl rfl rfl rfl rfl hx0 ?_)
  refine TO.step rfl (OT.call rfl rfl rfl rfl rfl rfl goes27 ((digit_ref _ _ s[a]).x ?_));
  rintro _ _ _ ⟨rfl, rfl, rfl⟩
  repeat (first|refine q4 tab rfl rfl ?_|refine q5 ?_|refine q6 ?_)
  refine TC.cond rfl (fun c2 => ?_) (fun c2 => ?_)
  · repeat (first|refine q1 ?_|refine q3 ?_|refine q4 tab rfl rfl ?_)
    (refine TO.step rfl (OT.storeL tab 0 rfl rfl rfl rfl rfl rfl rfl rfl ?_))
    repeat (first|refine q3 ?_|refine q4 tab rfl rfl ?_|refine q5 ?_|refine q6 ?_)
    refine TO.step rfl (OT.call rfl rfl rfl rfl rfl rfl goes35 ((number_ref _ _ s a ha c2 hl).x ?_));
    rintro _ _ _ ⟨rfl, rfl, rfl⟩
    have hD : tokD (s.drop a) = (numT (s.drop a)).map fun p => (⟨2, [], p.1, 0⟩, p.2) := by rw [hd, tokD_num c2]
    cases hn : numT (s.drop a) with
    | none =>
      rw [hn] at hD
      show TO _ _ _ _ ((_, .tuple ⟨[.int .i64 0, .int .i64 (-1)]⟩) :: _) _ _ _ _
      repeat (refine q4 tab rfl rfl ?_)
      (refine TO.step rfl (OT.storeL tab 0 rfl rfl rfl rfl rfl rfl rfl rfl ?_))
      repeat (first|refine q1 ?_|refine q3 ?_|refine q4 tab rfl rfl ?_|refine q5 ?_|refine q6 ?_|refine q7 ?_)
      (refine qs rfl (qz tab 0 rfl rfl rfl rfl rfl rfl ?_))
      repeat (refine q4 tab rfl rfl ?_)
      (refine TO.step rfl (OT.storeL0 tab 1 rfl rfl rfl rfl rfl rfl rfl rfl ?_))
      repeat (first|refine q4 tab rfl rfl ?_|refine q5 ?_|refine q6 ?_|refine q15 ?_)
      refine retQ_ret_c tab 1 rfl rfl rfl rfl rfl (L' := L) (by repeat (first|exact List.Sublist.refl _|refine List.Sublist.cons _ ?_)) ⟨(Mem.le_refl _), rfl, ?_⟩
      exact ⟨⟨2, [], 0, (a : Int)⟩, _, rfl, .inr ⟨hD, rfl⟩⟩
    | some p =>
      obtain ⟨v, n⟩ := p
      rw [hn] at hD
      show TO _ _ _ _ ((_, .tuple ⟨[.int .i64 (v : Int), .int .i64 ((a + n : Nat) : Int)]⟩) :: _) _ _ _ _
      repeat (refine q4 tab rfl rfl ?_)
      (refine TO.step rfl (OT.storeL tab 0 rfl rfl rfl rfl rfl rfl rfl rfl ?_))
      repeat (first|refine q1 ?_|refine q3 ?_|refine q4 tab rfl rfl ?_|refine q5 ?_|refine q6 ?_|refine q7 ?_)
      (refine qs rfl (qz tab 0 rfl rfl rfl rfl rfl rfl ?_))
      repeat (refine q4 tab rfl rfl ?_)
      (refine TO.step rfl (OT.storeL0 tab 1 rfl rfl rfl rfl rfl rfl rfl rfl ?_))
      repeat (first|refine q4 tab rfl rfl ?_|refine q5 ?_|refine q6 ?_|refine q15 ?_)
      refine retQ_ret_c tab 1 rfl rfl rfl rfl rfl (L' := L) (by repeat (first|exact List.Sublist.refl _|refine List.Sublist.cons _ ?_)) ⟨(Mem.le_refl _), rfl, ?_⟩
      exact ⟨⟨2, [], v, (a : Int)⟩, _, rfl, .inl ⟨⟨2, [], v, 0⟩, n, hD, rfl, rfl⟩⟩
  have c2' : ¬ dgt s[a] = true := by rw [c2]; decide
  repeat (first|refine q1 ?_|refine q3 ?_|refine q4 tab rfl rfl ?_)
  refine TO.step rfl (OT.sidx tab a rfl rfl rfl rfl rfl rfl rfl hx0 ?_)
  repeat (first|refine q4 tab rfl rfl ?_|refine q5 ?_|refine q6 ?_)
  refine TC.condP rfl (fun c3 => ?_) (fun c3 => ?_)
  · repeat (first|refine q1 ?_|refine q3 ?_|refine q4 tab rfl rfl ?_)
    (refine TO.step rfl (OT.storeL tab 0 rfl rfl rfl rfl rfl rfl rfl rfl ?_))
    repeat (first|refine q3 ?_|refine q4 tab rfl rfl ?_|refine q5 ?_|refine q6 ?_)
    refine TO.step rfl (OT.call rfl rfl rfl rfl rfl rfl goes36 ((str_ref _ _ s a ha hl).x ?_));
    rintro _ m1 _ ⟨hm1, rfl, rfl⟩
    have hD : tokD (s.drop a) = (match lit (s.drop (a + 1)) with
      | none => none
      | some (t, n) => if 1024 < t.length then none else some (⟨3, t, 0, 0⟩, n + 1)) := by
      rw [hd, tokD, if_neg c1', if_neg c2', if_pos (by omega)]
      try rfl
    cases hn : lit (s.drop (a + 1)) with
    | none =>
      rw [hn] at hD
      show TO _ _ _ _ ((_, .tuple ⟨[strV [], .int .i64 (-1)]⟩) :: _) _ _ _ _
      repeat (refine q4 tab rfl rfl ?_)
      (refine TO.step rfl (OT.storeL tab 0 rfl rfl rfl rfl rfl rfl rfl rfl ?_))
      repeat (first|refine q1 ?_|refine q3 ?_|refine q4 tab rfl rfl ?_|refine q5 ?_|refine q6 ?_|refine q7 ?_)
      (refine qs rfl (qz tab 0 rfl rfl rfl rfl rfl rfl ?_))
      repeat (refine q4 tab rfl rfl ?_)
      (refine TO.step rfl (OT.storeL0 tab 1 rfl rfl rfl rfl rfl rfl rfl rfl ?_))
      repeat (first|refine q4 tab rfl rfl ?_|refine q5 ?_|refine q6 ?_|refine q15 ?_)
      refine retQ_ret_c tab 1 rfl rfl rfl rfl rfl (L' := L) (by repeat (first|exact List.Sublist.refl _|refine List.Sublist.cons _ ?_)) ⟨hm1, rfl, ?_⟩
      exact ⟨⟨3, [], 0, (a : Int)⟩, _, rfl, .inr ⟨hD, rfl⟩⟩
    | some p =>
      obtain ⟨t, n⟩ := p
      rw [hn] at hD
      simp only at hD
      by_cases h1024 : 1024 < t.length
      · rw [if_pos h1024] at hD
        rw [show strR a (some (t, n)) = .tuple ⟨[strV [], .int .i64 (-1)]⟩ from if_pos h1024]
        repeat (refine q4 tab rfl rfl ?_)
        (refine TO.step rfl (OT.storeL tab 0 rfl rfl rfl rfl rfl rfl rfl rfl ?_))
        repeat (first|refine q1 ?_|refine q3 ?_|refine q4 tab rfl rfl ?_|refine q5 ?_|refine q6 ?_|refine q7 ?_)
        (refine qs rfl (qz tab 0 rfl rfl rfl rfl rfl rfl ?_))
        repeat (refine q4 tab rfl rfl ?_)
        (refine TO.step rfl (OT.storeL0 tab 1 rfl rfl rfl rfl rfl rfl rfl rfl ?_))
        repeat (first|refine q4 tab rfl rfl ?_|refine q5 ?_|refine q6 ?_|refine q15 ?_)
        refine retQ_ret_c tab 1 rfl rfl rfl rfl rfl (L' := L) (by repeat (first|exact List.Sublist.refl _|refine List.Sublist.cons _ ?_)) ⟨hm1, rfl, ?_⟩
        exact ⟨⟨3, [], 0, (a : Int)⟩, _, rfl, .inr ⟨hD, rfl⟩⟩
      · rw [if_neg h1024] at hD
        rw [show strR a (some (t, n)) = .tuple ⟨[strV t, .int .i64 ((a + 1 + n : Nat) : Int)]⟩ from if_neg h1024]
        repeat (refine q4 tab rfl rfl ?_)
        (refine TO.step rfl (OT.storeL tab 0 rfl rfl rfl rfl rfl rfl rfl rfl ?_))
        repeat (first|refine q1 ?_|refine q3 ?_|refine q4 tab rfl rfl ?_|refine q5 ?_|refine q6 ?_|refine q7 ?_)
        (refine qs rfl (qz tab 0 rfl rfl rfl rfl rfl rfl ?_))
        repeat (refine q4 tab rfl rfl ?_)
        (refine TO.step rfl (OT.storeL0 tab 1 rfl rfl rfl rfl rfl rfl rfl rfl ?_))
        repeat (first|refine q4 tab rfl rfl ?_|refine q5 ?_|refine q6 ?_|refine q15 ?_)
        refine retQ_ret_c tab 1 rfl rfl rfl rfl rfl (L' := L) (by repeat (first|exact List.Sublist.refl _|refine List.Sublist.cons _ ?_)) ⟨hm1, rfl, ?_⟩
        exact ⟨⟨3, t, 0, (a : Int)⟩, _, rfl, .inl ⟨⟨3, t, 0, 0⟩, n + 1, hD, rfl, by omega⟩⟩
  · repeat (first|refine q1 ?_|refine q3 ?_|refine q4 tab rfl rfl ?_)
    refine TO.step rfl (OT.call rfl rfl rfl rfl rfl rfl goes37 ((mark_ref _ _ s a ha hl).x ?_));
    rintro _ m1 _ ⟨hm1, rfl, rfl⟩
    have hD : tokD (s.drop a) = (match markL.find? (fun p => prefixB p (s.drop a)) with
      | none => none
      | some p => some (⟨4, p, 0, 0⟩, p.length)) := by
      rw [hd, tokD, if_neg c1', if_neg c2', if_neg (by omega)]
      try rfl
    repeat (refine q4 tab rfl rfl ?_)
    (refine TO.step rfl (OT.storeL tab 0 rfl rfl rfl rfl rfl rfl rfl rfl ?_))
    repeat (refine q4 tab rfl rfl ?_)
    (refine TO.step rfl (OT.storeL tab 0 rfl rfl rfl rfl rfl rfl rfl rfl ?_))
    repeat (first|refine q1 ?_|refine q3 ?_|refine q4 tab rfl rfl ?_|refine q5 ?_|refine q6 ?_)
    (refine qs rfl (ql tab 0 rfl rfl rfl rfl rfl rfl ?_))
    repeat (refine q4 tab rfl rfl ?_)
    cases hn : markL.find? (fun p => prefixB p (s.drop a)) with
    | none =>
      rw [hn] at hD
      have hmt : markT (s.drop a) = [] := by rw [markT, hn]; rfl
      rw [hmt]
      refine TO.step rfl (OT.arith (r' := (a : Int)) rfl rfl rfl rfl rfl rfl (by simp) (by omega) ?_)
      repeat (first|refine q1 ?_|refine q3 ?_|refine q4 tab rfl rfl ?_|refine q5 ?_|refine q6 ?_)
      (refine qs rfl (ql tab 0 rfl rfl rfl rfl rfl rfl ?_))
      repeat (first|refine q1 ?_|refine q3 ?_|refine q4 tab rfl rfl ?_|refine q5 ?_|refine q6 ?_|refine q7 ?_|refine q16 rfl ?_)
      (refine qs rfl (qz tab 0 rfl rfl rfl rfl rfl rfl ?_))
      repeat (refine q4 tab rfl rfl ?_)
      (refine TO.step rfl (OT.storeL0 tab 1 rfl rfl rfl rfl rfl rfl rfl rfl ?_))
      repeat (first|refine q4 tab rfl rfl ?_|refine q5 ?_|refine q6 ?_|refine q15 ?_)
      refine retQ_ret_c tab 1 rfl rfl rfl rfl rfl (L' := L) (by repeat (first|exact List.Sublist.refl _|refine List.Sublist.cons _ ?_)) ⟨hm1, rfl, ?_⟩
      exact ⟨⟨4, [], 0, (a : Int)⟩, _, rfl, .inr ⟨hD, rfl⟩⟩
    | some p =>
      rw [hn] at hD
      simp only at hD
      have hmt : markT (s.drop a) = p := by rw [markT, hn]; rfl
      have hp := markL_len p (List.mem_of_find?_eq_some hn)
      have hple := (tokD_le hD).2
      rw [List.length_drop] at hple
      rw [hmt]
      refine TO.step rfl (OT.arith (r' := ((a + p.length : Nat) : Int)) rfl rfl rfl rfl rfl rfl rfl (by omega) ?_)
      repeat (first|refine q1 ?_|refine q3 ?_|refine q4 tab rfl rfl ?_|refine q5 ?_|refine q6 ?_)
      (refine qs rfl (ql tab 0 rfl rfl rfl rfl rfl rfl ?_))
      repeat (first|refine q4 tab rfl rfl ?_|refine q5 ?_|refine q6 ?_)
      refine TC.condP rfl (fun c4 => ?_) (fun c4 => ?_)
      · rw [c4] at hp; simp at hp
      · repeat (first|refine q1 ?_|refine q3 ?_|refine q6 ?_|refine q7 ?_|refine q13 ?_)
        (refine qs rfl (qz tab 0 rfl rfl rfl rfl rfl rfl ?_))
        repeat (refine q4 tab rfl rfl ?_)
        (refine TO.step rfl (OT.storeL0 tab 1 rfl rfl rfl rfl rfl rfl rfl rfl ?_))
        repeat (first|refine q4 tab rfl rfl ?_|refine q5 ?_|refine q6 ?_|refine q15 ?_)
        refine retQ_ret_c tab 1 rfl rfl rfl rfl rfl (L' := L) (by repeat (first|exact List.Sublist.refl _|refine List.Sublist.cons _ ?_)) ⟨hm1, rfl, ?_⟩
        exact ⟨⟨4, p, 0, (a : Int)⟩, _, rfl, .inl ⟨⟨4, p, 0, 0⟩, p.length, hD, rfl, rfl⟩⟩
end Go.Sep

/-
  Tokens compared; the reference's Same.
-/
set_option linter.unusedVariables false
set_option linter.unusedSimpArgs false
namespace Go.Sep
open Go.Proofs

theorem run_eqInt (w : World) {t : TypeId} {k : IntKind} (n : Nat) (hu : (underlying t).run Tryd.prog w = .ok (.int k) w) (a b : Int) : (Op.equalIn (n + 1) t (.int .i64 a) (.int .i64 b)).run Tryd.prog w = .ok (decide (a = b)) w := by
  simp only [Op.equalIn, Sem.run_bind, hu, Result.andThen_ok]
  simp [beq_dec]
theorem run_eqStr (w : World) {t : TypeId} (n : Nat) (hu : (underlying t).run Tryd.prog w = .ok .string w) (a b : Str) : (Op.equalIn (n + 1) t (strV a) (strV b)).run Tryd.prog w = .ok (decide (a = b)) w := by
  simp only [Op.equalIn, Sem.run_bind, hu, Result.andThen_ok]
  simp only [beq_toListBytes, toList_mk, beq_dec, Sem.run_pure]

def tf0 : Field := { name := "Kind", type := 3, offset := 0, embedded := false, tag := "", pkgPath := "", byteOffset := 0 }
def tf1 : Field := { name := "Text", type := 9, offset := 1, embedded := false, tag := "", pkgPath := "", byteOffset := 8 }
def tf2 : Field := { name := "Num", type := 3, offset := 2, embedded := false, tag := "", pkgPath := "", byteOffset := 24 }
def tf3 : Field := { name := "At", type := 3, offset := 3, embedded := false, tag := "", pkgPath := "", byteOffset := 32 }
theorem tok_u (w : World) : (underlying 31).run Tryd.prog w = .ok (.struct #[tf0, tf1, tf2, tf3]) w := tab.run_underlying (i := tiOf Tryd.t31 Tryd.t30) w rfl
theorem int_u (w : World) : (underlying 3).run Tryd.prog w = .ok (.int .i64) w := tab.run_underlying (i := tiOf Tryd.t3 Tryd.t3) w rfl
theorem str_u (w : World) : (underlying 9).run Tryd.prog w = .ok .string w := tab.run_underlying (i := tiOf Tryd.t9 Tryd.t9) w rfl
theorem tok_stood : Tryd.prog.stoodInHeld 31 = false := by kernel_rfl
theorem tok_guard : Tryd.prog.eqGuardType Tryd.prog.depth 31 = false := by kernel_rfl

theorem run_eqTok (w : World) (a b : Tok) : (Op.equalIn (9998 + 1 + 1) 31 (tokV a) (tokV b)).run Tryd.prog w = .ok (decide (a = b)) w := by
  have p : ∀ (s : Tok) (f : Field) (v : Value), tab.part f.type (tokC s) f.offset = some v → (part f.type ⟨tokC s⟩ f.offset).run Tryd.prog w = .ok v w := fun s f v h => tab.run_part w h
  have p0 : ∀ s : Tok, (part tf0.type ⟨tokC s⟩ tf0.offset).run Tryd.prog w = .ok (.int .i64 s.kind) w := fun s => p s tf0 _ rfl
  have p1 : ∀ s : Tok, (part tf1.type ⟨tokC s⟩ tf1.offset).run Tryd.prog w = .ok (strV s.text) w := fun s => p s tf1 _ rfl
  have p2 : ∀ s : Tok, (part tf2.type ⟨tokC s⟩ tf2.offset).run Tryd.prog w = .ok (.int .i64 s.num) w := fun s => p s tf2 _ rfl
  have p3 : ∀ s : Tok, (part tf3.type ⟨tokC s⟩ tf3.offset).run Tryd.prog w = .ok (.int .i64 s.at_) w := fun s => p s tf3 _ rfl
  rw [Op.equalIn]
  simp only [Sem.run_bind, tok_u, Result.andThen_ok]
  simp only [Go.program, Sem.run]
  simp only [Result.andThen_ok, tok_stood, Bool.false_eq_true, if_false]
  have e0 : ∀ a b : Int, (Op.equalIn 9999 tf0.type (.int .i64 a) (.int .i64 b)).run Tryd.prog w = .ok (decide (a = b)) w := run_eqInt w 9998 (int_u w)
  have e1 : ∀ a b : Str, (Op.equalIn 9999 tf1.type (strV a) (strV b)).run Tryd.prog w = .ok (decide (a = b)) w := run_eqStr w 9998 (str_u w)
  have e2 : ∀ a b : Int, (Op.equalIn 9999 tf2.type (.int .i64 a) (.int .i64 b)).run Tryd.prog w = .ok (decide (a = b)) w := run_eqInt w 9998 (int_u w)
  have e3 : ∀ a b : Int, (Op.equalIn 9999 tf3.type (.int .i64 a) (.int .i64 b)).run Tryd.prog w = .ok (decide (a = b)) w := run_eqInt w 9998 (int_u w)
  have n0 : tf0.name ≠ "_" := by decide
  have n1 : tf1.name ≠ "_" := by decide
  have n2 : tf2.name ≠ "_" := by decide
  have n3 : tf3.name ≠ "_" := by decide
  have hiff : (a = b) ↔ (a.kind = b.kind ∧ a.text = b.text ∧ a.num = b.num ∧ a.at_ = b.at_) := by
    obtain ⟨a1, a2, a3, a4⟩ := a
    obtain ⟨b1, b2, b3, b4⟩ := b
    simp
  have hdec : decide (a = b) = (decide (a.kind = b.kind) && decide (a.text = b.text) && decide (a.num = b.num) && decide (a.at_ = b.at_)) := by
    rw [Bool.eq_iff_iff]; simp [hiff, and_assoc]
  rw [hdec]
  rw [← Array.forIn_toList]
  by_cases h0 : a.kind = b.kind
  · by_cases h1 : a.text = b.text
    · by_cases h2 : a.num = b.num
      · by_cases h3 : a.at_ = b.at_
        · simp [n0, n1, n2, n3, p0, p1, p2, p3, e0, e1, e2, e3, h0, h1, h2, h3]
        · simp [n0, n1, n2, n3, p0, p1, p2, p3, e0, e1, e2, e3, h0, h1, h2, h3]
      · simp [n0, n1, n2, n3, p0, p1, p2, p3, e0, e1, e2, e3, h0, h1, h2]
    · simp [n0, n1, n2, n3, p0, p1, p2, p3, e0, e1, e2, e3, h0, h1]
  · simp [n0, n1, n2, n3, p0, p1, p2, p3, e0, e1, e2, e3, h0]

theorem run_neqTok (w : World) (a b : Tok) (X Y : Operand) : (do eqGuard .neq 31 X Y (tokV a) (tokV b); binOp .neq 31 (tokV a) (tokV b) : Sem Value).run Tryd.prog w = .ok (.bool (!decide (a = b))) w := by
  have h := run_eqTok w a b
  have e1 : binOp .neq 31 (tokV a) (tokV b) = (do pure (.bool (!(← Op.equalIn (9998 + 1 + 1) 31 (tokV a) (tokV b)))) : Sem Value) := rfl
  have e2 : (eqGuard .neq 31 X Y (tokV a) (tokV b)).run Tryd.prog w = .ok () w := by
    simp [eqGuard, Go.program, Sem.run, tok_guard]
  rw [e1]
  simp only [Sem.run_bind, e2, Result.andThen_ok, h, Sem.run_pure]

section
variable {N : Nat} {ρ : Env} {D : List Deferred} {m : Mem} {L : List Item} {Q : EPost} {o : Oper} {K : Env → Mem → List Item → Prop}
theorem OT.neqTok {a b : Tok} {x y : Operand} {t' : TypeId} {d : Nat} (ho : o.op = .binOp .neq 31 x y t') (hd : o.dst = some d) (hN : Nat.blt d N = true)
    (hx : ev ρ x = some (tokV a)) (hy : ev ρ y = some (tokV b)) (hK : K ((d, .bool (!decide (a = b))) :: ρ) m L) : OT Tryd.prog N o ρ D m L Q K := by
  refine OT.run hd hN (fun ac w ha => ⟨w, ?_, ha.st⟩) hK
  have hr := run_neqTok w a b x y
  simp only [Sem.run_bind] at hr
  simp only [execOp, ho, ha.env.eval hx, ha.env.eval hy, Sem.run_bind]
  revert hr
  cases (eqGuard BinOp.neq 31 x y (tokV a) (tokV b)).run Tryd.prog w with
  | ok u w' => intro hr; simp only [Result.andThen_ok] at hr ⊢; rw [hr]; rfl
  | _ => intro hr; cases hr
end
attribute [local irreducible] TC TO OT TCallX TCall DO DOt thenQ blockQ retQ At

set_option maxHeartbeats 1000000 in
theorem same_ref (m : Mem) (L : List Item) (a b : Sl) (l : List Tok) (ha : SlRep rTok m a l) (hb : SlRep rTok m b l) (hl : l.length ≤ 70000) : TCall Tryd.prog 12 ⟨[a.v, b.v]⟩ m L (Ret (.bool true) m L) := by
  have hal : a.len = l.length := ha.len
  have hbl : b.len = l.length := hb.len
  unfold TCall
  refine TCallX.enter Tryd.func12 rfl 26 rfl ?_
  repeat (first|refine q1 ?_|refine q3 ?_|refine q4 tab rfl rfl ?_|refine q5 ?_|refine q6 ?_)
  refine TC.condN rfl (fun c0 => ?_) (fun c0 => ?_)
  · exfalso; omega
  repeat (first|refine q1 ?_|refine q2 ?_|refine q3 ?_|refine q4 tab rfl rfl ?_|refine q5 ?_|refine q6 ?_|refine q13 ?_)
  refine TC.loopK (ι := Nat) [0, 1] rfl (fun k => [(5, .int .i64 (k : Int))]) (fun _ => m) (fun _ => L) (fun k => k ≤ l.length) (fun k => l.length - k) 0 (by repeat (first|exact trivial|refine And.intro rfl ?_)) rfl (by repeat (exact List.Sublist.refl _)) (Nat.zero_le _) ?_
  rintro k hk
  repeat (first|refine q1 ?_|refine q3 ?_|refine q4 tab rfl rfl ?_|refine q5 ?_|refine q6 ?_)
  refine TC.condP rfl (fun g1 => ?_) (fun g1 => ?_)
  · have hlt : k < l.length := by omega
    have hx : l[k]? = some l[k] := by simp [hlt]
    repeat (first|refine q1 ?_|refine q2 ?_|refine q6 ?_|refine q13 ?_)
    refine TC.draw0 [] mixed 9 rfl ?_
    refine DO.pure tab (by repeat (first|exact Calm.ret|refine Calm.then ?_|refine Calm.block ?_)) (by kernel_rfl) [0, 1] (by kernel_rfl) rfl ?_
    refine DO.index tab rTok 2 k ha (by repeat (first|exact Calm.ret|refine Calm.then ?_|refine Calm.block ?_)) (by kernel_rfl) (by kernel_rfl) rfl rfl rfl rfl rfl rfl rfl (by first | rfl | omega) rfl hx ?_
    rintro b1 i1 hd1 rfl hA1
    (refine DO.loadA (k := 0) tab 3 hA1 (by repeat (first|exact Calm.ret|refine Calm.then ?_|refine Calm.block ?_)) (by kernel_rfl) (by kernel_rfl) rfl rfl rfl rfl rfl rfl rfl ?_)
    refine DO.pure tab (by repeat (first|exact Calm.ret|refine Calm.then ?_|refine Calm.block ?_)) (by kernel_rfl) [4, 5] (by kernel_rfl) rfl ?_
    refine DO.index tab rTok 6 k hb (by repeat (first|exact Calm.ret|refine Calm.then ?_|refine Calm.block ?_)) (by kernel_rfl) (by kernel_rfl) rfl rfl rfl rfl rfl rfl rfl (by first | rfl | omega) rfl hx ?_
    rintro b2 i2 hd2 rfl hA2
    (refine DO.loadA (k := 0) tab 7 hA2 (by repeat (first|exact Calm.ret|refine Calm.then ?_|refine Calm.block ?_)) (by kernel_rfl) (by kernel_rfl) rfl rfl rfl rfl rfl rfl rfl ?_)
    refine DO.run 8 rfl rfl (by kernel_rfl) rfl ?_; refine OT.neqTok (a := l[k]) (b := l[k]) rfl rfl rfl rfl rfl ?_; refine ⟨Mem.le_refl _, _, List.Perm.refl _, ?_⟩
    (refine DO.nil0 (by kernel_rfl) ?_)
    rotate_left 1
    repeat (refine q6 ?_)
    refine TC.condN rfl (fun c1 => ?_) (fun c1 => ?_)
    · exact absurd rfl c1
    · repeat (first|refine q3 ?_|refine q4 tab rfl rfl ?_|refine q6 ?_|refine q7 ?_|refine q13 ?_)
      refine TO.step rfl (OT.arith (r' := ((k + 1 : Nat) : Int)) rfl rfl rfl rfl rfl rfl rfl (by omega) ?_)
      repeat (first|refine q4 tab rfl rfl ?_|refine q5 ?_|refine q6 ?_)
      exact ⟨k + 1, (by repeat (first|exact trivial|refine And.intro rfl ?_)), (by repeat (first|exact trivial|refine And.intro rfl ?_)), rfl, rfl, (by repeat (exact List.Sublist.refl _)), by omega, by omega⟩
  · repeat (first|refine q1 ?_|refine q3 ?_|refine q4 tab rfl rfl ?_|refine q5 ?_|refine q6 ?_|refine q10 ?_|refine q11 ?_|refine q14 ?_|refine q15 ?_)
    refine retQ_ret rfl (by repeat (exact List.Sublist.refl _)) ⟨rfl, rfl, ?_⟩
    rfl
end Go.Sep

/-
  The reference's Scan; ScanCuts.
-/
set_option linter.unusedVariables false
set_option linter.unusedSimpArgs false
namespace Go.Sep
open Go.Proofs
attribute [local irreducible] TC TO OT TCallX TCall DO DOt thenQ blockQ retQ At

/-- the place stands where blanks have been passed: a is the place behind them, a0 ahead -/
def CutB (s : Str) (a : Nat) (l : List Tok) (res : Except (Nat × Int) (List Tok)) : Prop := ∃ a0, a0 ≤ s.length ∧ a = a0 + blk false (s.drop a0) ∧ CutAt s a0 l res
theorem blk_lt {s : Str} {a : Nat} (h : a ≤ s.length) : a + blk false (s.drop a) ≤ s.length := by
  have := blk_le false (s.drop a)
  rw [List.length_drop] at this
  omega

structure RScanS where
  m : Mem
  sl : Sl
  l : List Tok
  a : Nat

set_option maxHeartbeats 1000000 in
theorem scan_ref (m : Mem) (L : List Item) (s : Str) : TCall Tryd.prog 10 ⟨[strV s]⟩ m L (Made m L fun r m' => ScanR (scanD s) r m') := by
  unfold TCall
  refine TCallX.enter Tryd.func10 rfl 40 rfl ?_
  repeat (first|refine q1 ?_|refine q3 ?_|refine q4 tab rfl rfl ?_|refine q5 ?_|refine q6 ?_)
  refine TC.condP rfl (fun c0 => ?_) (fun c0 => ?_)
  · repeat (first|refine q1 ?_|refine q3 ?_|refine q4 tab rfl rfl ?_|refine q5 ?_|refine q6 ?_|refine q8 ?_|refine q15 ?_)
    refine retQ_ret rfl (by repeat (exact List.Sublist.refl _)) ⟨Mem.le_refl _, rfl, ?_⟩
    rw [scanD, if_pos (by omega)]
    exact ⟨⟨none, 0, 0⟩, rfl, SlRep.nil _ _⟩
  have hl : s.length ≤ 65536 := by omega
  have hD : scanD s = .of (cutF (s.length + 1) s 0 0) := by rw [scanD, if_neg (by omega)]
  repeat (first|refine q1 ?_|refine q3 ?_|refine q6 ?_|refine q13 ?_)
  refine TO.step rfl (OT.lit tab rfl rfl rfl rfl (fun b0 => ?_))
  refine TO.drop (List.sublist_cons_self _ _) ?_
  repeat (first|refine q1 ?_|refine q3 ?_|refine q4 tab rfl rfl ?_|refine q5 ?_|refine q6 ?_)
  refine TO.step rfl (OT.call rfl rfl rfl rfl rfl rfl goes19 ((blanks_ref _ _ s 0 (Nat.zero_le _) (by omega)).x ?_));
  rintro _ _ _ ⟨rfl, rfl, rfl⟩
  repeat (first|refine q1 ?_|refine q2 ?_|refine q4 tab rfl rfl ?_|refine q5 ?_|refine q6 ?_)
  refine TC.growL b0 4 ?_
  refine TC.loopK (ι := RScanS) [0] rfl (fun x => [(5, x.sl.v), (6, .int .i64 (x.a : Int))]) (fun x => x.m) (fun x => tok x.sl 4 :: L) (fun x => m ≤ x.m ∧ x.a ≤ s.length ∧ SlRep rTok x.m x.sl x.l ∧ Own x.sl ∧ x.l.length ≤ 20000 ∧ CutB s x.a x.l (cutF (s.length + 1) s 0 0)) (fun x => s.length - x.a) ⟨m, ⟨some ⟨b0, 0, none⟩, 0, 0⟩, [], 0 + blk false (s.drop 0)⟩ (by repeat (first|exact trivial|refine And.intro rfl ?_)) rfl (by repeat (exact List.Sublist.refl _)) ⟨Mem.le_refl _, blk_lt (Nat.zero_le _), SlRep.lit0 _ _ _, Own.lit _ _ _, Nat.zero_le _, 0, Nat.zero_le _, rfl, CutAt.start s⟩ ?_
  rintro ⟨m1, sl, l, a⟩ ⟨hm, ha, hsl, hown, hll, hI⟩
  replace hm : m ≤ m1 := hm
  replace ha : a ≤ s.length := ha
  replace hsl : SlRep rTok m1 sl l := hsl
  replace hown : Own sl := hown
  replace hll : l.length ≤ 20000 := hll
  obtain ⟨a0, ha0, hab, hI⟩ := (show CutB s a l (cutF (s.length + 1) s 0 0) from hI)
  show TC _ _ _ ((5, sl.v) :: (6, .int .i64 (a : Int)) :: _) _ m1 (tok sl 4 :: L) _
  have hlen := hsl.len
  repeat (first|refine q1 ?_|refine q3 ?_|refine q4 tab rfl rfl ?_|refine q5 ?_|refine q6 ?_)
  refine TC.condP rfl (fun c1 => ?_) (fun c1 => ?_)
  · repeat (first|refine q1 ?_|refine q2 ?_|refine q3 ?_|refine q4 tab rfl rfl ?_|refine q5 ?_|refine q6 ?_|refine q13 ?_)
    refine TC.condP rfl (fun c2 => ?_) (fun c2 => ?_)
    · repeat (first|refine q1 ?_|refine q3 ?_|refine q4 tab rfl rfl ?_|refine q5 ?_|refine q6 ?_|refine q8 ?_|refine q9 ?_|refine q15 ?_)
      refine retQ_ret rfl (by repeat (first|exact List.Sublist.refl _|refine List.Sublist.cons _ ?_)) ⟨hm, rfl, ?_⟩
      rw [hD, hI.large ha0 (by omega) (by omega), ← hab]
      exact ⟨⟨none, 0, 0⟩, rfl, SlRep.nil _ _⟩
    repeat (first|refine q1 ?_|refine q3 ?_|refine q4 tab rfl rfl ?_|refine q6 ?_|refine q13 ?_)
    refine TO.step rfl (OT.call rfl rfl rfl rfl rfl rfl goes20 ((token_ref _ _ s a (by omega) (by omega)).x ?_));
    rintro _ m2 _ ⟨hm2, rfl, t, e, rfl, hn⟩
    repeat (refine q4 tab rfl rfl ?_)
    refine TO.step rfl (OT.alloc tab rfl rfl rfl rfl (fun b5 => ?_))
    skip
    (refine TO.step rfl (OT.storeL0 tab 0 rfl rfl rfl rfl rfl rfl rfl rfl ?_))
    repeat (first|refine q1 ?_|refine q3 ?_|refine q4 tab rfl rfl ?_|refine q5 ?_|refine q6 ?_)
    rcases hn with ⟨t', n, hn, rfl, rfl⟩ | ⟨hn, rfl⟩
    · have hnl := tokD_le hn
      rw [List.length_drop] at hnl
      have hgo := hI.go ha0 (by omega) (by omega) (by rw [← hab]; exact hn)
      rw [← hab] at hgo
      repeat (first|refine q1 ?_|refine q3 ?_|refine q4 tab rfl rfl ?_|refine q6 ?_|refine q13 ?_|refine q17 rfl ?_)
      (refine qs rfl (qz tab 0 rfl rfl rfl rfl rfl rfl ?_))
      skip
      refine TO.step rfl (OT.lit tab rfl rfl rfl rfl (fun b => ?_))
      refine TO.step rfl (OT.append1 tab rTok 1 (hd' := ⟨t'.kind, t'.text, t'.num, (a : Int)⟩) (a := ⟨t'.kind, t'.text, t'.num, (a : Int)⟩) (hsl.mono hm2) hown rfl rfl rfl rfl rfl rfl rfl rfl (by show (l.length + 1) * 40 ≤ _; omega) (fun s' m3 hm3 hs3 ho3 => ?_))
      repeat (first|refine q3 ?_|refine q4 tab rfl rfl ?_|refine q5 ?_|refine q6 ?_)
      refine TO.step rfl (OT.call rfl rfl rfl rfl rfl rfl goes19 ((blanks_ref _ _ s (a + n) (by omega) (by omega)).x ?_));
      rintro _ _ _ ⟨rfl, rfl, rfl⟩
      repeat (first|refine q4 tab rfl rfl ?_|refine q5 ?_|refine q6 ?_|refine q7 ?_)
      exact ⟨⟨m3, s', l ++ [⟨t'.kind, t'.text, t'.num, (a : Int)⟩], a + n + blk false (s.drop (a + n))⟩, (by repeat (first|exact trivial|refine And.intro rfl ?_)), (by repeat (first|exact trivial|refine And.intro rfl ?_)), rfl, rfl, (by repeat (first|exact List.Sublist.refl _|refine List.Sublist.cons _ ?_)), ⟨Mem.le_trans hm (Mem.le_trans hm2 hm3), blk_lt (by omega), hs3, ho3, by show (l ++ [_]).length ≤ _; rw [List.length_append]; simp only [List.length_cons, List.length_nil]; omega, a + n, by omega, rfl, hgo⟩, by show s.length - (a + n + _) < s.length - a; omega⟩
    · repeat (first|refine q1 ?_|refine q3 ?_|refine q4 tab rfl rfl ?_|refine q5 ?_|refine q6 ?_|refine q8 ?_|refine q9 ?_|refine q15 ?_|refine q16 rfl ?_)
      refine retQ_ret rfl (by repeat (first|exact List.Sublist.refl _|refine List.Sublist.cons _ ?_)) ⟨Mem.le_trans hm hm2, rfl, ?_⟩
      rw [hD, hI.text ha0 (by omega) (by omega) (by rw [← hab]; exact hn), ← hab]
      exact ⟨⟨none, 0, 0⟩, rfl, SlRep.nil _ _⟩
  · repeat (first|refine q1 ?_|refine q3 ?_|refine q4 tab rfl rfl ?_|refine q5 ?_|refine q6 ?_|refine q10 ?_|refine q11 ?_|refine q14 ?_|refine q15 ?_)
    refine retQ_ret rfl (by repeat (first|exact List.Sublist.refl _|refine List.Sublist.cons _ ?_)) ⟨hm, rfl, ?_⟩
    rw [hD, hI.end_ ha0 (by omega)]
    exact ⟨sl, rfl, hsl⟩
theorem scanD_len (s : Str) : (scanD s).list.length ≤ 20000 := by
  rcases scanD_cases s with ⟨_, h⟩ | ⟨_, l, h, _, h2, _⟩ | ⟨_, a, e, h, _⟩
  · rw [h]; exact Nat.zero_le _
  · rw [h]; exact h2
  · rw [h]; exact Nat.zero_le _
attribute [local irreducible] scanD
set_option maxHeartbeats 1000000 in
theorem scanCuts_walk (m : Mem) (L : List Item) (s : Str) (hE : Errs m) : TCall Tryd.prog 3 ⟨[strV s]⟩ m L (Made m L fun r _ => r = .bool true) := by
  have hll := scanD_len s
  unfold TCall
  refine TCallX.enter Tryd.func3 rfl 37 rfl ?_
  repeat (first|refine q1 ?_|refine q3 ?_|refine q4 tab rfl rfl ?_|refine q5 ?_|refine q6 ?_)
  refine TO.step rfl (OT.call rfl rfl rfl rfl rfl rfl goes9 ((scan_law _ _ s hE).x ?_));
  rintro _ m1 _ ⟨hm1, rfl, sl, rfl, hsl⟩
  repeat (first|refine q1 ?_|refine q3 ?_|refine q4 tab rfl rfl ?_|refine q5 ?_|refine q6 ?_)
  refine TO.step rfl (OT.call rfl rfl rfl rfl rfl rfl goes10 ((scan_ref _ _ s).x ?_));
  rintro _ m2 _ ⟨hm2, rfl, sl2, rfl, hsl2⟩
  have hm12 := Mem.le_trans hm1 hm2
  repeat (first|refine q1 ?_|refine q3 ?_|refine q4 tab rfl rfl ?_|refine q5 ?_|refine q6 ?_)
  refine TO.step rfl (OT.call rfl rfl rfl rfl rfl rfl goes11 ((awake_law _ _ (hE.mono hm12)).x ?_));
  rintro _ m3 _ ⟨hm3, rfl, rfl⟩
  repeat (refine q4 tab rfl rfl ?_)
  (refine TO.splitP rfl rfl (fun c1 => ?_) (fun c1 => ?_))
  · repeat (refine q4 tab rfl rfl ?_)
    (refine TO.splitP rfl rfl (fun c2 => ?_) (fun c2 => ?_))
    · repeat (refine q4 tab rfl rfl ?_)
      refine TO.step rfl (OT.call rfl rfl rfl rfl rfl rfl goes12 ((same_ref _ _ sl sl2 (scanD s).list ((hsl.mono hm2).mono hm3) (hsl2.mono hm3) (by omega)).x ?_));
      rintro _ _ _ ⟨rfl, rfl, rfl⟩
      repeat (first|refine q4 tab rfl rfl ?_|refine q5 ?_|refine q6 ?_|refine q15 ?_)
      refine retQ_ret rfl (by repeat (exact List.Sublist.refl _)) ⟨Mem.le_trans hm12 hm3, rfl, rfl⟩
    · exact absurd rfl c2
  · exact absurd rfl c1
end Go.Sep
