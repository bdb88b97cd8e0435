/-
  From the reading of the arguments and of the listed variables to the state that the walks start from; and back (the scan seat).
-/
import Derived.Test.YtdejeeooegekiaaDoorCards
import Derived.Test.YtdejeeooegekiaaDoorTie
import Derived.Deep.DeepHandedRow
import Derived.Deep.DeepWitnessRowRef
import Derived.Stop.LaidErr
import Derived.SizedLaws
import Derived.ChangeSame
import Derived.RowKit3
import Derived.ProofKit
import Derived.OpenShut
import Derived.JoinedCond
import Derived.LaidLaws
import Derived.Test.YtdejeeooegekiaaDoorB7
set_option linter.unusedVariables false
set_option linter.unusedSimpArgs false
namespace Go.Sep
open Go.Proofs Go.ChangeShapes Go.WideShapes Go.Proofs.YtdejeeooegekiaaDoor

/-- all that is there at the start -/
def memOf (W : World) : Mem := ⟨W, fun b i => W.cell? ⟨b, i, none⟩, fun _ => none, fun _ => none⟩

theorem St.start (W : World) : St (memOf W) W [] where
  os := rfl
  tape := rfl
  output := rfl
  size := Nat.le_refl _
  pin := fun _ _ => rfl
  c := fun _ _ _ h => h
  o := fun _ _ h => by cases h
  t := fun _ _ h => by cases h
  items := fun _ h => by cases h
  free := fun _ h => by cases h
  disj := List.Pairwise.nil

theorem St.kept {W w' : World} {m' : Mem} {L' : List Item} (h : St m' w' L') (hm : memOf W ≤ m') : W.keptBut w' (fun _ => False) := by
  have hp : m'.pin = W := hm.pin
  have hsz := h.size
  have hpin := h.pin
  rw [hp] at hsz hpin
  refine ⟨by rw [h.os, hp], by rw [h.output, hp], fun i hi => ?_⟩
  rw [hpin i hi]
  split
  · rename_i c t fr c' t' fr' h1 h2
    rw [h1] at h2
    simp only [Option.some.injEq, Obj.cells.injEq] at h2
    obtain ⟨rfl, rfl, rfl⟩ := h2
    exact ⟨rfl, rfl, rfl, fun _ _ => rfl⟩
  · rename_i es c es' c' h1 h2
    rw [h1] at h2
    simp only [Option.some.injEq, Obj.map.injEq] at h2
    obtain ⟨rfl, rfl⟩ := h2
    exact .inr ⟨rfl, rfl⟩
  · rfl
end Go.Sep
namespace Go.Proofs.YtdejeeooegekiaaDoor
open Go.ChangeShapes Go.WideShapes Go.ChangeAt Go.RowKit Go.Sep
open Go.ChangeMaps (open_string shut_string)
theorem own : ownKnob Tryd.prog.godebug = none := by kernel_rfl
theorem cells86 : Tryd.prog.cellsOf 86 = 1 := by kernel_rfl
theorem cells9 : Tryd.prog.cellsOf 9 = 1 := by kernel_rfl
theorem star : "*" ++ "errors.errorString" = "*errors.errorString" := by decide
theorem row84 (u : TypeId) (h : Tryd.prog.typeName? 3 u = some "*errors.errorString") : u = 84 :=
  typeName_ptr_named (nm := "errors.errorString") (by rw [star]; kernel_rfl) (by kernel_rfl) (by decide) u (by rw [star]; exact h)
theorem gSyn : Tryd.prog.globalNamed "strconv.ErrSyntax" = some 1 := by kernel_rfl
theorem gSynT : (Tryd.prog.globals[1]?).map (·.type) = some 52 := by kernel_rfl
theorem gRng : Tryd.prog.globalNamed "strconv.ErrRange" = some 2 := by kernel_rfl
theorem gRngT : (Tryd.prog.globals[2]?).map (·.type) = some 52 := by kernel_rfl

/-- what the rows list -/
def laidL : List (String × DataW Unit) := [("math/bits.deBruijn32tab", Rows.laid_math_bits_deBruijn32tab), ("math/bits.deBruijn64tab", Rows.laid_math_bits_deBruijn64tab), ("internal/strconv.uint64pow10", Rows.laid_internal_strconv_uint64pow10), ("strconv.ErrRange", Rows.laid_strconv_ErrRange), ("strconv.ErrSyntax", Rows.laid_strconv_ErrSyntax)]

theorem errs_of {W : World} (h : laidMetH Tryd.prog laidL W) : Errs (memOf W) := by
  have hL : laidMet Tryd.prog laidL W := h
  obtain ⟨a0, s0, hv0, -, -, -⟩ := laid_sentinel hL.tail.tail.tail gRng gRngT Tryd.underlying52 row84 Tryd.underlying84 Tryd.underlying86 rfl rfl Tryd.underlying9 cells86 cells9
  obtain ⟨a1, s1, hv1, -, -, -⟩ := laid_sentinel hL.tail.tail.tail.tail gSyn gSynT Tryd.underlying52 row84 Tryd.underlying84 Tryd.underlying86 rfl rfl Tryd.underlying9 cells86 cells9
  have c0 : W.cell? ⟨2, 0, none⟩ = some (.iface 84 (.pointer (some a0))) := by simpa using World.var?_cell gRng hv0 0
  have c1 : W.cell? ⟨1, 0, none⟩ = some (.iface 84 (.pointer (some a1))) := by simpa using World.var?_cell gSyn hv1 0
  refine ⟨⟨84, .pointer (some a1), fun j v hj => ?_⟩, ⟨84, .pointer (some a0), fun j v hj => ?_⟩⟩
  · cases j with
    | zero => cases hj; exact c1
    | succ j => simp at hj
  · cases j with
    | zero => cases hj; exact c0
    | succ j => simp at hj

abbrev synS : ByteArray := { data := #[105, 110, 118, 97, 108, 105, 100, 32, 115, 121, 110, 116, 97, 120] }
abbrev rngS : ByteArray := { data := #[118, 97, 108, 117, 101, 32, 111, 117, 116, 32, 111, 102, 32, 114, 97, 110, 103, 101] }
noncomputable def low : Nat := (World.holding Tryd.prog default ⟨#[], #[], []⟩).heap.size
/-- a world in which the listed variables are laid -/
noncomputable def laidWorld (os : Os) : World :=
  let w0 := World.holding Tryd.prog os ⟨#[.cells #[.string synS] 86, .cells #[.string rngS] 86], #[], []⟩
  let put (g : Nat) (vs : Array Value) (h : Array Obj) : Array Obj := h.modify g fun
      | .cells _ t frozen => .cells vs t frozen
      | o => o
  { w0 with heap := put 5 #[.int .u8 0, .int .u8 1, .int .u8 56, .int .u8 2, .int .u8 57, .int .u8 49, .int .u8 28, .int .u8 3, .int .u8 61, .int .u8 58, .int .u8 42, .int .u8 50, .int .u8 38, .int .u8 29, .int .u8 17, .int .u8 4, .int .u8 62, .int .u8 47, .int .u8 59, .int .u8 36, .int .u8 45, .int .u8 43, .int .u8 51, .int .u8 22, .int .u8 53, .int .u8 39, .int .u8 33, .int .u8 30, .int .u8 24, .int .u8 18, .int .u8 12, .int .u8 5, .int .u8 63, .int .u8 55, .int .u8 48, .int .u8 27, .int .u8 60, .int .u8 41, .int .u8 37, .int .u8 16, .int .u8 46, .int .u8 35, .int .u8 44, .int .u8 21, .int .u8 52, .int .u8 32, .int .u8 23, .int .u8 11, .int .u8 54, .int .u8 26, .int .u8 40, .int .u8 15, .int .u8 34, .int .u8 20, .int .u8 31, .int .u8 10, .int .u8 25, .int .u8 14, .int .u8 19, .int .u8 9, .int .u8 13, .int .u8 8, .int .u8 7, .int .u8 6] (put 4 #[.int .u8 0, .int .u8 1, .int .u8 28, .int .u8 2, .int .u8 29, .int .u8 14, .int .u8 24, .int .u8 3, .int .u8 30, .int .u8 22, .int .u8 20, .int .u8 15, .int .u8 25, .int .u8 17, .int .u8 4, .int .u8 8, .int .u8 31, .int .u8 27, .int .u8 13, .int .u8 23, .int .u8 21, .int .u8 19, .int .u8 16, .int .u8 7, .int .u8 26, .int .u8 12, .int .u8 18, .int .u8 6, .int .u8 11, .int .u8 5, .int .u8 10, .int .u8 9] (put 3 #[.int .u64 1, .int .u64 10, .int .u64 100, .int .u64 1000, .int .u64 10000, .int .u64 100000, .int .u64 1000000, .int .u64 10000000, .int .u64 100000000, .int .u64 1000000000, .int .u64 10000000000, .int .u64 100000000000, .int .u64 1000000000000, .int .u64 10000000000000, .int .u64 100000000000000, .int .u64 1000000000000000, .int .u64 10000000000000000, .int .u64 100000000000000000, .int .u64 1000000000000000000, .int .u64 10000000000000000000] (put 2 #[.iface 84 (.pointer (some ⟨low + 1, 0, none⟩))] (put 1 #[.iface 84 (.pointer (some ⟨low, 0, none⟩))] w0.heap)))) }

theorem laid_met (os : Os) (args : Array Value) : laidMet Tryd.prog laidL ((laidWorld os).forCall (fun _ _ => 0) ⟨#[], args, []⟩).memory :=
  laidMet_of_run' 8 (by kernel_rfl) (by kernel_rfl)

/-- behind the call all is as1 it was; what is new may be frozen -/
theorem post_old {H : Type} {enc : TypeId × Value → H} {f : Func} {s : ChangeSpec} {apart fresh handsOn : Bool} {W W' : World} {args : Array Value} {v : Value} {ds gs : List (DataW H)} {before pa pv : List MemPlace}
    (hW : DataW.Whole enc Tryd.prog f.params.toList s.vars apart W args.toList ds gs before)
    (hres : ∀ (b : Nat) (sp : Nat → Bool) (hd : Bool), DataW.TrodAll enc Tryd.prog W' b sp hd f.resultTypes.toList (v.resultList f.resultTypes.size) (s.fn H (ds ++ gs)).results [])
    (hargs : ∀ sp : Nat → Bool, (∀ p ∈ before, sp p.block = true) → DataW.TrodAll enc Tryd.prog W' 0 sp true f.params.toList args.toList (s.fn H (ds ++ gs)).args pa)
    (hvars : ∀ sp : Nat → Bool, (∀ p ∈ before, sp p.block = true) → DataW.TrodVars enc Tryd.prog W' sp s.vars (s.fn H (ds ++ gs)).vars pv)
    (hk : W.keptBut W' (fun _ => False)) : s.post enc Tryd.prog f apart fresh handsOn false W args v W' := by
  have hold : ∀ p ∈ before, (fun b => decide (b < W.heap.size)) p.block = true := fun p hp => by simpa using hW.lt p hp
  exact ⟨ds, gs, before, [], pa, pv, hW, hres _ _ _, hargs _ hold, hvars _ hold, World.keptBut_mono (fun _ hp => hp.elim) hk, fun h => by cases h⟩

set_option maxRecDepth 100000 in
/-- a law over a string -/
theorem lawS {f : FuncId} {fn : Func} {s : ChangeSpec} (hvars : s.vars = []) (hpar : fn.params = #[9]) (hres : fn.resultTypes = #[4])
    (hfn : ∀ (H : Type) (d : DataW H), s.fn H [d] = { results := [.lit (.bool true)], args := [d] }) (ok : Str → Prop)
    (hT : ∀ (m : Mem) (L : List Sep.Item) (t : Str), Errs m → ok t → TCall Tryd.prog f ⟨[strV t]⟩ m L (Made m L fun r _ => r = .bool true))
    {fresh handsOn : Bool} (H : Type) (enc : TypeId × Value → H) (W : World) (base : Nat) (args : Array Value) (ds gs : List (DataW H)) (before : List MemPlace)
    (hval : ∀ (j : Nat) t v, fn.params[j]? = some t → args[j]? = some v → Value.okWide Tryd.prog W .any base t v)
    (hW : DataW.Whole enc Tryd.prog fn.params.toList s.vars false W args.toList ds gs before) (hok : ∀ t : Str, ds ++ gs = [.lit (.string t)] → ok t) (hL : laidMetH Tryd.prog laidL W) :
    Calls Tryd.prog f args W fun e W' => ∃ v, e = .returned v ∧ s.post enc Tryd.prog fn false fresh handsOn false W args v W' := by
  have hW' := hW
  obtain ⟨p, q, hA0, hV, rfl, hfz, hnd⟩ := hW
  rw [hvars] at hV
  obtain ⟨rfl, rfl⟩ := trodVars_none hV
  rw [hpar] at hA0 hval
  obtain ⟨v, d, rfl, rfl, h0⟩ := trodAll_one hA0
  obtain ⟨t, rfl, rfl, rfl, hz⟩ := open_string Tryd.underlying9 (hval 0 9 v rfl rfl) h0
  simp only [List.append_nil] at hW'
  refine (hT (memOf W) [] t.data.toList (errs_of hL) (hok _ rfl) W (St.start W)).mono fun e W' hX => ?_
  cases e with
  | returned r =>
    obtain ⟨m', L', hst, hle, _, rfl⟩ := hX
    refine ⟨_, rfl, post_old (pa := []) (pv := []) hW' (fun _ _ _ => ?_) (fun sp hsp => ?_) (fun _ _ => ?_) (hst.kept hle)⟩
    · rw [hres, show ([.lit (.string t.data.toList)] ++ [] : List (DataW H)) = [.lit (.string t.data.toList)] from rfl, hfn]
      exact trodAll_mk1 (shut_bool Tryd.underlying4 _)
    · rw [hpar, show ([.lit (.string t.data.toList)] ++ [] : List (DataW H)) = [.lit (.string t.data.toList)] from rfl, hfn]
      exact trodAll_mk1 (shut_string Tryd.underlying9 hz)
    · rw [hvars, show ([.lit (.string t.data.toList)] ++ [] : List (DataW H)) = [.lit (.string t.data.toList)] from rfl, hfn]
      rfl
  | panicked ch =>
    obtain ⟨_, _, _, hf⟩ := hX
    exact hf.elim
  | outgrown => exact hX.elim
end Go.Proofs.YtdejeeooegekiaaDoor

/-
  The row of a law over an int (the scan seat).
-/
set_option linter.unusedVariables false
set_option linter.unusedSimpArgs false
namespace Go.Proofs.YtdejeeooegekiaaDoor
open Go.ChangeShapes Go.WideShapes Go.ChangeAt Go.RowKit Go.Sep

set_option maxRecDepth 100000 in
/-- a law over an int -/
theorem lawI {f : FuncId} {fn : Func} {s : ChangeSpec} (hvars : s.vars = []) (hpar : fn.params = #[3]) (hres : fn.resultTypes = #[4])
    (hfn : ∀ (H : Type) (d : DataW H), s.fn H [d] = { results := [.lit (.bool true)], args := [d] }) 
    (hT : ∀ (m : Mem) (L : List Sep.Item) (z : Int), Errs m → z ≤ 9223372036854775807 → TCall Tryd.prog f ⟨[.int .i64 z]⟩ m L (Made m L fun r _ => r = .bool true))
    {fresh handsOn : Bool} (H : Type) (enc : TypeId × Value → H) (W : World) (base : Nat) (args : Array Value) (ds gs : List (DataW H)) (before : List MemPlace)
    (hval : ∀ (j : Nat) t v, fn.params[j]? = some t → args[j]? = some v → Value.okWide Tryd.prog W .any base t v)
    (hW : DataW.Whole enc Tryd.prog fn.params.toList s.vars false W args.toList ds gs before) (hL : laidMetH Tryd.prog laidL W) :
    Calls Tryd.prog f args W fun e W' => ∃ v, e = .returned v ∧ s.post enc Tryd.prog fn false fresh handsOn false W args v W' := by
  have hW' := hW
  obtain ⟨p, q, hA0, hV, rfl, hfz, hnd⟩ := hW
  rw [hvars] at hV
  obtain ⟨rfl, rfl⟩ := trodVars_none hV
  rw [hpar] at hA0 hval
  obtain ⟨v, d, rfl, rfl, h0⟩ := trodAll_one hA0
  obtain ⟨z, rfl, rfl, rfl, hz⟩ := open_int Tryd.underlying3 (hval 0 3 v rfl rfl) h0
  have hz2 : z ≤ 9223372036854775807 := by
    have h1 := hz
    have e2 : IntKind.i64.max = 9223372036854775807 := by decide
    simp only [Lit.wf, Bool.and_eq_true, decide_eq_true_eq, e2] at h1
    exact h1.2
  simp only [List.append_nil] at hW'
  refine (hT (memOf W) [] z (errs_of hL) hz2 W (St.start W)).mono fun e W' hX => ?_
  cases e with
  | returned r =>
    obtain ⟨m', L', hst, hle, _, rfl⟩ := hX
    refine ⟨_, rfl, post_old (pa := []) (pv := []) hW' (fun _ _ _ => ?_) (fun sp hsp => ?_) (fun _ _ => ?_) (hst.kept hle)⟩
    · rw [hres, show ([.lit (.int .i64 z)] ++ [] : List (DataW H)) = [.lit (.int .i64 z)] from rfl, hfn]
      exact trodAll_mk1 (shut_bool Tryd.underlying4 _)
    · rw [hpar, show ([.lit (.int .i64 z)] ++ [] : List (DataW H)) = [.lit (.int .i64 z)] from rfl, hfn]
      exact trodAll_mk1 (shut_int Tryd.underlying3 hz)
    · rw [hvars, show ([.lit (.int .i64 z)] ++ [] : List (DataW H)) = [.lit (.int .i64 z)] from rfl, hfn]
      rfl
  | panicked ch =>
    obtain ⟨_, _, _, hf⟩ := hX
    exact hf.elim
  | outgrown => exact hX.elim
end Go.Proofs.YtdejeeooegekiaaDoor

/-
  Plain laws of scanning: quoted texts; what stands ahead of a place.
-/
set_option linter.unusedVariables false
set_option linter.unusedSimpArgs false
namespace Go.Sep

/-! ### quoted texts -/
theorem hexB_all : ∀ n : Fin 256, hexB (hexD (n.val / 16)) (hexD (n.val % 16)) = some (UInt8.ofNat n.val) := by decide +kernel
theorem hexB_hexD (c : UInt8) : hexB (hexD (c.toNat / 16)) (hexD (c.toNat % 16)) = some c := by
  have := hexB_all ⟨c.toNat, c.toNat_lt⟩
  simpa using this
theorem lit_quoteC (c : UInt8) (r : Str) : lit (quoteC c ++ r) = (lit r).map fun p => (c :: p.1, p.2 + (quoteC c).length) := by
  by_cases h1 : c.toNat = 10
  · have hc : c = 10 := UInt8.toNat_inj.1 h1
    rw [qc_nl h1, hc]
    exact (lit_esc_some (c := 92) rfl (esc_n (r := r) rfl))
  by_cases h2 : c.toNat = 9
  · have hc : c = 9 := UInt8.toNat_inj.1 h2
    rw [qc_tab h2, hc]
    exact (lit_esc_some (c := 92) rfl (esc_t (r := r) rfl))
  by_cases h3 : c.toNat = 34 ∨ c.toNat = 92
  · rw [qc_self h3]
    exact (lit_esc_some (c := 92) rfl (esc_self (r := r) h3))
  by_cases h4 : 32 ≤ c.toNat ∧ c.toNat ≤ 126
  · rw [qc_one (by omega) (by omega) h4.1 h4.2]
    exact lit_one (by omega) h1 (by omega)
  · rw [qc_hex h1 h2 (by omega)]
    have he : escB (120 :: hexD (c.toNat / 16) :: hexD (c.toNat % 16) :: r) = some (c, 3) := by rw [esc_x rfl, hexB_hexD]; rfl
    exact lit_esc_some (c := 92) rfl he
theorem lit_quoteB : ∀ (s r : Str), lit (quoteB s ++ 34 :: r) = some (s, (quoteB s).length + 1)
  | [], r => by rw [quoteB, List.flatMap_nil, List.nil_append, lit_quote rfl]; rfl
  | c :: s, r => by
    have hq : quoteB (c :: s) = quoteC c ++ quoteB s := by unfold quoteB; rw [List.flatMap_cons]
    rw [hq, List.append_assoc, lit_quoteC, lit_quoteB s r]
    simp
    omega

theorem tokD_str {r t : Str} {n : Nat} (h : lit r = some (t, n)) : tokD (34 :: r) = if 1024 < t.length then none else some (⟨3, t, 0, 0⟩, n + 1) := by
  have h1 : ¬ ltr 34 = true := by decide
  have h2 : ¬ dgt 34 = true := by decide
  rw [tokD, if_neg h1, if_neg h2, if_pos (by decide), h]
theorem quoteD_len (s : Str) : (quoteD s).length = (quoteB s).length + 2 := by simp [quoteD]
theorem tokD_quote (s : Str) : tokD (quoteD s) = if 1024 < s.length then none else some (⟨3, s, 0, 0⟩, (quoteD s).length) := by
  rw [quoteD, tokD_str (lit_quoteB s [])]
  rw [show (34 :: (quoteB s ++ [34])).length = (quoteB s).length + 1 + 1 by simp]
theorem blk_34 (r : Str) : blk false (34 :: r) = 0 := by
  rw [blk, if_neg (by decide), if_neg (by intro h; exact absurd h.1 (by decide))]
theorem scan_quote (s : Str) (hl : (quoteD s).length ≤ 65536) : scanD (quoteD s) = if 1024 < s.length then ⟨[], 0, 3⟩ else ⟨[⟨3, s, 0, 0⟩], 0, 0⟩ := by
  rw [scanD, if_neg (by omega)]
  have h0 := CutAt.start (quoteD s)
  have hb : blk false ((quoteD s).drop 0) = 0 := by rw [List.drop_zero, quoteD, blk_34]
  have hlen := quoteD_len s
  have ht := tokD_quote s
  by_cases h : 1024 < s.length
  · rw [if_pos h] at ht ⊢
    have := h0.text (Nat.zero_le _) (by rw [hb]; omega) (by decide) (by rw [hb]; exact ht)
    rw [this, hb]; rfl
  · rw [if_neg h] at ht ⊢
    have h1 := h0.go (Nat.zero_le _) (by rw [hb]; omega) (by decide) (by rw [hb]; exact ht)
    rw [hb] at h1
    simp only [Nat.zero_add] at h1
    have := h1.end_ (Nat.le_refl _) (by rw [List.drop_length]; rfl)
    rw [this]; rfl

/-! ### what stands ahead of a place -/
theorem blk_take : ∀ (b : Bool) (r : Str) (j : Nat), blk b r ≤ j → blk b (r.take j) = blk b r
  | _, [], j, _ => by simp [blk]
  | true, c :: r, 0, h => by
    rw [blk] at h
    split at h <;> omega
  | true, c :: r, j + 1, h => by
    rw [List.take_succ_cons, blk, blk]
    rw [blk] at h
    split at h
    · rename_i hc
      rw [if_pos hc, if_pos hc, blk_take false r j (by omega)]
    · rename_i hc
      rw [if_neg hc, if_neg hc, blk_take true r j (by omega)]
  | false, c :: r, 0, h => by
    have : blk false (c :: r) = 0 := by omega
    rw [this]; rfl
  | false, c :: r, j + 1, h => by
    rw [List.take_succ_cons, blk, blk]
    rw [blk] at h
    split at h
    · rename_i hc
      rw [if_pos hc, if_pos hc, blk_take false r j (by omega)]
    · rename_i hc
      rw [if_neg hc, if_neg hc]
      split at h
      · rename_i h2
        have hj : 1 ≤ j := by
          cases r with
          | nil => cases h2.2
          | cons x r =>
            have hx : x = 47 := by have := h2.2; simpa using this
            subst hx
            rw [blk, if_neg (by decide)] at h
            omega
        have hh : (r.take j).head? = r.head? := by
          cases r with
          | nil => simp
          | cons x r =>
            obtain ⟨i, rfl⟩ : ∃ i, j = i + 1 := ⟨j - 1, by omega⟩
            simp
        rw [hh, if_pos h2, if_pos h2, blk_take true r j (by omega)]
      · rename_i h2
        rw [if_neg h2, if_neg]
        rintro ⟨h3, h4⟩
        refine h2 ⟨h3, ?_⟩
        cases j with
        | zero => simp at h4
        | succ i =>
          cases r with
          | nil => simp at h4
          | cons x r => simpa using h4

theorem takeWhile_take (p : UInt8 → Bool) : ∀ (s : Str) (j : Nat), (s.takeWhile p).length ≤ j → ((s.take j).takeWhile p).length = (s.takeWhile p).length
  | [], j, _ => by simp
  | c :: r, 0, h => by
    rw [List.takeWhile_cons] at h ⊢
    split at h
    · simp at h
    · rename_i hc
      rw [if_neg hc]; rfl
  | c :: r, j + 1, h => by
    rw [List.take_succ_cons, List.takeWhile_cons, List.takeWhile_cons]
    rw [List.takeWhile_cons] at h
    split
    · rename_i hc
      rw [if_pos hc] at h
      simp only [List.length_cons] at h ⊢
      rw [takeWhile_take p r j (by omega)]
    · rfl
theorem span_take {p : UInt8 → Bool} {s : Str} {j : Nat} (h : spanOf p s ≤ j) : spanOf p (s.take j) = spanOf p s := takeWhile_take p s j h

theorem escX_take {r : Str} {b : UInt8} {n j : Nat} (h : escX r = some (b, n)) (hj : n ≤ j + 1) : escX (r.take j) = some (b, n) := by
  match r, h with
  | x :: y :: r', h =>
    have h' : (hexB x y).map (fun z => (z, 3)) = some (b, n) := h
    have hn : n = 3 := by
      cases hx : hexB x y with
      | none => rw [hx] at h'; cases h'
      | some z => rw [hx] at h'; cases h'; rfl
    obtain ⟨i, rfl⟩ : ∃ i, j = i + 2 := ⟨j - 2, by omega⟩
    exact h
theorem escB_take {r : Str} {b : UInt8} {n j : Nat} (h : escB r = some (b, n)) (hj : n ≤ j) : escB (r.take j) = some (b, n) := by
  have hp := escB_pos h
  cases r with
  | nil => cases h
  | cons c r =>
    obtain ⟨i, rfl⟩ : ∃ i, j = i + 1 := ⟨j - 1, by omega⟩
    rw [List.take_succ_cons]
    rw [escB] at h ⊢
    by_cases h1 : c.toNat = 110
    · rw [if_pos h1] at h ⊢; exact h
    · rw [if_neg h1] at h ⊢
      by_cases h2 : c.toNat = 116
      · rw [if_pos h2] at h ⊢; exact h
      · rw [if_neg h2] at h ⊢
        by_cases h3 : c.toNat = 34 ∨ c.toNat = 92
        · rw [if_pos h3] at h ⊢; exact h
        · rw [if_neg h3] at h ⊢
          by_cases h4 : c.toNat = 120
          · rw [if_pos h4] at h ⊢; exact escX_take h hj
          · rw [if_neg h4] at h; cases h

theorem lit_take : ∀ (N : Nat) (r t : Str) (n j : Nat), r.length < N → lit r = some (t, n) → n ≤ j → lit (r.take j) = some (t, n)
  | 0, _, _, _, _, h, _, _ => by omega
  | N + 1, [], _, _, _, _, h, _ => by cases h
  | N + 1, c :: r, t, n, j, hN, h, hj => by
    have hp := lit_le h
    simp only [List.length_cons] at hN
    obtain ⟨i, rfl⟩ : ∃ i, j = i + 1 := ⟨j - 1, by omega⟩
    rw [List.take_succ_cons]
    by_cases h1 : c.toNat = 34
    · rw [lit_quote h1] at h ⊢; exact h
    by_cases h2 : c.toNat = 10
    · rw [lit_nl h2] at h; cases h
    by_cases h3 : c.toNat = 92
    · cases he : escB r with
      | none => rw [lit_esc_none h3 he] at h; cases h
      | some p =>
        obtain ⟨b, k⟩ := p
        rw [lit_esc_some h3 he] at h
        cases hl : lit (r.drop k) with
        | none => rw [hl] at h; cases h
        | some q =>
          obtain ⟨t', n'⟩ := q
          rw [hl] at h
          simp only [Option.map_some, Option.some.injEq, Prod.mk.injEq] at h
          have hk := escB_pos he
          have he' := escB_take (j := i) he (by omega)
          rw [lit_esc_some h3 he', List.drop_take, lit_take N (r.drop k) t' n' (i - k) (by rw [List.length_drop]; omega) hl (by omega)]
          simp only [Option.map_some, Option.some.injEq, Prod.mk.injEq]
          exact h
    · cases hl : lit r with
      | none => rw [lit_one h1 h2 h3, hl] at h; cases h
      | some q =>
        obtain ⟨t', n'⟩ := q
        rw [lit_one h1 h2 h3, hl] at h
        simp only [Option.map_some, Option.some.injEq, Prod.mk.injEq] at h
        rw [lit_one h1 h2 h3, lit_take N r t' n' i (by omega) hl (by omega)]
        simp only [Option.map_some, Option.some.injEq, Prod.mk.injEq]
        exact h

theorem prefixB_iff {p s : Str} : prefixB p s = true ↔ p.length ≤ s.length ∧ s.take p.length = p := by
  unfold prefixB
  rw [Bool.and_eq_true, decide_eq_true_iff, decide_eq_true_iff]
theorem find_take {s p : Str} {j : Nat} (hj : p.length ≤ j) : ∀ l : List Str, l.find? (fun q => prefixB q s) = some p → l.find? (fun q => prefixB q (s.take j)) = some p
  | [], h => by cases h
  | q :: l, h => by
    by_cases hq : prefixB q s = true
    · rw [List.find?_cons_of_pos (p := fun q => prefixB q s) hq] at h
      cases h
      refine List.find?_cons_of_pos (p := fun q => prefixB q (s.take j)) (prefixB_iff.2 ?_)
      obtain ⟨h1, h2⟩ := prefixB_iff.1 hq
      refine ⟨by rw [List.length_take]; omega, ?_⟩
      rw [List.take_take, Nat.min_eq_left hj]; exact h2
    · rw [List.find?_cons_of_neg (p := fun q => prefixB q s) hq] at h
      rw [List.find?_cons_of_neg (p := fun q => prefixB q (s.take j))]
      · exact find_take hj l h
      · intro h3
        obtain ⟨h1, h2⟩ := prefixB_iff.1 h3
        rw [List.length_take] at h1
        rw [List.take_take, Nat.min_eq_left (by omega)] at h2
        exact hq (prefixB_iff.2 ⟨by omega, h2⟩)

theorem tokD_take {s : Str} {t : Tok} {n j : Nat} (h : tokD s = some (t, n)) (hj : n ≤ j) : tokD (s.take j) = some (t, n) := by
  have hp := tokD_le h
  cases s with
  | nil => cases h
  | cons c r =>
    obtain ⟨i, rfl⟩ : ∃ i, j = i + 1 := ⟨j - 1, by omega⟩
    have hts : (c :: r).take (i + 1) = c :: r.take i := rfl
    by_cases h1 : ltr c = true
    · have hn : n = spanOf lod (c :: r) := by
        rw [tokD, if_pos h1] at h
        split at h
        · cases h
        · cases h; rfl
      have hsp : spanOf lod ((c :: r).take (i + 1)) = spanOf lod (c :: r) := span_take (by omega)
      have htt : ((c :: r).take (i + 1)).take (spanOf lod (c :: r)) = (c :: r).take (spanOf lod (c :: r)) := by rw [List.take_take, Nat.min_eq_left (by omega)]
      rw [hts] at hsp htt ⊢
      rw [tokD, if_pos h1] at h ⊢
      rw [hsp, htt]; exact h
    · by_cases h2 : dgt c = true
      · have hn : n = spanOf lod (c :: r) ∧ spanOf dgt (c :: r) = spanOf lod (c :: r) := by
          rw [tokD, if_neg h1, if_pos h2] at h
          split at h
          · cases h
          · split at h
            · cases h
            · rename_i h3
              cases h; exact ⟨rfl, by omega⟩
        have hsp : spanOf lod ((c :: r).take (i + 1)) = spanOf lod (c :: r) := span_take (by omega)
        have hsd : spanOf dgt ((c :: r).take (i + 1)) = spanOf dgt (c :: r) := span_take (by omega)
        have htt : ((c :: r).take (i + 1)).take (spanOf lod (c :: r)) = (c :: r).take (spanOf lod (c :: r)) := by rw [List.take_take, Nat.min_eq_left (by omega)]
        rw [hts] at hsp hsd htt ⊢
        rw [tokD, if_neg h1, if_pos h2] at h ⊢
        rw [hsp, hsd, htt]; exact h
      · by_cases h3 : c.toNat = 34
        · rw [hts]
          rw [tokD, if_neg h1, if_neg h2, if_pos h3] at h ⊢
          cases hl : lit r with
          | none => rw [hl] at h; cases h
          | some q =>
            obtain ⟨t', n'⟩ := q
            rw [hl] at h
            simp only at h
            have hn : n = n' + 1 := by
              split at h
              · cases h
              · cases h; rfl
            rw [lit_take (r.length + 1) r t' n' i (by omega) hl (by omega)]
            exact h
        · rw [tokD, if_neg h1, if_neg h2, if_neg h3] at h
          cases hf : markL.find? (fun p => prefixB p (c :: r)) with
          | none => rw [hf] at h; cases h
          | some p =>
            rw [hf] at h
            have hn : n = p.length := by cases h; rfl
            have := find_take (s := c :: r) (p := p) (j := i + 1) (by omega) markL hf
            rw [hts] at this ⊢
            rw [tokD, if_neg h1, if_neg h2, if_neg h3, this]
            exact h

/-- what stands ahead of a fault is tokens -/
theorem cutF_take : ∀ (f : Nat) (r : Str) (at_ k a : Nat), cutF f r at_ k = .error (a, 3) → r.length < f → at_ ≤ a ∧ a - at_ < r.length ∧ ∀ g, a - at_ < g → ∃ l, cutF g (r.take (a - at_)) at_ k = .ok l
  | 0, r, at_, k, a, h, hf => by omega
  | f + 1, r, at_, k, a, h, hf => by
    have hb := blk_le false r
    rw [cutF] at h
    by_cases h1 : r.drop (blk false r) = []
    · rw [if_pos h1] at h; cases h
    · rw [if_neg h1] at h
      have hlt : blk false r < r.length := by
        refine Nat.lt_of_not_le fun hge => h1 (List.drop_eq_nil_of_le hge)
      by_cases h2 : k = 20000
      · rw [if_pos h2] at h
        cases h
      · rw [if_neg h2] at h
        cases ht : tokD (r.drop (blk false r)) with
        | none =>
          rw [ht] at h
          simp only [Except.error.injEq, Prod.mk.injEq, and_true] at h
          subst h
          refine ⟨by omega, by omega, fun g hg => ?_⟩
          rw [show at_ + blk false r - at_ = blk false r by omega]
          cases g with
          | zero => omega
          | succ g =>
            refine ⟨[], ?_⟩
            rw [cutF, blk_take false r _ (Nat.le_refl _), List.drop_eq_nil_of_le (by rw [List.length_take]; omega), if_pos rfl]
        | some p =>
          obtain ⟨t, n⟩ := p
          rw [ht] at h
          simp only at h
          have hn := tokD_le ht
          rw [List.length_drop] at hn
          cases hc : cutF f ((r.drop (blk false r)).drop n) (at_ + blk false r + n) (k + 1) with
          | ok l => rw [hc] at h; cases h
          | error e =>
            rw [hc] at h
            simp only [Except.error.injEq] at h
            subst h
            obtain ⟨g1, g2, g3⟩ := cutF_take f _ _ _ _ hc (by rw [List.length_drop, List.length_drop]; omega)
            rw [List.length_drop, List.length_drop] at g2
            refine ⟨by omega, by omega, fun g hg => ?_⟩
            cases g with
            | zero => omega
            | succ g =>
              have hd : (r.take (a - at_)).drop (blk false r) = (r.drop (blk false r)).take (a - at_ - blk false r) := List.drop_take ..
              obtain ⟨l, hl⟩ := g3 g (by omega)
              have ht' := tokD_take (j := a - at_ - blk false r) ht (by omega)
              refine ⟨⟨t.kind, t.text, t.num, ((at_ + blk false r : Nat) : Int)⟩ :: l, ?_⟩
              rw [cutF, blk_take false r _ (by omega), hd, if_neg, if_neg h2, ht']
              · simp only
                rw [List.drop_take, show a - at_ - blk false r - n = a - (at_ + blk false r + n) by omega, hl]
              · intro e
                rw [e] at ht'
                cases ht'
end Go.Sep

/-
  Plain laws of scanning: places.
-/
set_option linter.unusedVariables false
set_option linter.unusedSimpArgs false
namespace Go.Sep

theorem cutF_ok : ∀ (f : Nat) (r : Str) (at_ k : Nat) (l : List Tok), cutF f r at_ k = .ok l → r.length < f → k ≤ 20000 → l.length + k ≤ 20000 ∧ (∀ t ∈ l, (at_ : Int) ≤ t.at_ ∧ t.at_ < at_ + r.length) ∧ l.Pairwise (fun a b => a.at_ < b.at_)
  | 0, r, at_, k, l, h, hf, hk => by omega
  | f + 1, r, at_, k, l, h, hf, hk => by
    have hb := blk_le false r
    rw [cutF] at h
    by_cases h1 : r.drop (blk false r) = []
    · rw [if_pos h1] at h
      cases h
      exact ⟨by simpa using hk, by simp, List.Pairwise.nil⟩
    · rw [if_neg h1] at h
      have hlt : blk false r < r.length := Nat.lt_of_not_le fun hge => h1 (List.drop_eq_nil_of_le hge)
      by_cases h2 : k = 20000
      · rw [if_pos h2] at h; cases h
      · rw [if_neg h2] at h
        cases ht : tokD (r.drop (blk false r)) with
        | none => rw [ht] at h; cases h
        | some p =>
          obtain ⟨t, n⟩ := p
          rw [ht] at h
          simp only at h
          have hn := tokD_le ht
          rw [List.length_drop] at hn
          cases hc : cutF f ((r.drop (blk false r)).drop n) (at_ + blk false r + n) (k + 1) with
          | error e => rw [hc] at h; cases h
          | ok l' =>
            rw [hc] at h
            cases h
            obtain ⟨g1, g2, g3⟩ := cutF_ok f _ _ _ _ hc (by rw [List.length_drop, List.length_drop]; omega) (by omega)
            have g2' : ∀ t ∈ l', ((at_ + blk false r + n : Nat) : Int) ≤ t.at_ ∧ t.at_ < at_ + r.length := fun t ht => by
              have := g2 t ht
              rw [List.length_drop, List.length_drop] at this
              omega
            refine ⟨by simp only [List.length_cons]; omega, fun t' ht' => ?_, List.pairwise_cons.2 ⟨fun t' ht' => ?_, g3⟩⟩
            · rcases List.mem_cons.1 ht' with rfl | ht'
              · simp only; omega
              · have := g2' t' ht'; omega
            · have := g2' t' ht'
              simp only; omega
theorem cutF_err : ∀ (f : Nat) (r : Str) (at_ k a : Nat) (e : Int), cutF f r at_ k = .error (a, e) → r.length < f → at_ ≤ a ∧ a < at_ + r.length ∧ (e = 3 ∨ e = 4)
  | 0, r, at_, k, a, e, h, hf => by omega
  | f + 1, r, at_, k, a, e, h, hf => by
    have hb := blk_le false r
    rw [cutF] at h
    by_cases h1 : r.drop (blk false r) = []
    · rw [if_pos h1] at h; cases h
    · rw [if_neg h1] at h
      have hlt : blk false r < r.length := Nat.lt_of_not_le fun hge => h1 (List.drop_eq_nil_of_le hge)
      by_cases h2 : k = 20000
      · rw [if_pos h2] at h
        simp only [Except.error.injEq, Prod.mk.injEq] at h
        omega
      · rw [if_neg h2] at h
        cases ht : tokD (r.drop (blk false r)) with
        | none =>
          rw [ht] at h
          simp only [Except.error.injEq, Prod.mk.injEq] at h
          omega
        | some p =>
          obtain ⟨t, n⟩ := p
          rw [ht] at h
          simp only at h
          have hn := tokD_le ht
          rw [List.length_drop] at hn
          cases hc : cutF f ((r.drop (blk false r)).drop n) (at_ + blk false r + n) (k + 1) with
          | ok l => rw [hc] at h; cases h
          | error e' =>
            rw [hc] at h
            simp only [Except.error.injEq] at h
            subst h
            have := cutF_err f _ _ _ _ _ hc (by rw [List.length_drop, List.length_drop]; omega)
            rw [List.length_drop, List.length_drop] at this
            omega
/-- what a text's scan can be -/
theorem scanD_cases (s : Str) : (65536 < s.length ∧ scanD s = ⟨[], 0, 13⟩) ∨
    (s.length ≤ 65536 ∧ ∃ l : List Tok, scanD s = ⟨l, 0, 0⟩ ∧ cutF (s.length + 1) s 0 0 = .ok l ∧ l.length ≤ 20000 ∧ (∀ t ∈ l, 0 ≤ t.at_ ∧ t.at_ < s.length) ∧ l.Pairwise (fun a b => a.at_ < b.at_)) ∨
    (s.length ≤ 65536 ∧ ∃ a e, scanD s = ⟨[], a, e⟩ ∧ a < s.length ∧ (e = 4 ∨ (e = 3 ∧ (scanD (s.take a)).e = 0))) := by
  by_cases hl : 65536 < s.length
  · exact .inl ⟨hl, by rw [scanD, if_pos hl]⟩
  · refine .inr ?_
    have hs : scanD s = .of (cutF (s.length + 1) s 0 0) := by rw [scanD, if_neg hl]
    cases hc : cutF (s.length + 1) s 0 0 with
    | ok l =>
      obtain ⟨h1, h2, h3⟩ := cutF_ok _ _ _ _ _ hc (by omega) (by omega)
      refine .inl ⟨by omega, l, by rw [hs, hc]; rfl, rfl, by omega, fun t ht => ?_, h3⟩
      have := h2 t ht
      omega
    | error x =>
      obtain ⟨a, e⟩ := x
      obtain ⟨h1, h2, h3⟩ := cutF_err _ _ _ _ _ _ hc (by omega)
      refine .inr ⟨by omega, a, e, by rw [hs, hc]; rfl, by omega, ?_⟩
      rcases h3 with rfl | rfl
      · refine .inr ⟨rfl, ?_⟩
        obtain ⟨_, _, h4⟩ := cutF_take _ _ _ _ _ hc (by omega)
        obtain ⟨l, hl2⟩ := h4 (a + 1) (by omega)
        rw [Nat.sub_zero] at hl2
        rw [scanD, if_neg (by rw [List.length_take]; omega), show (s.take a).length = a by rw [List.length_take]; omega, hl2]
        rfl
      · exact .inl rfl
end Go.Sep

/-
  Plain laws of scanning: numbers.
-/
set_option linter.unusedVariables false
set_option linter.unusedSimpArgs false
namespace Go.Sep

/-- the number that digits are -/
def valN : Str → Nat → Nat
  | [], a => a
  | c :: r, a => valN r (a * 10 + (c.toNat - 48))
theorem valN_ge : ∀ (s : Str) (a : Nat), a ≤ valN s a
  | [], a => Nat.le_refl _
  | c :: r, a => by
    have := valN_ge r (a * 10 + (c.toNat - 48))
    rw [valN]; omega
theorem dgt_le {c : UInt8} (h : dgt c = true) : 48 ≤ c.toNat ∧ c.toNat ≤ 57 := of_decide_eq_true h
theorem dv_dgt {c : UInt8} (h : dgt c = true) : dv c = some (c.toNat - 48) := dv_dig (dgt_le h).1 (dgt_le h).2
theorem pU_val : ∀ (s : Str) (a : Nat), s.all dgt = true → valN s a ≤ 18446744073709551615 → pU 10 18446744073709551615 s a = some (valN s a)
  | [], a, _, _ => rfl
  | c :: r, a, h, hv => by
    rw [List.all_cons, Bool.and_eq_true] at h
    have hc := dgt_le h.1
    rw [valN] at hv
    have := valN_ge r (a * 10 + (c.toNat - 48))
    rw [pU, dv_dgt h.1]
    simp only
    rw [if_pos ⟨by omega, by omega⟩, pU_val r _ h.2 hv, valN]
theorem numOf_val {s : Str} (h : s.all dgt = true) (hv : valN s 0 < 9223372036854775808) : numOf s = some (valN s 0) := by
  rw [numOf, pU_val s 0 h (by omega)]
  simp only
  rw [if_pos hv]
theorem dgt_lod {c : UInt8} (h : dgt c = true) : lod c = true := by unfold lod; rw [h]; simp
theorem dgt_nltr {c : UInt8} (h : dgt c = true) : ¬ ltr c = true := by rw [dgt_ltr, h]; simp
theorem all_dgt_lod {s : Str} (h : s.all dgt = true) : s.all lod = true := List.all_eq_true.2 fun x hx => dgt_lod (List.all_eq_true.1 h x hx)
theorem takeWhile_app {p : UInt8 → Bool} : ∀ (s r : Str), s.all p = true → (s ++ r).takeWhile p = s ++ r.takeWhile p
  | [], r, _ => rfl
  | c :: s, r, h => by
    rw [List.all_cons, Bool.and_eq_true] at h
    rw [List.cons_append, List.takeWhile_cons, if_pos h.1, takeWhile_app s r h.2]; rfl
theorem span_app {p : UInt8 → Bool} {s r : Str} (h : s.all p = true) : spanOf p (s ++ r) = s.length + spanOf p r := by
  unfold spanOf
  rw [takeWhile_app s r h, List.length_append]
theorem span_stop {p : UInt8 → Bool} {c : UInt8} {r : Str} (h : p c = false) : spanOf p (c :: r) = 0 := by
  unfold spanOf
  rw [List.takeWhile_cons, if_neg (by rw [h]; decide)]; rfl

/-- decimal digits of a number -/
structure Dec (s : Str) (n : Nat) : Prop where
  pos : s ≠ []
  dig : s.all dgt = true
  val : valN s 0 = n
  lead : s.head? ≠ some 48 ∨ s.length = 1
theorem tok_num {s : Str} {n : Nat} {c : UInt8} {r : Str} (h : Dec s n) (hn : n < 9223372036854775808) (hc : lod c = false) : tokD (s ++ c :: r) = some (⟨2, [], n, 0⟩, s.length) := by
  have hd : dgt c = false := by
    cases hd : dgt c with
    | false => rfl
    | true => rw [dgt_lod hd] at hc; cases hc
  have hs1 : spanOf lod (s ++ c :: r) = s.length := by rw [span_app (all_dgt_lod h.dig), span_stop hc]; omega
  have hs2 : spanOf dgt (s ++ c :: r) = s.length := by rw [span_app h.dig, span_stop hd]; omega
  have ht : (s ++ c :: r).take s.length = s := by simp
  have hnum : numOf s = some n := by rw [numOf_val h.dig (by rw [h.val]; exact hn), h.val]
  have hlead := h.lead
  obtain ⟨x, s', rfl⟩ : ∃ x s', s = x :: s' := by
    cases s with
    | nil => exact absurd rfl h.pos
    | cons x s' => exact ⟨x, s', rfl⟩
  have hdx : dgt x = true := List.all_eq_true.1 h.dig x (by simp)
  rw [List.cons_append] at hs1 hs2 ht ⊢
  rw [tokD, if_neg (dgt_nltr hdx), if_pos hdx, hs1, ht, hnum]
  simp only
  rw [if_neg]
  rintro (⟨h1, h2⟩ | h3)
  · rcases hlead with h4 | h4
    · exact h4 (by rw [List.head?_cons]; congr 1; exact UInt8.toNat_inj.1 h1)
    · omega
  · exact h3 hs2
theorem tok_bad {s : Str} {c : UInt8} {r : Str} (h0 : s ≠ []) (h : s.all dgt = true) (h1 : lod c = true) (h2 : dgt c = false) : tokD (s ++ c :: r) = none := by
  have hs1 : s.length < spanOf lod (s ++ c :: r) := by
    have := span_pos (p := lod) (r := r) h1
    rw [span_app (all_dgt_lod h)]; omega
  have hs2 : spanOf dgt (s ++ c :: r) = s.length := by rw [span_app h, span_stop h2]; omega
  obtain ⟨x, s', rfl⟩ : ∃ x s', s = x :: s' := by
    cases s with
    | nil => exact absurd rfl h0
    | cons x s' => exact ⟨x, s', rfl⟩
  have hdx : dgt x = true := List.all_eq_true.1 h x (by simp)
  rw [List.cons_append] at hs1 hs2 ⊢
  rw [tokD, if_neg (dgt_nltr hdx), if_pos hdx]
  split
  · rfl
  · rw [if_pos (.inr (by omega))]
theorem tok_nought {s : Str} (h0 : s ≠ []) (h : s.all dgt = true) : tokD (48 :: s) = none := by
  have hs1 : spanOf lod (48 :: s) = s.length + 1 := by
    have := span_app (p := lod) (s := 48 :: s) (r := []) (by rw [List.all_cons, all_dgt_lod h]; rfl)
    rw [List.append_nil] at this
    rw [this]; rfl
  have hl : 0 < s.length := List.length_pos_iff.2 h0
  rw [tokD, if_neg (by decide), if_pos (by decide)]
  split
  · rfl
  · rw [if_pos (.inl ⟨rfl, by omega⟩)]

theorem blk_dgt {c : UInt8} {r : Str} (h : dgt c = true) : blk false (c :: r) = 0 := by
  have := dgt_le h
  rw [blk, if_neg, if_neg]
  · rintro ⟨h1, _⟩; omega
  · unfold isSp
    simp only [Bool.or_eq_true, decide_eq_true_eq]
    omega
theorem dec_head {s : Str} {n : Nat} (h : Dec s n) : ∃ x s', s = x :: s' ∧ dgt x = true := by
  cases hs : s with
  | nil => exact absurd hs h.pos
  | cons x s' => exact ⟨x, s', rfl, List.all_eq_true.1 h.dig x (by simp [hs])⟩

theorem scan_num {s : Str} {n : Nat} (h : Dec s n) (hn : n < 9223372036854775808) (hl : s.length ≤ 1000) : scanD (s ++ [43]) = ⟨[⟨2, [], n, 0⟩, ⟨4, [43], 0, s.length⟩], 0, 0⟩ := by
  obtain ⟨x, s', hs, hx⟩ := dec_head h
  have hlen : (s ++ [43]).length = s.length + 1 := by simp
  rw [scanD, if_neg (by omega)]
  have h0 := CutAt.start (s ++ [43])
  have hb : blk false ((s ++ [43]).drop 0) = 0 := by rw [List.drop_zero, hs, List.cons_append, blk_dgt hx]
  have ht := tok_num (c := 43) (r := []) h hn (by decide)
  have h1 := h0.go (Nat.zero_le _) (by rw [hb]; omega) (by decide) (by rw [hb, Nat.add_zero, List.drop_zero]; exact ht)
  rw [hb] at h1
  simp only [Nat.zero_add] at h1
  have hd : (s ++ [43]).drop s.length = [43] := by simp
  have hb2 : blk false ((s ++ [43]).drop s.length) = 0 := by rw [hd]; decide
  have h2 := h1.go (t := ⟨4, [43], 0, 0⟩) (n := 1) (by omega) (by rw [hb2]; omega) (by simp) (by rw [hb2, Nat.add_zero, hd]; decide +kernel)
  rw [hb2] at h2
  have h3 := h2.end_ (by omega) (by rw [List.drop_eq_nil_of_le (by omega), blk]; omega)
  rw [h3]
  rfl
theorem scan_nought {s : Str} {n : Nat} (h : Dec s n) (hl : s.length ≤ 1000) : scanD (97 :: 32 :: 48 :: s) = ⟨[], 2, 3⟩ := by
  have hlen : (97 :: 32 :: 48 :: s).length = s.length + 3 := by simp
  rw [scanD, if_neg (by omega)]
  have h0 := CutAt.start (97 :: 32 :: 48 :: s)
  have hb : blk false ((97 :: 32 :: 48 :: s).drop 0) = 0 := by
    rw [List.drop_zero, blk, if_neg (by decide), if_neg (by rintro ⟨h1, _⟩; revert h1; decide)]
  have hsp : spanOf lod (97 :: 32 :: 48 :: s) = 1 := by
    have := span_app (p := lod) (s := [97]) (r := 32 :: 48 :: s) (by decide)
    rw [span_stop (by decide)] at this
    exact this
  have ht : tokD (97 :: 32 :: 48 :: s) = some (⟨1, [97], 0, 0⟩, 1) := by
    rw [tokD, if_pos (by decide), hsp, if_neg (by decide)]
    rfl
  have h1 := h0.go (Nat.zero_le _) (by rw [hb]; omega) (by decide) (by rw [hb, Nat.add_zero, List.drop_zero]; exact ht)
  rw [hb] at h1
  simp only [Nat.zero_add] at h1
  have hb2 : blk false ((97 :: 32 :: 48 :: s).drop 1) = 1 := by
    show blk false (32 :: 48 :: s) = 1
    rw [blk, if_pos (by decide), blk_dgt (by decide)]
  have h2 := h1.text (by omega) (by rw [hb2]; omega) (by simp) (by rw [hb2]; exact tok_nought h.pos h.dig)
  rw [h2, hb2]
  rfl
theorem scan_behind {s : Str} {n : Nat} (h : Dec s n) (hl : s.length ≤ 1000) : scanD (s ++ [120]) = ⟨[], 0, 3⟩ := by
  obtain ⟨x, s', hs, hx⟩ := dec_head h
  have hlen : (s ++ [120]).length = s.length + 1 := by simp
  rw [scanD, if_neg (by omega)]
  have h0 := CutAt.start (s ++ [120])
  have hb : blk false ((s ++ [120]).drop 0) = 0 := by rw [List.drop_zero, hs, List.cons_append, blk_dgt hx]
  have h2 := h0.text (Nat.zero_le _) (by rw [hb]; omega) (by decide) (by rw [hb]; exact tok_bad h.pos h.dig (by decide) (by decide))
  rw [h2, hb]
  rfl
theorem scan_most : scanD [57, 50, 50, 51, 51, 55, 50, 48, 51, 54, 56, 53, 52, 55, 55, 53, 56, 48, 56] = ⟨[], 0, 3⟩ := by decide +kernel

/-- digits on the way: k is still to come -/
structure DecAt (s : Str) (k n : Nat) : Prop where
  dig : s.all dgt = true
  val : k * 10 ^ s.length + valN s 0 = n
  lead : k = 0 → s ≠ [] → s.head? ≠ some 48 ∨ s.length = 1
theorem valN_app : ∀ (s : Str) (a : Nat), valN s a = a * 10 ^ s.length + valN s 0
  | [], a => by simp [valN]
  | c :: r, a => by
    rw [valN, valN, valN_app r (a * 10 + (c.toNat - 48)), valN_app r (0 * 10 + (c.toNat - 48)), List.length_cons, Nat.pow_succ]
    rw [Nat.zero_mul, Nat.zero_add, Nat.add_mul]
    have : a * 10 * 10 ^ r.length = a * (10 ^ r.length * 10) := by rw [Nat.mul_assoc, Nat.mul_comm 10]
    omega
theorem DecAt.start (n : Nat) : DecAt [] n n := ⟨rfl, by simp [valN], fun _ h => absurd rfl h⟩
theorem dig_lt (k : Nat) : (UInt8.ofNat (48 + k % 10)).toNat = 48 + k % 10 := by
  rw [UInt8.toNat_ofNat', Nat.mod_eq_of_lt (by omega)]
theorem DecAt.step {s : Str} {k n : Nat} (h : DecAt s k n) (hk : 0 < k ∨ s = []) : DecAt (UInt8.ofNat (48 + k % 10) :: s) (k / 10) n := by
  have hd := dig_lt k
  refine ⟨?_, ?_, ?_⟩
  · rw [List.all_cons, h.dig, Bool.and_true]
    unfold dgt
    rw [hd]
    exact decide_eq_true (by omega)
  · rw [valN, valN_app, hd, List.length_cons, Nat.pow_succ, ← h.val, Nat.zero_mul, Nat.zero_add]
    have h1 : 48 + k % 10 - 48 = k % 10 := by omega
    have h2 : k = k / 10 * 10 + k % 10 := by omega
    rw [h1]
    have h3 : k * 10 ^ s.length = k / 10 * (10 ^ s.length * 10) + k % 10 * 10 ^ s.length := by
      conv => lhs; rw [h2, Nat.add_mul]
      rw [Nat.mul_assoc, Nat.mul_comm 10]
    omega
  · intro h0 _
    rcases hk with hk | rfl
    · refine .inl fun e => ?_
      rw [List.head?_cons] at e
      have := congrArg UInt8.toNat (Option.some.inj e)
      rw [hd] at this
      have h48 : (48 : UInt8).toNat = 48 := rfl
      omega
    · exact .inr rfl
theorem DecAt.done {s : Str} {n : Nat} (h : DecAt s 0 n) (hs : s ≠ []) : Dec s n := ⟨hs, h.dig, by have := h.val; omega, h.lead rfl hs⟩
end Go.Sep

/-
  ScanNumbers.
-/
set_option linter.unusedVariables false
set_option linter.unusedSimpArgs false
namespace Go.Sep
open Go.Proofs
attribute [local irreducible] TC TO OT TCallX TCall DO DOt thenQ blockQ retQ At
attribute [local irreducible] scanD

structure NumS where
  m : Mem
  s : Str
  k : Nat

set_option maxHeartbeats 2000000 in
theorem scanNumbers_walk (m : Mem) (L : List Item) (z : Int) (hz : z ≤ 9223372036854775807) (hE : Errs m) : TCall Tryd.prog 8 ⟨[.int .i64 z]⟩ m L (Made m L fun r _ => r = .bool true) := by
  unfold TCall
  refine TCallX.enter Tryd.func8 rfl 108 rfl ?_
  repeat (first|refine q1 ?_|refine q3 ?_|refine q4 tab rfl rfl ?_|refine q5 ?_|refine q6 ?_)
  refine TC.condP rfl (fun c0 => ?_) (fun c0 => ?_)
  · repeat (first|refine q1 ?_|refine q3 ?_)
    refine TO.step rfl (OT.call rfl rfl rfl rfl rfl rfl goes11 ((awake_law _ _ hE).x ?_));
    rintro _ m2 _ ⟨hm2, rfl, rfl⟩
    repeat (first|refine q4 tab rfl rfl ?_|refine q5 ?_|refine q6 ?_|refine q8 ?_|refine q15 ?_)
    refine retQ_ret rfl (by repeat (exact List.Sublist.refl _)) ⟨hm2, rfl, rfl⟩
  obtain ⟨n, rfl⟩ : ∃ n : Nat, z = (n : Int) := ⟨z.toNat, by omega⟩
  have hn : n < 9223372036854775808 := by omega
  repeat (first|refine q1 ?_|refine q2 ?_|refine q3 ?_|refine q4 tab rfl rfl ?_|refine q5 ?_|refine q6 ?_|refine q13 ?_)
  refine TC.loopK (ι := NumS) [0] rfl (fun x => [(3, strV x.s), (4, .int .i64 (x.k : Int))]) (fun x => x.m) (fun _ => L) (fun x => m ≤ x.m ∧ x.s.length ≤ 19 ∧ x.k < 10 ^ (19 - x.s.length) ∧ DecAt x.s x.k n) (fun x => x.k + if x.s = [] then 1 else 0) ⟨m, [], n⟩ (by repeat (first|exact trivial|refine And.intro rfl ?_)) rfl (by repeat (exact List.Sublist.refl _)) ⟨Mem.le_refl _, by simp, by show n < 10 ^ 19; omega, DecAt.start n⟩ ?_
  rintro ⟨m1, s, k⟩ ⟨hm, hsl, hkl, hI⟩
  replace hm : m ≤ m1 := hm
  replace hsl : s.length ≤ 19 := hsl
  replace hkl : k < 10 ^ (19 - s.length) := hkl
  replace hI : DecAt s k n := hI
  have hk18 : k ≤ n := by
    have := hI.val
    have h1 : 1 ≤ 10 ^ s.length := Nat.one_le_pow _ _ (by decide)
    have h2 : k * 1 ≤ k * 10 ^ s.length := Nat.mul_le_mul_left k h1
    omega
  have hlen : 0 < k ∨ s = [] → s.length < 19 := by
    rintro (h | h)
    · refine Nat.lt_of_le_of_ne hsl fun e => ?_
      rw [e] at hkl
      simp at hkl
      omega
    · rw [h]; decide
  show TC _ _ _ ((3, strV s) :: (4, .int .i64 (k : Int)) :: _) _ m1 L _
  repeat (first|refine q1 ?_|refine q3 ?_|refine q4 tab rfl rfl ?_)
  (refine TO.splitP rfl rfl (fun c1 => ?_) (fun c1 => ?_))
  · have := hlen (.inl (by omega))
    repeat (first|refine q1 ?_|refine q2 ?_|refine q3 ?_|refine q4 tab rfl rfl ?_|refine q5 ?_|refine q6 ?_|refine q13 ?_|refine q16 rfl ?_)
    refine TO.step rfl (OT.remK rfl rfl rfl rfl rfl (by decide) (r := ((k % 10 : Nat) : Int)) rfl ?_)
    refine TO.step rfl (OT.arith (r' := ((48 + k % 10 : Nat) : Int)) rfl rfl rfl rfl rfl rfl rfl (by omega) ?_)
    refine TO.step rfl (OT.conv tab rfl rfl rfl rfl rfl rfl (r := ((UInt8.ofNat (48 + k % 10)).toNat : Int)) (by rw [dig_lt, u8_in (by omega) (by omega)]) ?_)
    refine TO.step rfl (OT.lit tab rfl rfl rfl rfl (fun b => ?_))
    refine TO.freeze fun m2 hm2 hA => ?_
    refine TO.step rfl (OT.bytesStr tab (s := ⟨some ⟨b, 0, none⟩, 1, 1⟩) (bs := [UInt8.ofNat (48 + k % 10)]) rfl rfl rfl rfl rfl rfl rfl (SlRep.bytes (bs := [UInt8.ofNat (48 + k % 10)]) hA rfl (by decide)) (by simp) ?_)
    repeat (refine q4 tab rfl rfl ?_)
    refine TO.step rfl (OT.concat (s := [UInt8.ofNat (48 + k % 10)]) (u := s) rfl rfl rfl rfl rfl (by simp only [List.length_cons, List.length_nil]; omega) ?_)
    repeat (first|refine q3 ?_|refine q4 tab rfl rfl ?_|refine q5 ?_|refine q6 ?_)
    refine TO.step rfl (OT.quoK rfl rfl rfl rfl rfl (by decide) (r := ((k / 10 : Nat) : Int)) (wrap64_in (by show -9223372036854775808 ≤ ((k / 10 : Nat) : Int); omega) (by show ((k / 10 : Nat) : Int) ≤ 9223372036854775807; omega)) ?_)
    repeat (first|refine q4 tab rfl rfl ?_|refine q5 ?_|refine q6 ?_|refine q7 ?_)
    exact ⟨⟨m2, UInt8.ofNat (48 + k % 10) :: s, k / 10⟩, (by repeat (first|exact trivial|refine And.intro rfl ?_)), (by repeat (first|exact trivial|refine And.intro rfl ?_)), rfl, rfl, (by repeat (exact List.Sublist.refl _)), ⟨Mem.le_trans hm hm2, by show (_ :: s).length ≤ 19; rw [List.length_cons]; omega, by show k / 10 < 10 ^ (19 - (_ :: s).length); rw [List.length_cons]; exact Nat.div_lt_of_lt_mul (by rw [← Nat.pow_succ', show (19 - (s.length + 1)).succ = 19 - s.length by omega]; exact hkl), hI.step (.inl (by omega))⟩, by show (k / 10 + if _ :: s = [] then 1 else 0) < (k + if s = [] then 1 else 0); rw [if_neg (by simp)]; omega⟩
  · have hk0 : k = 0 := by omega
    repeat (first|refine q4 tab rfl rfl ?_|refine q5 ?_|refine q6 ?_)
    refine TC.condP rfl (fun c2 => ?_) (fun c2 => ?_)
    · have := hlen (.inr c2)
      repeat (first|refine q1 ?_|refine q2 ?_|refine q3 ?_|refine q4 tab rfl rfl ?_|refine q6 ?_|refine q13 ?_)
      refine TO.step rfl (OT.remK rfl rfl rfl rfl rfl (by decide) (r := ((k % 10 : Nat) : Int)) rfl ?_)
      refine TO.step rfl (OT.arith (r' := ((48 + k % 10 : Nat) : Int)) rfl rfl rfl rfl rfl rfl rfl (by omega) ?_)
      refine TO.step rfl (OT.conv tab rfl rfl rfl rfl rfl rfl (r := ((UInt8.ofNat (48 + k % 10)).toNat : Int)) (by rw [dig_lt, u8_in (by omega) (by omega)]) ?_)
      refine TO.step rfl (OT.lit tab rfl rfl rfl rfl (fun b => ?_))
      refine TO.freeze fun m2 hm2 hA => ?_
      refine TO.step rfl (OT.bytesStr tab (s := ⟨some ⟨b, 0, none⟩, 1, 1⟩) (bs := [UInt8.ofNat (48 + k % 10)]) rfl rfl rfl rfl rfl rfl rfl (SlRep.bytes (bs := [UInt8.ofNat (48 + k % 10)]) hA rfl (by decide)) (by simp) ?_)
      repeat (refine q4 tab rfl rfl ?_)
      refine TO.step rfl (OT.concat (s := [UInt8.ofNat (48 + k % 10)]) (u := s) rfl rfl rfl rfl rfl (by simp only [List.length_cons, List.length_nil]; omega) ?_)
      repeat (first|refine q3 ?_|refine q4 tab rfl rfl ?_|refine q5 ?_|refine q6 ?_)
      refine TO.step rfl (OT.quoK rfl rfl rfl rfl rfl (by decide) (r := ((k / 10 : Nat) : Int)) (wrap64_in (by show -9223372036854775808 ≤ ((k / 10 : Nat) : Int); omega) (by show ((k / 10 : Nat) : Int) ≤ 9223372036854775807; omega)) ?_)
      repeat (first|refine q4 tab rfl rfl ?_|refine q5 ?_|refine q6 ?_|refine q7 ?_)
      exact ⟨⟨m2, UInt8.ofNat (48 + k % 10) :: s, k / 10⟩, (by repeat (first|exact trivial|refine And.intro rfl ?_)), (by repeat (first|exact trivial|refine And.intro rfl ?_)), rfl, rfl, (by repeat (exact List.Sublist.refl _)), ⟨Mem.le_trans hm hm2, by show (_ :: s).length ≤ 19; rw [List.length_cons]; omega, by show k / 10 < 10 ^ (19 - (_ :: s).length); rw [List.length_cons]; exact Nat.div_lt_of_lt_mul (by rw [← Nat.pow_succ', show (19 - (s.length + 1)).succ = 19 - s.length by omega]; exact hkl), hI.step (.inr c2)⟩, by show (k / 10 + if _ :: s = [] then 1 else 0) < (k + if s = [] then 1 else 0); rw [if_neg (by simp)]; (rw [if_pos c2]; omega)⟩
    · subst hk0
      have hd := hI.done c2
      repeat (first|refine q1 ?_|refine q3 ?_|refine q4 tab rfl rfl ?_|refine q6 ?_|refine q10 ?_|refine q11 ?_|refine q14 ?_)
      refine TO.step rfl (OT.concat (s := s) (u := [43]) rfl rfl rfl rfl rfl (by simp only [List.length_cons, List.length_nil]; omega) ?_)
      refine TO.step rfl (OT.call rfl rfl rfl rfl rfl rfl goes9 ((scan_law _ _ (s ++ [43]) (hE.mono hm)).x ?_));
      rintro _ m2 _ ⟨hm2, rfl, sl, rfl, hsl2⟩
      rw [scan_num hd hn (by omega)] at hsl2 ⊢
      replace hsl2 : SlRep rTok m2 sl [⟨2, [], n, 0⟩, ⟨4, [43], 0, s.length⟩] := hsl2
      obtain ⟨sa, sn, sc⟩ := sl
      have hlen2 : sn = 2 := hsl2.len
      subst hlen2
      replace hm2 := Mem.le_trans hm hm2
      repeat (first|refine q1 ?_|refine q3 ?_|refine q4 tab rfl rfl ?_|refine q5 ?_|refine q6 ?_)
      refine TO.step rfl (OT.concat (s := [97, 32, 48]) (u := s) rfl rfl rfl rfl rfl (by simp only [List.length_cons, List.length_nil]; omega) ?_)
      refine TO.step rfl (OT.call rfl rfl rfl rfl rfl rfl goes9 ((scan_law _ _ (97 :: 32 :: 48 :: s) (hE.mono hm2)).x ?_));
      rintro _ m3 _ ⟨hm3, rfl, sl3, rfl, _⟩
      rw [scan_nought hd (by omega)]
      have hsl3 := hsl2.mono hm3
      replace hm3 := Mem.le_trans hm2 hm3
      repeat (first|refine q1 ?_|refine q3 ?_|refine q4 tab rfl rfl ?_|refine q5 ?_|refine q6 ?_)
      refine TO.step rfl (OT.concat (s := s) (u := [120]) rfl rfl rfl rfl rfl (by simp only [List.length_cons, List.length_nil]; omega) ?_)
      refine TO.step rfl (OT.call rfl rfl rfl rfl rfl rfl goes9 ((scan_law _ _ (s ++ [120]) (hE.mono hm3)).x ?_));
      rintro _ m4 _ ⟨hm4, rfl, sl4, rfl, _⟩
      rw [scan_behind hd (by omega)]
      have hsl4 := hsl3.mono hm4
      replace hm4 := Mem.le_trans hm3 hm4
      repeat (first|refine q1 ?_|refine q3 ?_|refine q4 tab rfl rfl ?_|refine q5 ?_|refine q6 ?_)
      refine TO.step rfl (OT.call rfl rfl rfl rfl rfl rfl goes9 ((scan_law _ _ [57, 50, 50, 51, 51, 55, 50, 48, 51, 54, 56, 53, 52, 55, 55, 53, 56, 48, 56] (hE.mono hm4)).x ?_));
      rintro _ m5 _ ⟨hm5, rfl, sl5, rfl, _⟩
      rw [scan_most]
      have hsl5 := hsl4.mono hm5
      replace hm5 := Mem.le_trans hm4 hm5
      repeat (first|refine q1 ?_|refine q3 ?_|refine q4 tab rfl rfl ?_|refine q5 ?_|refine q6 ?_)
      refine TO.step rfl (OT.call rfl rfl rfl rfl rfl rfl goes11 ((awake_law _ _ (hE.mono hm5)).x ?_));
      rintro _ m6 _ ⟨hm6, rfl, rfl⟩
      have hsl6 := hsl5.mono hm6
      replace hm6 := Mem.le_trans hm5 hm6
      repeat (refine q4 tab rfl rfl ?_)
      refine TO.step rfl (OT.index tab rTok 0 hsl6 rfl rfl rfl rfl rfl (by first | rfl | omega) rfl rfl ?_)
      rintro b i hd rfl hA
      repeat (refine q4 tab rfl rfl ?_)
      (refine TO.step rfl (OT.loadA tab hA rfl rfl rfl rfl rfl ?_))
      repeat (refine q4 tab rfl rfl ?_)
      refine TO.step rfl (OT.index tab rTok 0 hsl6 rfl rfl rfl rfl rfl (by first | rfl | omega) rfl rfl ?_)
      rintro b2 i2 hd rfl hA2
      repeat (refine q4 tab rfl rfl ?_)
      (refine TO.step rfl (OT.loadA tab hA2 rfl rfl rfl rfl rfl ?_))
      repeat (refine q4 tab rfl rfl ?_)
      (refine TO.splitP rfl rfl (fun c3 => ?_) (fun c3 => ?_))
      · repeat (first|refine q4 tab rfl rfl ?_|refine q5 ?_|refine q6 ?_|refine q15 ?_)
        refine retQ_ret rfl (by repeat (exact List.Sublist.refl _)) ⟨hm6, rfl, rfl⟩
      · exact absurd rfl c3
end Go.Sep
