/-
  From the reading of the arguments and of the listed variables to the state that the walks start from; and back (the scan seat).
-/
import Derived.Test.YtdejeeooegekiaaDoorCards
import Derived.Test.YtdejeeooegekiaaDoorTie
import Derived.Deep.DeepHandedRow
import Derived.Deep.DeepWitnessRowRef
import Derived.Stop.LaidErr
import Derived.SizedLaws
import Derived.ChangeSame
import Derived.RowKit3
import Derived.ProofKit
import Derived.OpenShut
import Derived.JoinedCond
import Derived.LaidLaws
import Derived.Test.YtdejeeooegekiaaDoorB7
set_option linter.unusedVariables false
set_option linter.unusedSimpArgs false
namespace Go.Sep
open Go.Proofs Go.ChangeShapes Go.WideShapes Go.Proofs.YtdejeeooegekiaaDoor

/-- all that is there at the start -/
def memOf (W : World) : Mem := ⟨W, fun b i => W.cell? ⟨b, i, none⟩, fun _ => none, fun _ => none⟩

theorem St.start (W : World) : St (memOf W) W [] where
  os := rfl
  tape := rfl
  output := rfl
  size := Nat.le_refl _
  pin := fun _ _ => rfl
  c := fun _ _ _ h => h
  o := fun _ _ h => by cases h
  t := fun _ _ h => by cases h
  items := fun _ h => by cases h
  free := fun _ h => by cases h
  disj := List.Pairwise.nil

theorem St.kept {W w' : World} {m' : Mem} {L' : List Item} (h : St m' w' L') (hm : memOf W ≤ m') : W.keptBut w' (fun _ => False) := by
  have hp : m'.pin = W := hm.pin
  have hsz := h.size
  have hpin := h.pin
  rw [hp] at hsz hpin
  refine ⟨by rw [h.os, hp], by rw [h.output, hp], fun i hi => ?_⟩
  rw [hpin i hi]
  split
  · rename_i c t fr c' t' fr' h1 h2
    rw [h1] at h2
    simp only [Option.some.injEq, Obj.cells.injEq] at h2
    obtain ⟨rfl, rfl, rfl⟩ := h2
    exact ⟨rfl, rfl, rfl, fun _ _ => rfl⟩
  · rename_i es c es' c' h1 h2
    rw [h1] at h2
    simp only [Option.some.injEq, Obj.map.injEq] at h2
    obtain ⟨rfl, rfl⟩ := h2
    exact .inr ⟨rfl, rfl⟩
  · rfl
end Go.Sep
namespace Go.Proofs.YtdejeeooegekiaaDoor
open Go.ChangeShapes Go.WideShapes Go.ChangeAt Go.RowKit Go.Sep
open Go.ChangeMaps (open_string shut_string)
theorem own : ownKnob Tryd.prog.godebug = none := by kernel_rfl
theorem cells86 : Tryd.prog.cellsOf 86 = 1 := by kernel_rfl
theorem cells9 : Tryd.prog.cellsOf 9 = 1 := by kernel_rfl
theorem star : "*" ++ "errors.errorString" = "*errors.errorString" := by decide
theorem row84 (u : TypeId) (h : Tryd.prog.typeName? 3 u = some "*errors.errorString") : u = 84 :=
  typeName_ptr_named (nm := "errors.errorString") (by rw [star]; kernel_rfl) (by kernel_rfl) (by decide) u (by rw [star]; exact h)
theorem gSyn : Tryd.prog.globalNamed "strconv.ErrSyntax" = some 1 := by kernel_rfl
theorem gSynT : (Tryd.prog.globals[1]?).map (·.type) = some 52 := by kernel_rfl
theorem gRng : Tryd.prog.globalNamed "strconv.ErrRange" = some 2 := by kernel_rfl
theorem gRngT : (Tryd.prog.globals[2]?).map (·.type) = some 52 := by kernel_rfl

/-- what the rows list -/
def laidL : List (String × DataW Unit) := [("math/bits.deBruijn32tab", Rows.laid_math_bits_deBruijn32tab), ("math/bits.deBruijn64tab", Rows.laid_math_bits_deBruijn64tab), ("internal/strconv.uint64pow10", Rows.laid_internal_strconv_uint64pow10), ("strconv.ErrRange", Rows.laid_strconv_ErrRange), ("strconv.ErrSyntax", Rows.laid_strconv_ErrSyntax)]

theorem errs_of {W : World} (h : laidMetH Tryd.prog laidL W) : Errs (memOf W) := by
  have hL : laidMet Tryd.prog laidL W := h
  obtain ⟨a0, s0, hv0, -, -, -⟩ := laid_sentinel hL.tail.tail.tail gRng gRngT Tryd.underlying52 row84 Tryd.underlying84 Tryd.underlying86 rfl rfl Tryd.underlying9 cells86 cells9
  obtain ⟨a1, s1, hv1, -, -, -⟩ := laid_sentinel hL.tail.tail.tail.tail gSyn gSynT Tryd.underlying52 row84 Tryd.underlying84 Tryd.underlying86 rfl rfl Tryd.underlying9 cells86 cells9
  have c0 : W.cell? ⟨2, 0, none⟩ = some (.iface 84 (.pointer (some a0))) := by simpa using World.var?_cell gRng hv0 0
  have c1 : W.cell? ⟨1, 0, none⟩ = some (.iface 84 (.pointer (some a1))) := by simpa using World.var?_cell gSyn hv1 0
  refine ⟨⟨84, .pointer (some a1), fun j v hj => ?_⟩, ⟨84, .pointer (some a0), fun j v hj => ?_⟩⟩
  · cases j with
    | zero => cases hj; exact c1
    | succ j => simp at hj
  · cases j with
    | zero => cases hj; exact c0
    | succ j => simp at hj

abbrev synS : ByteArray := { data := #[105, 110, 118, 97, 108, 105, 100, 32, 115, 121, 110, 116, 97, 120] }
abbrev rngS : ByteArray := { data := #[118, 97, 108, 117, 101, 32, 111, 117, 116, 32, 111, 102, 32, 114, 97, 110, 103, 101] }
noncomputable def low : Nat := (World.holding Tryd.prog default ⟨#[], #[], []⟩).heap.size
/-- a world in which the listed variables are laid -/
noncomputable def laidWorld (os : Os) : World :=
  let w0 := World.holding Tryd.prog os ⟨#[.cells #[.string synS] 86, .cells #[.string rngS] 86], #[], []⟩
  let put (g : Nat) (vs : Array Value) (h : Array Obj) : Array Obj := h.modify g fun
      | .cells _ t frozen => .cells vs t frozen
      | o => o
  { w0 with heap := put 5 #[.int .u8 0, .int .u8 1, .int .u8 56, .int .u8 2, .int .u8 57, .int .u8 49, .int .u8 28, .int .u8 3, .int .u8 61, .int .u8 58, .int .u8 42, .int .u8 50, .int .u8 38, .int .u8 29, .int .u8 17, .int .u8 4, .int .u8 62, .int .u8 47, .int .u8 59, .int .u8 36, .int .u8 45, .int .u8 43, .int .u8 51, .int .u8 22, .int .u8 53, .int .u8 39, .int .u8 33, .int .u8 30, .int .u8 24, .int .u8 18, .int .u8 12, .int .u8 5, .int .u8 63, .int .u8 55, .int .u8 48, .int .u8 27, .int .u8 60, .int .u8 41, .int .u8 37, .int .u8 16, .int .u8 46, .int .u8 35, .int .u8 44, .int .u8 21, .int .u8 52, .int .u8 32, .int .u8 23, .int .u8 11, .int .u8 54, .int .u8 26, .int .u8 40, .int .u8 15, .int .u8 34, .int .u8 20, .int .u8 31, .int .u8 10, .int .u8 25, .int .u8 14, .int .u8 19, .int .u8 9, .int .u8 13, .int .u8 8, .int .u8 7, .int .u8 6] (put 4 #[.int .u8 0, .int .u8 1, .int .u8 28, .int .u8 2, .int .u8 29, .int .u8 14, .int .u8 24, .int .u8 3, .int .u8 30, .int .u8 22, .int .u8 20, .int .u8 15, .int .u8 25, .int .u8 17, .int .u8 4, .int .u8 8, .int .u8 31, .int .u8 27, .int .u8 13, .int .u8 23, .int .u8 21, .int .u8 19, .int .u8 16, .int .u8 7, .int .u8 26, .int .u8 12, .int .u8 18, .int .u8 6, .int .u8 11, .int .u8 5, .int .u8 10, .int .u8 9] (put 3 #[.int .u64 1, .int .u64 10, .int .u64 100, .int .u64 1000, .int .u64 10000, .int .u64 100000, .int .u64 1000000, .int .u64 10000000, .int .u64 100000000, .int .u64 1000000000, .int .u64 10000000000, .int .u64 100000000000, .int .u64 1000000000000, .int .u64 10000000000000, .int .u64 100000000000000, .int .u64 1000000000000000, .int .u64 10000000000000000, .int .u64 100000000000000000, .int .u64 1000000000000000000, .int .u64 10000000000000000000] (put 2 #[.iface 84 (.pointer (some ⟨low + 1, 0, none⟩))] (put 1 #[.iface 84 (.pointer (some ⟨low, 0, none⟩))] w0.heap)))) }

theorem laid_met (os : Os) (args : Array Value) : laidMet Tryd.prog laidL ((laidWorld os).forCall (fun _ _ => 0) ⟨#[], args, []⟩).memory :=
  laidMet_of_run' 8 (by kernel_rfl) (by kernel_rfl)

/-- behind the call all is as1 it was; what is new may be frozen -/
theorem post_old {H : Type} {enc : TypeId × Value → H} {f : Func} {s : ChangeSpec} {apart fresh handsOn : Bool} {W W' : World} {args : Array Value} {v : Value} {ds gs : List (DataW H)} {before pa pv : List MemPlace}
    (hW : DataW.Whole enc Tryd.prog f.params.toList s.vars apart W args.toList ds gs before)
    (hres : ∀ (b : Nat) (sp : Nat → Bool) (hd : Bool), DataW.TrodAll enc Tryd.prog W' b sp hd f.resultTypes.toList (v.resultList f.resultTypes.size) (s.fn H (ds ++ gs)).results [])
    (hargs : ∀ sp : Nat → Bool, (∀ p ∈ before, sp p.block = true) → DataW.TrodAll enc Tryd.prog W' 0 sp true f.params.toList args.toList (s.fn H (ds ++ gs)).args pa)
    (hvars : ∀ sp : Nat → Bool, (∀ p ∈ before, sp p.block = true) → DataW.TrodVars enc Tryd.prog W' sp s.vars (s.fn H (ds ++ gs)).vars pv)
    (hk : W.keptBut W' (fun _ => False)) : s.post enc Tryd.prog f apart fresh handsOn false W args v W' := by
  have hold : ∀ p ∈ before, (fun b => decide (b < W.heap.size)) p.block = true := fun p hp => by simpa using hW.lt p hp
  exact ⟨ds, gs, before, [], pa, pv, hW, hres _ _ _, hargs _ hold, hvars _ hold, World.keptBut_mono (fun _ hp => hp.elim) hk, fun h => by cases h⟩

set_option maxRecDepth 100000 in
/-- a law over a string -/
theorem lawS {f : FuncId} {fn : Func} {s : ChangeSpec} (hvars : s.vars = []) (hpar : fn.params = #[9]) (hres : fn.resultTypes = #[4])
    (hfn : ∀ (H : Type) (d : DataW H), s.fn H [d] = { results := [.lit (.bool true)], args := [d] }) (ok : Str → Prop)
    (hT : ∀ (m : Mem) (L : List Sep.Item) (t : Str), Errs m → ok t → TCall Tryd.prog f ⟨[strV t]⟩ m L (Made m L fun r _ => r = .bool true))
    {fresh handsOn : Bool} (H : Type) (enc : TypeId × Value → H) (W : World) (base : Nat) (args : Array Value) (ds gs : List (DataW H)) (before : List MemPlace)
    (hval : ∀ (j : Nat) t v, fn.params[j]? = some t → args[j]? = some v → Value.okWide Tryd.prog W .any base t v)
    (hW : DataW.Whole enc Tryd.prog fn.params.toList s.vars false W args.toList ds gs before) (hok : ∀ t : Str, ds ++ gs = [.lit (.string t)] → ok t) (hL : laidMetH Tryd.prog laidL W) :
    Calls Tryd.prog f args W fun e W' => ∃ v, e = .returned v ∧ s.post enc Tryd.prog fn false fresh handsOn false W args v W' := by
  have hW' := hW
  obtain ⟨p, q, hA0, hV, rfl, hfz, hnd⟩ := hW
  rw [hvars] at hV
  obtain ⟨rfl, rfl⟩ := trodVars_none hV
  rw [hpar] at hA0 hval
  obtain ⟨v, d, rfl, rfl, h0⟩ := trodAll_one hA0
  obtain ⟨t, rfl, rfl, rfl, hz⟩ := open_string Tryd.underlying9 (hval 0 9 v rfl rfl) h0
  simp only [List.append_nil] at hW'
  refine (hT (memOf W) [] t.data.toList (errs_of hL) (hok _ rfl) W (St.start W)).mono fun e W' hX => ?_
  cases e with
  | returned r =>
    obtain ⟨m', L', hst, hle, _, rfl⟩ := hX
    refine ⟨_, rfl, post_old (pa := []) (pv := []) hW' (fun _ _ _ => ?_) (fun sp hsp => ?_) (fun _ _ => ?_) (hst.kept hle)⟩
    · rw [hres, show ([.lit (.string t.data.toList)] ++ [] : List (DataW H)) = [.lit (.string t.data.toList)] from rfl, hfn]
      exact trodAll_mk1 (shut_bool Tryd.underlying4 _)
    · rw [hpar, show ([.lit (.string t.data.toList)] ++ [] : List (DataW H)) = [.lit (.string t.data.toList)] from rfl, hfn]
      exact trodAll_mk1 (shut_string Tryd.underlying9 hz)
    · rw [hvars, show ([.lit (.string t.data.toList)] ++ [] : List (DataW H)) = [.lit (.string t.data.toList)] from rfl, hfn]
      rfl
  | panicked ch =>
    obtain ⟨_, _, _, hf⟩ := hX
    exact hf.elim
  | outgrown => exact hX.elim
end Go.Proofs.YtdejeeooegekiaaDoor

/-
  The row of a law over a string and a byte (the scan seat).
-/
set_option linter.unusedVariables false
set_option linter.unusedSimpArgs false
namespace Go.Proofs.YtdejeeooegekiaaDoor
open Go.ChangeShapes Go.WideShapes Go.ChangeAt Go.RowKit Go.Sep
open Go.ChangeMaps (open_string shut_string)

set_option maxRecDepth 100000 in
/-- a law over a string and a byte -/
theorem lawSB {f : FuncId} {fn : Func} {s : ChangeSpec} (hvars : s.vars = []) (hpar : fn.params = #[9, 5]) (hres : fn.resultTypes = #[4])
    (hfn : ∀ (H : Type) (d e : DataW H), s.fn H [d, e] = { results := [.lit (.bool true)], args := [d, e] })
    (hT : ∀ (m : Mem) (L : List Sep.Item) (t : Str) (c : UInt8), Errs m → TCall Tryd.prog f ⟨[strV t, byteV c]⟩ m L (Made m L fun r _ => r = .bool true))
    {fresh handsOn : Bool} (H : Type) (enc : TypeId × Value → H) (W : World) (base : Nat) (args : Array Value) (ds gs : List (DataW H)) (before : List MemPlace)
    (hval : ∀ (j : Nat) t v, fn.params[j]? = some t → args[j]? = some v → Value.okWide Tryd.prog W .any base t v)
    (hW : DataW.Whole enc Tryd.prog fn.params.toList s.vars false W args.toList ds gs before) (hL : laidMetH Tryd.prog laidL W) :
    Calls Tryd.prog f args W fun e W' => ∃ v, e = .returned v ∧ s.post enc Tryd.prog fn false fresh handsOn false W args v W' := by
  have hW' := hW
  obtain ⟨p, q, hA0, hV, rfl, hfz, hnd⟩ := hW
  rw [hvars] at hV
  obtain ⟨rfl, rfl⟩ := trodVars_none hV
  rw [hpar] at hA0 hval
  obtain ⟨v, v1, d, d1, p0, p1, rfl, rfl, rfl, h0, h1⟩ := trodAll_two hA0
  obtain ⟨t, rfl, rfl, rfl, hz⟩ := open_string Tryd.underlying9 (hval 0 9 v rfl rfl) h0
  obtain ⟨z, rfl, rfl, rfl, hy⟩ := open_int Tryd.underlying5 (hval 1 5 v1 rfl rfl) h1
  obtain ⟨c, rfl⟩ : ∃ c : UInt8, z = (c.toNat : Int) := by
    have h1 := hy
    have e1 : IntKind.u8.min = 0 := by decide
    have e2 : IntKind.u8.max = 255 := by decide
    simp only [Lit.wf, Bool.and_eq_true, decide_eq_true_eq, e1, e2] at h1
    exact ⟨UInt8.ofNat z.toNat, by rw [UInt8.toNat_ofNat', Nat.mod_eq_of_lt (by omega)]; omega⟩
  simp only [List.append_nil] at hW'
  refine (hT (memOf W) [] t.data.toList c (errs_of hL) W (St.start W)).mono fun e W' hX => ?_
  cases e with
  | returned r =>
    obtain ⟨m', L', hst, hle, _, rfl⟩ := hX
    refine ⟨_, rfl, post_old (pa := []) (pv := []) hW' (fun _ _ _ => ?_) (fun sp hsp => ?_) (fun _ _ => ?_) (hst.kept hle)⟩
    · rw [hres, show ([.lit (.string t.data.toList), .lit (.int .u8 (c.toNat : Int))] ++ [] : List (DataW H)) = [.lit (.string t.data.toList), .lit (.int .u8 (c.toNat : Int))] from rfl, hfn]
      exact trodAll_mk1 (shut_bool Tryd.underlying4 _)
    · rw [hpar, show ([.lit (.string t.data.toList), .lit (.int .u8 (c.toNat : Int))] ++ [] : List (DataW H)) = [.lit (.string t.data.toList), .lit (.int .u8 (c.toNat : Int))] from rfl, hfn]
      exact trodAll_mk2 (shut_string Tryd.underlying9 hz) (shut_int Tryd.underlying5 hy)
    · rw [hvars, show ([.lit (.string t.data.toList), .lit (.int .u8 (c.toNat : Int))] ++ [] : List (DataW H)) = [.lit (.string t.data.toList), .lit (.int .u8 (c.toNat : Int))] from rfl, hfn]
      rfl
  | panicked ch =>
    obtain ⟨_, _, _, hf⟩ := hX
    exact hf.elim
  | outgrown => exact hX.elim
end Go.Proofs.YtdejeeooegekiaaDoor

/-
  Plain laws of scanning: quoted texts; what stands ahead of a place.
-/
set_option linter.unusedVariables false
set_option linter.unusedSimpArgs false
namespace Go.Sep

/-! ### quoted texts -/
theorem hexB_all : ∀ n : Fin 256, hexB (hexD (n.val / 16)) (hexD (n.val % 16)) = some (UInt8.ofNat n.val) := by decide +kernel
theorem hexB_hexD (c : UInt8) : hexB (hexD (c.toNat / 16)) (hexD (c.toNat % 16)) = some c := by
  have := hexB_all ⟨c.toNat, c.toNat_lt⟩
  simpa using this
theorem lit_quoteC (c : UInt8) (r : Str) : lit (quoteC c ++ r) = (lit r).map fun p => (c :: p.1, p.2 + (quoteC c).length) := by
  by_cases h1 : c.toNat = 10
  · have hc : c = 10 := UInt8.toNat_inj.1 h1
    rw [qc_nl h1, hc]
    exact (lit_esc_some (c := 92) rfl (esc_n (r := r) rfl))
  by_cases h2 : c.toNat = 9
  · have hc : c = 9 := UInt8.toNat_inj.1 h2
    rw [qc_tab h2, hc]
    exact (lit_esc_some (c := 92) rfl (esc_t (r := r) rfl))
  by_cases h3 : c.toNat = 34 ∨ c.toNat = 92
  · rw [qc_self h3]
    exact (lit_esc_some (c := 92) rfl (esc_self (r := r) h3))
  by_cases h4 : 32 ≤ c.toNat ∧ c.toNat ≤ 126
  · rw [qc_one (by omega) (by omega) h4.1 h4.2]
    exact lit_one (by omega) h1 (by omega)
  · rw [qc_hex h1 h2 (by omega)]
    have he : escB (120 :: hexD (c.toNat / 16) :: hexD (c.toNat % 16) :: r) = some (c, 3) := by rw [esc_x rfl, hexB_hexD]; rfl
    exact lit_esc_some (c := 92) rfl he
theorem lit_quoteB : ∀ (s r : Str), lit (quoteB s ++ 34 :: r) = some (s, (quoteB s).length + 1)
  | [], r => by rw [quoteB, List.flatMap_nil, List.nil_append, lit_quote rfl]; rfl
  | c :: s, r => by
    have hq : quoteB (c :: s) = quoteC c ++ quoteB s := by unfold quoteB; rw [List.flatMap_cons]
    rw [hq, List.append_assoc, lit_quoteC, lit_quoteB s r]
    simp
    omega

theorem tokD_str {r t : Str} {n : Nat} (h : lit r = some (t, n)) : tokD (34 :: r) = if 1024 < t.length then none else some (⟨3, t, 0, 0⟩, n + 1) := by
  have h1 : ¬ ltr 34 = true := by decide
  have h2 : ¬ dgt 34 = true := by decide
  rw [tokD, if_neg h1, if_neg h2, if_pos (by decide), h]
theorem quoteD_len (s : Str) : (quoteD s).length = (quoteB s).length + 2 := by simp [quoteD]
theorem tokD_quote (s : Str) : tokD (quoteD s) = if 1024 < s.length then none else some (⟨3, s, 0, 0⟩, (quoteD s).length) := by
  rw [quoteD, tokD_str (lit_quoteB s [])]
  rw [show (34 :: (quoteB s ++ [34])).length = (quoteB s).length + 1 + 1 by simp]
theorem blk_34 (r : Str) : blk false (34 :: r) = 0 := by
  rw [blk, if_neg (by decide), if_neg (by intro h; exact absurd h.1 (by decide))]
theorem scan_quote (s : Str) (hl : (quoteD s).length ≤ 65536) : scanD (quoteD s) = if 1024 < s.length then ⟨[], 0, 3⟩ else ⟨[⟨3, s, 0, 0⟩], 0, 0⟩ := by
  rw [scanD, if_neg (by omega)]
  have h0 := CutAt.start (quoteD s)
  have hb : blk false ((quoteD s).drop 0) = 0 := by rw [List.drop_zero, quoteD, blk_34]
  have hlen := quoteD_len s
  have ht := tokD_quote s
  by_cases h : 1024 < s.length
  · rw [if_pos h] at ht ⊢
    have := h0.text (Nat.zero_le _) (by rw [hb]; omega) (by decide) (by rw [hb]; exact ht)
    rw [this, hb]; rfl
  · rw [if_neg h] at ht ⊢
    have h1 := h0.go (Nat.zero_le _) (by rw [hb]; omega) (by decide) (by rw [hb]; exact ht)
    rw [hb] at h1
    simp only [Nat.zero_add] at h1
    have := h1.end_ (Nat.le_refl _) (by rw [List.drop_length]; rfl)
    rw [this]; rfl

/-! ### what stands ahead of a place -/
theorem blk_take : ∀ (b : Bool) (r : Str) (j : Nat), blk b r ≤ j → blk b (r.take j) = blk b r
  | _, [], j, _ => by simp [blk]
  | true, c :: r, 0, h => by
    rw [blk] at h
    split at h <;> omega
  | true, c :: r, j + 1, h => by
    rw [List.take_succ_cons, blk, blk]
    rw [blk] at h
    split at h
    · rename_i hc
      rw [if_pos hc, if_pos hc, blk_take false r j (by omega)]
    · rename_i hc
      rw [if_neg hc, if_neg hc, blk_take true r j (by omega)]
  | false, c :: r, 0, h => by
    have : blk false (c :: r) = 0 := by omega
    rw [this]; rfl
  | false, c :: r, j + 1, h => by
    rw [List.take_succ_cons, blk, blk]
    rw [blk] at h
    split at h
    · rename_i hc
      rw [if_pos hc, if_pos hc, blk_take false r j (by omega)]
    · rename_i hc
      rw [if_neg hc, if_neg hc]
      split at h
      · rename_i h2
        have hj : 1 ≤ j := by
          cases r with
          | nil => cases h2.2
          | cons x r =>
            have hx : x = 47 := by have := h2.2; simpa using this
            subst hx
            rw [blk, if_neg (by decide)] at h
            omega
        have hh : (r.take j).head? = r.head? := by
          cases r with
          | nil => simp
          | cons x r =>
            obtain ⟨i, rfl⟩ : ∃ i, j = i + 1 := ⟨j - 1, by omega⟩
            simp
        rw [hh, if_pos h2, if_pos h2, blk_take true r j (by omega)]
      · rename_i h2
        rw [if_neg h2, if_neg]
        rintro ⟨h3, h4⟩
        refine h2 ⟨h3, ?_⟩
        cases j with
        | zero => simp at h4
        | succ i =>
          cases r with
          | nil => simp at h4
          | cons x r => simpa using h4

theorem takeWhile_take (p : UInt8 → Bool) : ∀ (s : Str) (j : Nat), (s.takeWhile p).length ≤ j → ((s.take j).takeWhile p).length = (s.takeWhile p).length
  | [], j, _ => by simp
  | c :: r, 0, h => by
    rw [List.takeWhile_cons] at h ⊢
    split at h
    · simp at h
    · rename_i hc
      rw [if_neg hc]; rfl
  | c :: r, j + 1, h => by
    rw [List.take_succ_cons, List.takeWhile_cons, List.takeWhile_cons]
    rw [List.takeWhile_cons] at h
    split
    · rename_i hc
      rw [if_pos hc] at h
      simp only [List.length_cons] at h ⊢
      rw [takeWhile_take p r j (by omega)]
    · rfl
theorem span_take {p : UInt8 → Bool} {s : Str} {j : Nat} (h : spanOf p s ≤ j) : spanOf p (s.take j) = spanOf p s := takeWhile_take p s j h

theorem escX_take {r : Str} {b : UInt8} {n j : Nat} (h : escX r = some (b, n)) (hj : n ≤ j + 1) : escX (r.take j) = some (b, n) := by
  match r, h with
  | x :: y :: r', h =>
    have h' : (hexB x y).map (fun z => (z, 3)) = some (b, n) := h
    have hn : n = 3 := by
      cases hx : hexB x y with
      | none => rw [hx] at h'; cases h'
      | some z => rw [hx] at h'; cases h'; rfl
    obtain ⟨i, rfl⟩ : ∃ i, j = i + 2 := ⟨j - 2, by omega⟩
    exact h
theorem escB_take {r : Str} {b : UInt8} {n j : Nat} (h : escB r = some (b, n)) (hj : n ≤ j) : escB (r.take j) = some (b, n) := by
  have hp := escB_pos h
  cases r with
  | nil => cases h
  | cons c r =>
    obtain ⟨i, rfl⟩ : ∃ i, j = i + 1 := ⟨j - 1, by omega⟩
    rw [List.take_succ_cons]
    rw [escB] at h ⊢
    by_cases h1 : c.toNat = 110
    · rw [if_pos h1] at h ⊢; exact h
    · rw [if_neg h1] at h ⊢
      by_cases h2 : c.toNat = 116
      · rw [if_pos h2] at h ⊢; exact h
      · rw [if_neg h2] at h ⊢
        by_cases h3 : c.toNat = 34 ∨ c.toNat = 92
        · rw [if_pos h3] at h ⊢; exact h
        · rw [if_neg h3] at h ⊢
          by_cases h4 : c.toNat = 120
          · rw [if_pos h4] at h ⊢; exact escX_take h hj
          · rw [if_neg h4] at h; cases h

theorem lit_take : ∀ (N : Nat) (r t : Str) (n j : Nat), r.length < N → lit r = some (t, n) → n ≤ j → lit (r.take j) = some (t, n)
  | 0, _, _, _, _, h, _, _ => by omega
  | N + 1, [], _, _, _, _, h, _ => by cases h
  | N + 1, c :: r, t, n, j, hN, h, hj => by
    have hp := lit_le h
    simp only [List.length_cons] at hN
    obtain ⟨i, rfl⟩ : ∃ i, j = i + 1 := ⟨j - 1, by omega⟩
    rw [List.take_succ_cons]
    by_cases h1 : c.toNat = 34
    · rw [lit_quote h1] at h ⊢; exact h
    by_cases h2 : c.toNat = 10
    · rw [lit_nl h2] at h; cases h
    by_cases h3 : c.toNat = 92
    · cases he : escB r with
      | none => rw [lit_esc_none h3 he] at h; cases h
      | some p =>
        obtain ⟨b, k⟩ := p
        rw [lit_esc_some h3 he] at h
        cases hl : lit (r.drop k) with
        | none => rw [hl] at h; cases h
        | some q =>
          obtain ⟨t', n'⟩ := q
          rw [hl] at h
          simp only [Option.map_some, Option.some.injEq, Prod.mk.injEq] at h
          have hk := escB_pos he
          have he' := escB_take (j := i) he (by omega)
          rw [lit_esc_some h3 he', List.drop_take, lit_take N (r.drop k) t' n' (i - k) (by rw [List.length_drop]; omega) hl (by omega)]
          simp only [Option.map_some, Option.some.injEq, Prod.mk.injEq]
          exact h
    · cases hl : lit r with
      | none => rw [lit_one h1 h2 h3, hl] at h; cases h
      | some q =>
        obtain ⟨t', n'⟩ := q
        rw [lit_one h1 h2 h3, hl] at h
        simp only [Option.map_some, Option.some.injEq, Prod.mk.injEq] at h
        rw [lit_one h1 h2 h3, lit_take N r t' n' i (by omega) hl (by omega)]
        simp only [Option.map_some, Option.some.injEq, Prod.mk.injEq]
        exact h

theorem prefixB_iff {p s : Str} : prefixB p s = true ↔ p.length ≤ s.length ∧ s.take p.length = p := by
  unfold prefixB
  rw [Bool.and_eq_true, decide_eq_true_iff, decide_eq_true_iff]
theorem find_take {s p : Str} {j : Nat} (hj : p.length ≤ j) : ∀ l : List Str, l.find? (fun q => prefixB q s) = some p → l.find? (fun q => prefixB q (s.take j)) = some p
  | [], h => by cases h
  | q :: l, h => by
    by_cases hq : prefixB q s = true
    · rw [List.find?_cons_of_pos (p := fun q => prefixB q s) hq] at h
      cases h
      refine List.find?_cons_of_pos (p := fun q => prefixB q (s.take j)) (prefixB_iff.2 ?_)
      obtain ⟨h1, h2⟩ := prefixB_iff.1 hq
      refine ⟨by rw [List.length_take]; omega, ?_⟩
      rw [List.take_take, Nat.min_eq_left hj]; exact h2
    · rw [List.find?_cons_of_neg (p := fun q => prefixB q s) hq] at h
      rw [List.find?_cons_of_neg (p := fun q => prefixB q (s.take j))]
      · exact find_take hj l h
      · intro h3
        obtain ⟨h1, h2⟩ := prefixB_iff.1 h3
        rw [List.length_take] at h1
        rw [List.take_take, Nat.min_eq_left (by omega)] at h2
        exact hq (prefixB_iff.2 ⟨by omega, h2⟩)

theorem tokD_take {s : Str} {t : Tok} {n j : Nat} (h : tokD s = some (t, n)) (hj : n ≤ j) : tokD (s.take j) = some (t, n) := by
  have hp := tokD_le h
  cases s with
  | nil => cases h
  | cons c r =>
    obtain ⟨i, rfl⟩ : ∃ i, j = i + 1 := ⟨j - 1, by omega⟩
    have hts : (c :: r).take (i + 1) = c :: r.take i := rfl
    by_cases h1 : ltr c = true
    · have hn : n = spanOf lod (c :: r) := by
        rw [tokD, if_pos h1] at h
        split at h
        · cases h
        · cases h; rfl
      have hsp : spanOf lod ((c :: r).take (i + 1)) = spanOf lod (c :: r) := span_take (by omega)
      have htt : ((c :: r).take (i + 1)).take (spanOf lod (c :: r)) = (c :: r).take (spanOf lod (c :: r)) := by rw [List.take_take, Nat.min_eq_left (by omega)]
      rw [hts] at hsp htt ⊢
      rw [tokD, if_pos h1] at h ⊢
      rw [hsp, htt]; exact h
    · by_cases h2 : dgt c = true
      · have hn : n = spanOf lod (c :: r) ∧ spanOf dgt (c :: r) = spanOf lod (c :: r) := by
          rw [tokD, if_neg h1, if_pos h2] at h
          split at h
          · cases h
          · split at h
            · cases h
            · rename_i h3
              cases h; exact ⟨rfl, by omega⟩
        have hsp : spanOf lod ((c :: r).take (i + 1)) = spanOf lod (c :: r) := span_take (by omega)
        have hsd : spanOf dgt ((c :: r).take (i + 1)) = spanOf dgt (c :: r) := span_take (by omega)
        have htt : ((c :: r).take (i + 1)).take (spanOf lod (c :: r)) = (c :: r).take (spanOf lod (c :: r)) := by rw [List.take_take, Nat.min_eq_left (by omega)]
        rw [hts] at hsp hsd htt ⊢
        rw [tokD, if_neg h1, if_pos h2] at h ⊢
        rw [hsp, hsd, htt]; exact h
      · by_cases h3 : c.toNat = 34
        · rw [hts]
          rw [tokD, if_neg h1, if_neg h2, if_pos h3] at h ⊢
          cases hl : lit r with
          | none => rw [hl] at h; cases h
          | some q =>
            obtain ⟨t', n'⟩ := q
            rw [hl] at h
            simp only at h
            have hn : n = n' + 1 := by
              split at h
              · cases h
              · cases h; rfl
            rw [lit_take (r.length + 1) r t' n' i (by omega) hl (by omega)]
            exact h
        · rw [tokD, if_neg h1, if_neg h2, if_neg h3] at h
          cases hf : markL.find? (fun p => prefixB p (c :: r)) with
          | none => rw [hf] at h; cases h
          | some p =>
            rw [hf] at h
            have hn : n = p.length := by cases h; rfl
            have := find_take (s := c :: r) (p := p) (j := i + 1) (by omega) markL hf
            rw [hts] at this ⊢
            rw [tokD, if_neg h1, if_neg h2, if_neg h3, this]
            exact h

/-- what stands ahead of a fault is tokens -/
theorem cutF_take : ∀ (f : Nat) (r : Str) (at_ k a : Nat), cutF f r at_ k = .error (a, 3) → r.length < f → at_ ≤ a ∧ a - at_ < r.length ∧ ∀ g, a - at_ < g → ∃ l, cutF g (r.take (a - at_)) at_ k = .ok l
  | 0, r, at_, k, a, h, hf => by omega
  | f + 1, r, at_, k, a, h, hf => by
    have hb := blk_le false r
    rw [cutF] at h
    by_cases h1 : r.drop (blk false r) = []
    · rw [if_pos h1] at h; cases h
    · rw [if_neg h1] at h
      have hlt : blk false r < r.length := by
        refine Nat.lt_of_not_le fun hge => h1 (List.drop_eq_nil_of_le hge)
      by_cases h2 : k = 20000
      · rw [if_pos h2] at h
        cases h
      · rw [if_neg h2] at h
        cases ht : tokD (r.drop (blk false r)) with
        | none =>
          rw [ht] at h
          simp only [Except.error.injEq, Prod.mk.injEq, and_true] at h
          subst h
          refine ⟨by omega, by omega, fun g hg => ?_⟩
          rw [show at_ + blk false r - at_ = blk false r by omega]
          cases g with
          | zero => omega
          | succ g =>
            refine ⟨[], ?_⟩
            rw [cutF, blk_take false r _ (Nat.le_refl _), List.drop_eq_nil_of_le (by rw [List.length_take]; omega), if_pos rfl]
        | some p =>
          obtain ⟨t, n⟩ := p
          rw [ht] at h
          simp only at h
          have hn := tokD_le ht
          rw [List.length_drop] at hn
          cases hc : cutF f ((r.drop (blk false r)).drop n) (at_ + blk false r + n) (k + 1) with
          | ok l => rw [hc] at h; cases h
          | error e =>
            rw [hc] at h
            simp only [Except.error.injEq] at h
            subst h
            obtain ⟨g1, g2, g3⟩ := cutF_take f _ _ _ _ hc (by rw [List.length_drop, List.length_drop]; omega)
            rw [List.length_drop, List.length_drop] at g2
            refine ⟨by omega, by omega, fun g hg => ?_⟩
            cases g with
            | zero => omega
            | succ g =>
              have hd : (r.take (a - at_)).drop (blk false r) = (r.drop (blk false r)).take (a - at_ - blk false r) := List.drop_take ..
              obtain ⟨l, hl⟩ := g3 g (by omega)
              have ht' := tokD_take (j := a - at_ - blk false r) ht (by omega)
              refine ⟨⟨t.kind, t.text, t.num, ((at_ + blk false r : Nat) : Int)⟩ :: l, ?_⟩
              rw [cutF, blk_take false r _ (by omega), hd, if_neg, if_neg h2, ht']
              · simp only
                rw [List.drop_take, show a - at_ - blk false r - n = a - (at_ + blk false r + n) by omega, hl]
              · intro e
                rw [e] at ht'
                cases ht'
end Go.Sep

/-
  Plain laws of scanning: places.
-/
set_option linter.unusedVariables false
set_option linter.unusedSimpArgs false
namespace Go.Sep

theorem cutF_ok : ∀ (f : Nat) (r : Str) (at_ k : Nat) (l : List Tok), cutF f r at_ k = .ok l → r.length < f → k ≤ 20000 → l.length + k ≤ 20000 ∧ (∀ t ∈ l, (at_ : Int) ≤ t.at_ ∧ t.at_ < at_ + r.length) ∧ l.Pairwise (fun a b => a.at_ < b.at_)
  | 0, r, at_, k, l, h, hf, hk => by omega
  | f + 1, r, at_, k, l, h, hf, hk => by
    have hb := blk_le false r
    rw [cutF] at h
    by_cases h1 : r.drop (blk false r) = []
    · rw [if_pos h1] at h
      cases h
      exact ⟨by simpa using hk, by simp, List.Pairwise.nil⟩
    · rw [if_neg h1] at h
      have hlt : blk false r < r.length := Nat.lt_of_not_le fun hge => h1 (List.drop_eq_nil_of_le hge)
      by_cases h2 : k = 20000
      · rw [if_pos h2] at h; cases h
      · rw [if_neg h2] at h
        cases ht : tokD (r.drop (blk false r)) with
        | none => rw [ht] at h; cases h
        | some p =>
          obtain ⟨t, n⟩ := p
          rw [ht] at h
          simp only at h
          have hn := tokD_le ht
          rw [List.length_drop] at hn
          cases hc : cutF f ((r.drop (blk false r)).drop n) (at_ + blk false r + n) (k + 1) with
          | error e => rw [hc] at h; cases h
          | ok l' =>
            rw [hc] at h
            cases h
            obtain ⟨g1, g2, g3⟩ := cutF_ok f _ _ _ _ hc (by rw [List.length_drop, List.length_drop]; omega) (by omega)
            have g2' : ∀ t ∈ l', ((at_ + blk false r + n : Nat) : Int) ≤ t.at_ ∧ t.at_ < at_ + r.length := fun t ht => by
              have := g2 t ht
              rw [List.length_drop, List.length_drop] at this
              omega
            refine ⟨by simp only [List.length_cons]; omega, fun t' ht' => ?_, List.pairwise_cons.2 ⟨fun t' ht' => ?_, g3⟩⟩
            · rcases List.mem_cons.1 ht' with rfl | ht'
              · simp only; omega
              · have := g2' t' ht'; omega
            · have := g2' t' ht'
              simp only; omega
theorem cutF_err : ∀ (f : Nat) (r : Str) (at_ k a : Nat) (e : Int), cutF f r at_ k = .error (a, e) → r.length < f → at_ ≤ a ∧ a < at_ + r.length ∧ (e = 3 ∨ e = 4)
  | 0, r, at_, k, a, e, h, hf => by omega
  | f + 1, r, at_, k, a, e, h, hf => by
    have hb := blk_le false r
    rw [cutF] at h
    by_cases h1 : r.drop (blk false r) = []
    · rw [if_pos h1] at h; cases h
    · rw [if_neg h1] at h
      have hlt : blk false r < r.length := Nat.lt_of_not_le fun hge => h1 (List.drop_eq_nil_of_le hge)
      by_cases h2 : k = 20000
      · rw [if_pos h2] at h
        simp only [Except.error.injEq, Prod.mk.injEq] at h
        omega
      · rw [if_neg h2] at h
        cases ht : tokD (r.drop (blk false r)) with
        | none =>
          rw [ht] at h
          simp only [Except.error.injEq, Prod.mk.injEq] at h
          omega
        | some p =>
          obtain ⟨t, n⟩ := p
          rw [ht] at h
          simp only at h
          have hn := tokD_le ht
          rw [List.length_drop] at hn
          cases hc : cutF f ((r.drop (blk false r)).drop n) (at_ + blk false r + n) (k + 1) with
          | ok l => rw [hc] at h; cases h
          | error e' =>
            rw [hc] at h
            simp only [Except.error.injEq] at h
            subst h
            have := cutF_err f _ _ _ _ _ hc (by rw [List.length_drop, List.length_drop]; omega)
            rw [List.length_drop, List.length_drop] at this
            omega
/-- what a text's scan can be -/
theorem scanD_cases (s : Str) : (65536 < s.length ∧ scanD s = ⟨[], 0, 13⟩) ∨
    (s.length ≤ 65536 ∧ ∃ l : List Tok, scanD s = ⟨l, 0, 0⟩ ∧ cutF (s.length + 1) s 0 0 = .ok l ∧ l.length ≤ 20000 ∧ (∀ t ∈ l, 0 ≤ t.at_ ∧ t.at_ < s.length) ∧ l.Pairwise (fun a b => a.at_ < b.at_)) ∨
    (s.length ≤ 65536 ∧ ∃ a e, scanD s = ⟨[], a, e⟩ ∧ a < s.length ∧ (e = 4 ∨ (e = 3 ∧ (scanD (s.take a)).e = 0))) := by
  by_cases hl : 65536 < s.length
  · exact .inl ⟨hl, by rw [scanD, if_pos hl]⟩
  · refine .inr ?_
    have hs : scanD s = .of (cutF (s.length + 1) s 0 0) := by rw [scanD, if_neg hl]
    cases hc : cutF (s.length + 1) s 0 0 with
    | ok l =>
      obtain ⟨h1, h2, h3⟩ := cutF_ok _ _ _ _ _ hc (by omega) (by omega)
      refine .inl ⟨by omega, l, by rw [hs, hc]; rfl, rfl, by omega, fun t ht => ?_, h3⟩
      have := h2 t ht
      omega
    | error x =>
      obtain ⟨a, e⟩ := x
      obtain ⟨h1, h2, h3⟩ := cutF_err _ _ _ _ _ _ hc (by omega)
      refine .inr ⟨by omega, a, e, by rw [hs, hc]; rfl, by omega, ?_⟩
      rcases h3 with rfl | rfl
      · refine .inr ⟨rfl, ?_⟩
        obtain ⟨_, _, h4⟩ := cutF_take _ _ _ _ _ hc (by omega)
        obtain ⟨l, hl2⟩ := h4 (a + 1) (by omega)
        rw [Nat.sub_zero] at hl2
        rw [scanD, if_neg (by rw [List.length_take]; omega), show (s.take a).length = a by rw [List.length_take]; omega, hl2]
        rfl
      · exact .inl rfl
end Go.Sep

/-
  Plain laws of scanning: numbers.
-/
set_option linter.unusedVariables false
set_option linter.unusedSimpArgs false
namespace Go.Sep

/-- the number that digits are -/
def valN : Str → Nat → Nat
  | [], a => a
  | c :: r, a => valN r (a * 10 + (c.toNat - 48))
theorem valN_ge : ∀ (s : Str) (a : Nat), a ≤ valN s a
  | [], a => Nat.le_refl _
  | c :: r, a => by
    have := valN_ge r (a * 10 + (c.toNat - 48))
    rw [valN]; omega
theorem dgt_le {c : UInt8} (h : dgt c = true) : 48 ≤ c.toNat ∧ c.toNat ≤ 57 := of_decide_eq_true h
theorem dv_dgt {c : UInt8} (h : dgt c = true) : dv c = some (c.toNat - 48) := dv_dig (dgt_le h).1 (dgt_le h).2
theorem pU_val : ∀ (s : Str) (a : Nat), s.all dgt = true → valN s a ≤ 18446744073709551615 → pU 10 18446744073709551615 s a = some (valN s a)
  | [], a, _, _ => rfl
  | c :: r, a, h, hv => by
    rw [List.all_cons, Bool.and_eq_true] at h
    have hc := dgt_le h.1
    rw [valN] at hv
    have := valN_ge r (a * 10 + (c.toNat - 48))
    rw [pU, dv_dgt h.1]
    simp only
    rw [if_pos ⟨by omega, by omega⟩, pU_val r _ h.2 hv, valN]
theorem numOf_val {s : Str} (h : s.all dgt = true) (hv : valN s 0 < 9223372036854775808) : numOf s = some (valN s 0) := by
  rw [numOf, pU_val s 0 h (by omega)]
  simp only
  rw [if_pos hv]
theorem dgt_lod {c : UInt8} (h : dgt c = true) : lod c = true := by unfold lod; rw [h]; simp
theorem dgt_nltr {c : UInt8} (h : dgt c = true) : ¬ ltr c = true := by rw [dgt_ltr, h]; simp
theorem all_dgt_lod {s : Str} (h : s.all dgt = true) : s.all lod = true := List.all_eq_true.2 fun x hx => dgt_lod (List.all_eq_true.1 h x hx)
theorem takeWhile_app {p : UInt8 → Bool} : ∀ (s r : Str), s.all p = true → (s ++ r).takeWhile p = s ++ r.takeWhile p
  | [], r, _ => rfl
  | c :: s, r, h => by
    rw [List.all_cons, Bool.and_eq_true] at h
    rw [List.cons_append, List.takeWhile_cons, if_pos h.1, takeWhile_app s r h.2]; rfl
theorem span_app {p : UInt8 → Bool} {s r : Str} (h : s.all p = true) : spanOf p (s ++ r) = s.length + spanOf p r := by
  unfold spanOf
  rw [takeWhile_app s r h, List.length_append]
theorem span_stop {p : UInt8 → Bool} {c : UInt8} {r : Str} (h : p c = false) : spanOf p (c :: r) = 0 := by
  unfold spanOf
  rw [List.takeWhile_cons, if_neg (by rw [h]; decide)]; rfl

/-- decimal digits of a number -/
structure Dec (s : Str) (n : Nat) : Prop where
  pos : s ≠ []
  dig : s.all dgt = true
  val : valN s 0 = n
  lead : s.head? ≠ some 48 ∨ s.length = 1
theorem tok_num {s : Str} {n : Nat} {c : UInt8} {r : Str} (h : Dec s n) (hn : n < 9223372036854775808) (hc : lod c = false) : tokD (s ++ c :: r) = some (⟨2, [], n, 0⟩, s.length) := by
  have hd : dgt c = false := by
    cases hd : dgt c with
    | false => rfl
    | true => rw [dgt_lod hd] at hc; cases hc
  have hs1 : spanOf lod (s ++ c :: r) = s.length := by rw [span_app (all_dgt_lod h.dig), span_stop hc]; omega
  have hs2 : spanOf dgt (s ++ c :: r) = s.length := by rw [span_app h.dig, span_stop hd]; omega
  have ht : (s ++ c :: r).take s.length = s := by simp
  have hnum : numOf s = some n := by rw [numOf_val h.dig (by rw [h.val]; exact hn), h.val]
  have hlead := h.lead
  obtain ⟨x, s', rfl⟩ : ∃ x s', s = x :: s' := by
    cases s with
    | nil => exact absurd rfl h.pos
    | cons x s' => exact ⟨x, s', rfl⟩
  have hdx : dgt x = true := List.all_eq_true.1 h.dig x (by simp)
  rw [List.cons_append] at hs1 hs2 ht ⊢
  rw [tokD, if_neg (dgt_nltr hdx), if_pos hdx, hs1, ht, hnum]
  simp only
  rw [if_neg]
  rintro (⟨h1, h2⟩ | h3)
  · rcases hlead with h4 | h4
    · exact h4 (by rw [List.head?_cons]; congr 1; exact UInt8.toNat_inj.1 h1)
    · omega
  · exact h3 hs2
theorem tok_bad {s : Str} {c : UInt8} {r : Str} (h0 : s ≠ []) (h : s.all dgt = true) (h1 : lod c = true) (h2 : dgt c = false) : tokD (s ++ c :: r) = none := by
  have hs1 : s.length < spanOf lod (s ++ c :: r) := by
    have := span_pos (p := lod) (r := r) h1
    rw [span_app (all_dgt_lod h)]; omega
  have hs2 : spanOf dgt (s ++ c :: r) = s.length := by rw [span_app h, span_stop h2]; omega
  obtain ⟨x, s', rfl⟩ : ∃ x s', s = x :: s' := by
    cases s with
    | nil => exact absurd rfl h0
    | cons x s' => exact ⟨x, s', rfl⟩
  have hdx : dgt x = true := List.all_eq_true.1 h x (by simp)
  rw [List.cons_append] at hs1 hs2 ⊢
  rw [tokD, if_neg (dgt_nltr hdx), if_pos hdx]
  split
  · rfl
  · rw [if_pos (.inr (by omega))]
theorem tok_nought {s : Str} (h0 : s ≠ []) (h : s.all dgt = true) : tokD (48 :: s) = none := by
  have hs1 : spanOf lod (48 :: s) = s.length + 1 := by
    have := span_app (p := lod) (s := 48 :: s) (r := []) (by rw [List.all_cons, all_dgt_lod h]; rfl)
    rw [List.append_nil] at this
    rw [this]; rfl
  have hl : 0 < s.length := List.length_pos_iff.2 h0
  rw [tokD, if_neg (by decide), if_pos (by decide)]
  split
  · rfl
  · rw [if_pos (.inl ⟨rfl, by omega⟩)]

theorem blk_dgt {c : UInt8} {r : Str} (h : dgt c = true) : blk false (c :: r) = 0 := by
  have := dgt_le h
  rw [blk, if_neg, if_neg]
  · rintro ⟨h1, _⟩; omega
  · unfold isSp
    simp only [Bool.or_eq_true, decide_eq_true_eq]
    omega
theorem dec_head {s : Str} {n : Nat} (h : Dec s n) : ∃ x s', s = x :: s' ∧ dgt x = true := by
  cases hs : s with
  | nil => exact absurd hs h.pos
  | cons x s' => exact ⟨x, s', rfl, List.all_eq_true.1 h.dig x (by simp [hs])⟩

theorem scan_num {s : Str} {n : Nat} (h : Dec s n) (hn : n < 9223372036854775808) (hl : s.length ≤ 1000) : scanD (s ++ [43]) = ⟨[⟨2, [], n, 0⟩, ⟨4, [43], 0, s.length⟩], 0, 0⟩ := by
  obtain ⟨x, s', hs, hx⟩ := dec_head h
  have hlen : (s ++ [43]).length = s.length + 1 := by simp
  rw [scanD, if_neg (by omega)]
  have h0 := CutAt.start (s ++ [43])
  have hb : blk false ((s ++ [43]).drop 0) = 0 := by rw [List.drop_zero, hs, List.cons_append, blk_dgt hx]
  have ht := tok_num (c := 43) (r := []) h hn (by decide)
  have h1 := h0.go (Nat.zero_le _) (by rw [hb]; omega) (by decide) (by rw [hb, Nat.add_zero, List.drop_zero]; exact ht)
  rw [hb] at h1
  simp only [Nat.zero_add] at h1
  have hd : (s ++ [43]).drop s.length = [43] := by simp
  have hb2 : blk false ((s ++ [43]).drop s.length) = 0 := by rw [hd]; decide
  have h2 := h1.go (t := ⟨4, [43], 0, 0⟩) (n := 1) (by omega) (by rw [hb2]; omega) (by simp) (by rw [hb2, Nat.add_zero, hd]; decide +kernel)
  rw [hb2] at h2
  have h3 := h2.end_ (by omega) (by rw [List.drop_eq_nil_of_le (by omega), blk]; omega)
  rw [h3]
  rfl
theorem scan_nought {s : Str} {n : Nat} (h : Dec s n) (hl : s.length ≤ 1000) : scanD (97 :: 32 :: 48 :: s) = ⟨[], 2, 3⟩ := by
  have hlen : (97 :: 32 :: 48 :: s).length = s.length + 3 := by simp
  rw [scanD, if_neg (by omega)]
  have h0 := CutAt.start (97 :: 32 :: 48 :: s)
  have hb : blk false ((97 :: 32 :: 48 :: s).drop 0) = 0 := by
    rw [List.drop_zero, blk, if_neg (by decide), if_neg (by rintro ⟨h1, _⟩; revert h1; decide)]
  have hsp : spanOf lod (97 :: 32 :: 48 :: s) = 1 := by
    have := span_app (p := lod) (s := [97]) (r := 32 :: 48 :: s) (by decide)
    rw [span_stop (by decide)] at this
    exact this
  have ht : tokD (97 :: 32 :: 48 :: s) = some (⟨1, [97], 0, 0⟩, 1) := by
    rw [tokD, if_pos (by decide), hsp, if_neg (by decide)]
    rfl
  have h1 := h0.go (Nat.zero_le _) (by rw [hb]; omega) (by decide) (by rw [hb, Nat.add_zero, List.drop_zero]; exact ht)
  rw [hb] at h1
  simp only [Nat.zero_add] at h1
  have hb2 : blk false ((97 :: 32 :: 48 :: s).drop 1) = 1 := by
    show blk false (32 :: 48 :: s) = 1
    rw [blk, if_pos (by decide), blk_dgt (by decide)]
  have h2 := h1.text (by omega) (by rw [hb2]; omega) (by simp) (by rw [hb2]; exact tok_nought h.pos h.dig)
  rw [h2, hb2]
  rfl
theorem scan_behind {s : Str} {n : Nat} (h : Dec s n) (hl : s.length ≤ 1000) : scanD (s ++ [120]) = ⟨[], 0, 3⟩ := by
  obtain ⟨x, s', hs, hx⟩ := dec_head h
  have hlen : (s ++ [120]).length = s.length + 1 := by simp
  rw [scanD, if_neg (by omega)]
  have h0 := CutAt.start (s ++ [120])
  have hb : blk false ((s ++ [120]).drop 0) = 0 := by rw [List.drop_zero, hs, List.cons_append, blk_dgt hx]
  have h2 := h0.text (Nat.zero_le _) (by rw [hb]; omega) (by decide) (by rw [hb]; exact tok_bad h.pos h.dig (by decide) (by decide))
  rw [h2, hb]
  rfl
theorem scan_most : scanD [57, 50, 50, 51, 51, 55, 50, 48, 51, 54, 56, 53, 52, 55, 55, 53, 56, 48, 56] = ⟨[], 0, 3⟩ := by decide +kernel

/-- digits on the way: k is still to come -/
structure DecAt (s : Str) (k n : Nat) : Prop where
  dig : s.all dgt = true
  val : k * 10 ^ s.length + valN s 0 = n
  lead : k = 0 → s ≠ [] → s.head? ≠ some 48 ∨ s.length = 1
theorem valN_app : ∀ (s : Str) (a : Nat), valN s a = a * 10 ^ s.length + valN s 0
  | [], a => by simp [valN]
  | c :: r, a => by
    rw [valN, valN, valN_app r (a * 10 + (c.toNat - 48)), valN_app r (0 * 10 + (c.toNat - 48)), List.length_cons, Nat.pow_succ]
    rw [Nat.zero_mul, Nat.zero_add, Nat.add_mul]
    have : a * 10 * 10 ^ r.length = a * (10 ^ r.length * 10) := by rw [Nat.mul_assoc, Nat.mul_comm 10]
    omega
theorem DecAt.start (n : Nat) : DecAt [] n n := ⟨rfl, by simp [valN], fun _ h => absurd rfl h⟩
theorem dig_lt (k : Nat) : (UInt8.ofNat (48 + k % 10)).toNat = 48 + k % 10 := by
  rw [UInt8.toNat_ofNat', Nat.mod_eq_of_lt (by omega)]
theorem DecAt.step {s : Str} {k n : Nat} (h : DecAt s k n) (hk : 0 < k ∨ s = []) : DecAt (UInt8.ofNat (48 + k % 10) :: s) (k / 10) n := by
  have hd := dig_lt k
  refine ⟨?_, ?_, ?_⟩
  · rw [List.all_cons, h.dig, Bool.and_true]
    unfold dgt
    rw [hd]
    exact decide_eq_true (by omega)
  · rw [valN, valN_app, hd, List.length_cons, Nat.pow_succ, ← h.val, Nat.zero_mul, Nat.zero_add]
    have h1 : 48 + k % 10 - 48 = k % 10 := by omega
    have h2 : k = k / 10 * 10 + k % 10 := by omega
    rw [h1]
    have h3 : k * 10 ^ s.length = k / 10 * (10 ^ s.length * 10) + k % 10 * 10 ^ s.length := by
      conv => lhs; rw [h2, Nat.add_mul]
      rw [Nat.mul_assoc, Nat.mul_comm 10]
    omega
  · intro h0 _
    rcases hk with hk | rfl
    · refine .inl fun e => ?_
      rw [List.head?_cons] at e
      have := congrArg UInt8.toNat (Option.some.inj e)
      rw [hd] at this
      have h48 : (48 : UInt8).toNat = 48 := rfl
      omega
    · exact .inr rfl
theorem DecAt.done {s : Str} {n : Nat} (h : DecAt s 0 n) (hs : s ≠ []) : Dec s n := ⟨hs, h.dig, by have := h.val; omega, h.lead rfl hs⟩
end Go.Sep

/-
  Plain laws of scanning: a text laid anew, its tokens apart.
-/
set_option linter.unusedVariables false
set_option linter.unusedSimpArgs false
namespace Go.Sep

theorem tokD_at0 {s : Str} {t : Tok} {n : Nat} (h : tokD s = some (t, n)) : t.at_ = 0 := by
  cases s with
  | nil => cases h
  | cons c r =>
    rw [tokD] at h
    by_cases h1 : ltr c = true
    · rw [if_pos h1] at h
      split at h
      · cases h
      · cases h; rfl
    · rw [if_neg h1] at h
      by_cases h2 : dgt c = true
      · rw [if_pos h2] at h
        split at h
        · cases h
        · split at h
          · cases h
          · cases h; rfl
      · rw [if_neg h2] at h
        by_cases h3 : c.toNat = 34
        · rw [if_pos h3] at h
          cases hl : lit r with
          | none => rw [hl] at h; cases h
          | some p =>
            obtain ⟨t', n'⟩ := p
            rw [hl] at h
            simp only at h
            split at h
            · cases h
            · cases h; rfl
        · rw [if_neg h3] at h
          cases hf : markL.find? (fun p => prefixB p (c :: r)) with
          | none => rw [hf] at h; cases h
          | some p => rw [hf] at h; cases h; rfl

/-- the tokens l stand in s from place a on, blanks between them -/
def Chain (s : Str) : Nat → List Tok → Prop
  | a, [] => a = s.length
  | a, t :: ts => t.at_ = (a : Int) ∧ blk false (s.drop a) = 0 ∧ ∃ n, tokD (s.drop a) = some (⟨t.kind, t.text, t.num, 0⟩, n) ∧ Chain s (a + n + blk false (s.drop (a + n))) ts

theorem blk_idem : ∀ (b : Bool) (r : Str), blk false (r.drop (blk b r)) = 0
  | _, [] => by simp [blk]
  | true, c :: r => by
    rw [blk]
    split
    · rw [Nat.add_comm, List.drop_succ_cons]; exact blk_idem false r
    · rw [Nat.add_comm, List.drop_succ_cons]; exact blk_idem true r
  | false, c :: r => by
    rw [blk]
    by_cases h1 : isSp c = true
    · rw [if_pos h1, Nat.add_comm, List.drop_succ_cons]; exact blk_idem false r
    · rw [if_neg h1]
      by_cases h2 : c.toNat = 47 ∧ r.head? = some 47
      · rw [if_pos h2, Nat.add_comm, List.drop_succ_cons]; exact blk_idem true r
      · rw [if_neg h2, List.drop_zero, blk, if_neg h1, if_neg h2]

theorem chain_of (s : Str) : ∀ (f a k : Nat) (l : List Tok), a ≤ s.length → cutF f (s.drop a) a k = .ok l → s.length < a + f → Chain s (a + blk false (s.drop a)) l
  | 0, a, k, l, ha, h, hf => by omega
  | f + 1, a, k, l, ha, h, hf => by
    have hb := blk_le false (s.drop a)
    rw [List.length_drop] at hb
    rw [cutF, List.drop_drop] at h
    by_cases h1 : s.drop (a + blk false (s.drop a)) = []
    · rw [if_pos h1] at h
      cases h
      have := congrArg List.length h1
      rw [List.length_drop] at this
      simp only [List.length_nil] at this
      show _ = s.length
      omega
    · rw [if_neg h1] at h
      by_cases h2 : k = 20000
      · rw [if_pos h2] at h; cases h
      · rw [if_neg h2] at h
        cases ht : tokD (s.drop (a + blk false (s.drop a))) with
        | none => rw [ht] at h; cases h
        | some p =>
          obtain ⟨t, n⟩ := p
          rw [ht] at h
          simp only [List.drop_drop] at h
          have hn := tokD_le ht
          rw [List.length_drop] at hn
          cases hc : cutF f (s.drop (a + blk false (s.drop a) + n)) (a + blk false (s.drop a) + n) (k + 1) with
          | error e => rw [hc] at h; cases h
          | ok l' =>
            rw [hc] at h
            cases h
            have ih := chain_of s f _ _ _ (by omega) hc (by omega)
            refine ⟨rfl, ?_, n, ?_, ih⟩
            · rw [← List.drop_drop]; exact blk_idem false _
            · rw [ht]
              have := tokD_at0 ht
              obtain ⟨t1, t2, t3, t4⟩ := t
              simp only at this
              subst this
              rfl

/-! blanks behind a token, closed by a line's end -/
theorem blk_close : ∀ (b : Bool) (r y : Str), blk b r = r.length → blk b (r ++ 10 :: y) = r.length + 1 + blk false y
  | true, [], y, _ => by
    rw [List.nil_append, blk, if_pos (by decide)]
    simp
  | false, [], y, _ => by
    rw [List.nil_append, blk, if_pos (by decide)]
    simp
  | true, c :: r, y, h => by
    rw [blk] at h
    rw [List.cons_append, blk]
    simp only [List.length_cons] at h ⊢
    split
    · rename_i hc
      rw [if_pos hc] at h
      rw [blk_close false r y (by omega)]; omega
    · rename_i hc
      rw [if_neg hc] at h
      rw [blk_close true r y (by omega)]; omega
  | false, c :: r, y, h => by
    rw [blk] at h
    rw [List.cons_append, blk]
    simp only [List.length_cons] at h ⊢
    by_cases h1 : isSp c = true
    · rw [if_pos h1] at h ⊢
      rw [blk_close false r y (by omega)]; omega
    · rw [if_neg h1] at h ⊢
      by_cases h2 : c.toNat = 47 ∧ r.head? = some 47
      · rw [if_pos h2] at h
        have hh : (r ++ 10 :: y).head? = some 47 := by
          cases r with
          | nil => simp at h2
          | cons x r => simpa using h2.2
        rw [if_pos ⟨h2.1, hh⟩, blk_close true r y (by omega)]; omega
      · rw [if_neg h2] at h; omega

theorem takeWhile_stop {p : UInt8 → Bool} {c : UInt8} (hc : p c = false) : ∀ (w y : Str), ((w ++ c :: y).takeWhile p).length = (w.takeWhile p).length
  | [], y => by rw [List.nil_append, List.takeWhile_cons, if_neg (by rw [hc]; decide)]; rfl
  | x :: w, y => by
    rw [List.cons_append, List.takeWhile_cons, List.takeWhile_cons]
    split
    · simp [takeWhile_stop hc w y]
    · rfl
theorem span_nl {p : UInt8 → Bool} (hp : p 10 = false) (w y : Str) : spanOf p (w ++ 10 :: y) = spanOf p w := takeWhile_stop hp w y

theorem escX_app {r : Str} {b : UInt8} {n : Nat} (y : Str) (h : escX r = some (b, n)) : escX (r ++ y) = some (b, n) := by
  match r, h with
  | x :: z :: r', h => exact h
theorem escB_app {r : Str} {b : UInt8} {n : Nat} (y : Str) (h : escB r = some (b, n)) : escB (r ++ y) = some (b, n) := by
  cases r with
  | nil => cases h
  | cons c r =>
    rw [List.cons_append]
    rw [escB] at h ⊢
    by_cases h1 : c.toNat = 110
    · rw [if_pos h1] at h ⊢; exact h
    · rw [if_neg h1] at h ⊢
      by_cases h2 : c.toNat = 116
      · rw [if_pos h2] at h ⊢; exact h
      · rw [if_neg h2] at h ⊢
        by_cases h3 : c.toNat = 34 ∨ c.toNat = 92
        · rw [if_pos h3] at h ⊢; exact h
        · rw [if_neg h3] at h ⊢
          by_cases h4 : c.toNat = 120
          · rw [if_pos h4] at h ⊢; exact escX_app y h
          · rw [if_neg h4] at h; cases h
theorem lit_app (y : Str) : ∀ (N : Nat) (r t : Str) (n : Nat), r.length < N → lit r = some (t, n) → lit (r ++ y) = some (t, n)
  | 0, _, _, _, h, _ => by omega
  | N + 1, [], _, _, _, h => by cases h
  | N + 1, c :: r, t, n, hN, h => by
    simp only [List.length_cons] at hN
    rw [List.cons_append]
    by_cases h1 : c.toNat = 34
    · rw [lit_quote h1] at h ⊢; exact h
    by_cases h2 : c.toNat = 10
    · rw [lit_nl h2] at h; cases h
    by_cases h3 : c.toNat = 92
    · cases he : escB r with
      | none => rw [lit_esc_none h3 he] at h; cases h
      | some p =>
        obtain ⟨b, k⟩ := p
        rw [lit_esc_some h3 he] at h
        cases hl : lit (r.drop k) with
        | none => rw [hl] at h; cases h
        | some q =>
          obtain ⟨t', n'⟩ := q
          rw [hl] at h
          have hk := escB_pos he
          rw [lit_esc_some h3 (escB_app y he), List.drop_append_of_le_length (by omega), lit_app y N (r.drop k) t' n' (by rw [List.length_drop]; omega) hl]
          exact h
    · cases hl : lit r with
      | none => rw [lit_one h1 h2 h3, hl] at h; cases h
      | some q =>
        obtain ⟨t', n'⟩ := q
        rw [lit_one h1 h2 h3, hl] at h
        rw [lit_one h1 h2 h3, lit_app y N r t' n' (by omega) hl]
        exact h

theorem mark_no10 : ∀ p ∈ markL, (10 : UInt8) ∉ p := by decide
theorem find_app {w p y : Str} : ∀ l : List Str, (∀ q ∈ l, (10 : UInt8) ∉ q) → l.find? (fun q => prefixB q w) = some p → l.find? (fun q => prefixB q (w ++ 10 :: y)) = some p
  | [], _, h => by cases h
  | q :: l, hl, h => by
    by_cases hq : prefixB q w = true
    · rw [List.find?_cons_of_pos (p := fun q => prefixB q w) hq] at h
      cases h
      refine List.find?_cons_of_pos (p := fun q => prefixB q (w ++ 10 :: y)) (prefixB_iff.2 ?_)
      obtain ⟨h1, h2⟩ := prefixB_iff.1 hq
      exact ⟨by rw [List.length_append]; omega, by rw [List.take_append_of_le_length h1]; exact h2⟩
    · rw [List.find?_cons_of_neg (p := fun q => prefixB q w) hq] at h
      rw [List.find?_cons_of_neg (p := fun q => prefixB q (w ++ 10 :: y))]
      · exact find_app l (fun q h => hl q (by simp [h])) h
      · intro h3
        obtain ⟨h1, h2⟩ := prefixB_iff.1 h3
        by_cases hle : q.length ≤ w.length
        · rw [List.take_append_of_le_length hle] at h2
          exact hq (prefixB_iff.2 ⟨hle, h2⟩)
        · refine hl q (by simp) ?_
          rw [← h2]
          refine List.mem_of_getElem? (i := w.length) ?_
          rw [List.getElem?_take_of_lt (by omega), List.getElem?_append_right (Nat.le_refl _), Nat.sub_self]
          rfl
/-- a token ahead of a line's end -/
theorem tokD_app {w y : Str} {t : Tok} {n : Nat} (h : tokD w = some (t, n)) : tokD (w ++ 10 :: y) = some (t, n) := by
  have hle := tokD_le h
  cases w with
  | nil => cases h
  | cons c r =>
    have hsl : spanOf lod (c :: (r ++ 10 :: y)) = spanOf lod (c :: r) := span_nl (by decide) (c :: r) y
    have hsd : spanOf dgt (c :: (r ++ 10 :: y)) = spanOf dgt (c :: r) := span_nl (by decide) (c :: r) y
    have htk : (c :: (r ++ 10 :: y)).take (spanOf lod (c :: r)) = (c :: r).take (spanOf lod (c :: r)) := by
      rw [← List.cons_append, List.take_append_of_le_length (span_le lod _)]
    rw [List.cons_append]
    by_cases h1 : ltr c = true
    · rw [tokD, if_pos h1] at h ⊢
      rw [hsl, htk]; exact h
    · by_cases h2 : dgt c = true
      · rw [tokD, if_neg h1, if_pos h2] at h ⊢
        rw [hsl, hsd, htk]; exact h
      · by_cases h3 : c.toNat = 34
        · rw [tokD, if_neg h1, if_neg h2, if_pos h3] at h ⊢
          cases hl : lit r with
          | none => rw [hl] at h; cases h
          | some q =>
            obtain ⟨t', n'⟩ := q
            rw [hl] at h
            rw [lit_app (10 :: y) (r.length + 1) r t' n' (by omega) hl]
            exact h
        · rw [tokD, if_neg h1, if_neg h2, if_neg h3] at h ⊢
          cases hf : markL.find? (fun p => prefixB p (c :: r)) with
          | none => rw [hf] at h; cases h
          | some p =>
            rw [hf] at h
            have := find_app (w := c :: r) (p := p) (y := y) markL mark_no10 hf
            rw [List.cons_append] at this
            rw [this]
            exact h
theorem blk_app {w y : Str} (h : blk false w = 0) (hw : w ≠ []) : blk false (w ++ 10 :: y) = 0 := by
  cases w with
  | nil => exact absurd rfl hw
  | cons c r =>
    rw [blk] at h
    rw [List.cons_append, blk]
    by_cases h1 : isSp c = true
    · rw [if_pos h1] at h; omega
    · rw [if_neg h1] at h ⊢
      by_cases h2 : c.toNat = 47 ∧ r.head? = some 47
      · rw [if_pos h2] at h; omega
      · rw [if_neg]
        rintro ⟨h3, h4⟩
        cases r with
        | nil => simp at h4
        | cons x r => exact h2 ⟨h3, by simpa using h4⟩

/-! the text laid anew -/
def piece (s : Str) (a e : Nat) : Str := (s.take e).drop a
def restU (s g : Str) : Nat → List Tok → Str
  | _, [] => []
  | a, t :: ts => match tokD (s.drop a) with
    | none => []
    | some (_, n) => piece s a (a + n + blk false (s.drop (a + n))) ++ (10 :: (g ++ restU s g (a + n + blk false (s.drop (a + n))) ts))
def toksU (s g : Str) : Nat → Nat → List Tok → List Tok
  | _, _, [] => []
  | x, a, t :: ts => match tokD (s.drop a) with
    | none => []
    | some (_, n) => ⟨t.kind, t.text, t.num, (x : Int)⟩ :: toksU s g (x + (n + blk false (s.drop (a + n))) + 1 + g.length) (a + n + blk false (s.drop (a + n))) ts

theorem chain_end {s : Str} {a n : Nat} (h : a + n ≤ s.length) : a + n + blk false (s.drop (a + n)) ≤ s.length := by
  have := blk_le false (s.drop (a + n))
  rw [List.length_drop] at this
  omega
theorem piece_len {s : Str} {a e : Nat} (h : e ≤ s.length) : (piece s a e).length = e - a := by
  unfold piece
  rw [List.length_drop, List.length_take]; omega
theorem piece_eq {s : Str} {a j : Nat} : piece s a (a + j) = (s.drop a).take j := by
  unfold piece
  rw [List.drop_take, Nat.add_sub_cancel_left]
/-- what is known of a token's own text -/
structure Own1 (w : Str) (t : Tok) (n : Nat) : Prop where
  tok : tokD w = some (t, n)
  blk : blk false w = 0
  tail : Sep.blk false (w.drop n) = w.length - n
theorem own1 {s : Str} {a n : Nat} {t : Tok} (h : tokD (s.drop a) = some (t, n)) (hb : blk false (s.drop a) = 0) : Own1 (piece s a (a + n + blk false (s.drop (a + n)))) t n := by
  have hle := tokD_le h
  rw [List.length_drop] at hle
  have he := chain_end (s := s) (a := a) (n := n) (by omega)
  have hl := piece_len (a := a) he
  have hp : piece s a (a + n + blk false (s.drop (a + n))) = (s.drop a).take (n + blk false (s.drop (a + n))) := by rw [Nat.add_assoc]; exact piece_eq
  refine ⟨?_, ?_, ?_⟩
  · rw [hp]; exact tokD_take h (by omega)
  · rw [hp, blk_take false _ _ (by omega)]; exact hb
  · rw [hl, hp, List.drop_take, List.drop_drop, Nat.add_sub_cancel_left, blk_take false _ _ (Nat.le_refl _)]; omega

/-- a token's own text is that token -/
theorem scan_one {w : Str} {t : Tok} {n : Nat} (h : Own1 w t n) (hl : w.length ≤ 65536) : scanD w = ⟨[⟨t.kind, t.text, t.num, 0⟩], 0, 0⟩ := by
  have hle := tokD_le h.tok
  rw [scanD, if_neg (by omega)]
  have h0 := CutAt.start w
  have hb : blk false (w.drop 0) = 0 := h.blk
  have h1 := h0.go (Nat.zero_le _) (by rw [hb]; omega) (by decide) (by rw [hb, Nat.add_zero, List.drop_zero]; exact h.tok)
  rw [hb] at h1
  simp only [Nat.zero_add] at h1
  have h2 := h1.end_ hle.2 (by rw [h.tail]; omega)
  rw [h2]; rfl

def gapB (g : Str) : Prop := ∀ y : Str, blk false (g ++ y) = g.length + blk false y
theorem rest_blk {s g : Str} : ∀ {a : Nat} {ts : List Tok}, Chain s a ts → blk false (restU s g a ts) = 0
  | _, [], _ => rfl
  | a, t :: ts, ⟨_, hb, n, ht, hc⟩ => by
    rw [restU, ht]
    have ho := own1 ht hb
    refine blk_app ho.blk fun e => ?_
    have := ho.tok
    rw [e] at this
    cases this

/-- the place y of U, behind blanks, has the rest; x ahead of them -/
def AtU (U : Str) (y : Nat) (acc : List Tok) (res : Except (Nat × Int) (List Tok)) : Prop := ∃ x, x ≤ U.length ∧ y = x + blk false (U.drop x) ∧ y ≤ U.length ∧ CutAt U x acc res
theorem scan_rest {s g U : Str} (hg : gapB g) : ∀ (ts : List Tok) (a y : Nat) (acc : List Tok) (res : Except (Nat × Int) (List Tok)), Chain s a ts → U.drop y = restU s g a ts → AtU U y acc res → acc.length + ts.length ≤ 20000 → res = .ok (acc ++ toksU s g y a ts)
  | [], a, y, acc, res, hc, hU, ⟨x, hx, hxy, hy, hr⟩, hl => by
    have hlen := congrArg List.length hU
    rw [List.length_drop] at hlen
    simp only [restU, List.length_nil] at hlen
    rw [hr.end_ hx (by omega)]
    simp [toksU]
  | t :: ts, a, y, acc, res, ⟨hta, hb, n, ht, hc⟩, hU, ⟨x, hx, hxy, hy, hr⟩, hl => by
    simp only [List.length_cons] at hl
    have ho := own1 ht hb
    have hle := tokD_le ht
    rw [List.length_drop] at hle
    have he := chain_end (s := s) (a := a) (n := n) (by omega)
    have hpl := piece_len (a := a) he
    rw [restU, ht] at hU
    simp only at hU
    rw [toksU, ht]
    simp only
    obtain ⟨p, hp⟩ : ∃ p, p = piece s a (a + n + blk false (s.drop (a + n))) := ⟨_, rfl⟩
    rw [← hp] at hU ho hpl
    have hUl := congrArg List.length hU
    rw [List.length_drop, List.length_append, List.length_cons, List.length_append] at hUl
    have hgo := hr.go hx (by omega) (by omega) (t := ⟨t.kind, t.text, t.num, 0⟩) (n := n) (by rw [← hxy, hU]; exact tokD_app ho.tok)
    rw [← hxy] at hgo
    have hd1 : U.drop (y + n) = p.drop n ++ 10 :: (g ++ restU s g (a + n + blk false (s.drop (a + n))) ts) := by
      rw [← List.drop_drop, hU, List.drop_append_of_le_length (by omega)]
    have hb1 : blk false (U.drop (y + n)) = p.length - n + 1 + g.length := by
      rw [hd1, blk_close false _ _ (by rw [ho.tail, List.length_drop]), hg, rest_blk hc, List.length_drop]; omega
    have hd2 : U.drop (y + p.length + 1 + g.length) = restU s g (a + n + blk false (s.drop (a + n))) ts := by
      have e1 : y + p.length + 1 + g.length = y + (p.length + (1 + g.length)) := by omega
      rw [e1, ← List.drop_drop, hU, ← List.drop_drop, List.drop_left, Nat.add_comm 1, List.drop_succ_cons, List.drop_left]
    have ih := scan_rest hg ts (a + n + blk false (s.drop (a + n))) (y + p.length + 1 + g.length) _ res hc hd2 ⟨y + n, by omega, by rw [hb1]; omega, by omega, hgo⟩ (by rw [List.length_append]; simp only [List.length_cons, List.length_nil]; omega)
    rw [ih, List.append_assoc]
    have : p.length = n + blk false (s.drop (a + n)) := by omega
    rw [this]
    rfl
/-- the text laid anew, scanned -/
theorem scan_U {s g : Str} (hg : gapB g) {a : Nat} {l : List Tok} (hc : Chain s a l) (hl : l.length ≤ 20000) (hU : (g ++ restU s g a l).length ≤ 65536) : scanD (g ++ restU s g a l) = ⟨toksU s g g.length a l, 0, 0⟩ := by
  rw [scanD, if_neg (by omega)]
  have h0 := CutAt.start (g ++ restU s g a l)
  have hb : blk false ((g ++ restU s g a l).drop 0) = g.length := by rw [List.drop_zero, hg, rest_blk hc]; omega
  rw [scan_rest hg l a g.length [] _ hc (by rw [List.drop_left]) ⟨0, Nat.zero_le _, by rw [hb]; omega, by rw [List.length_append]; omega, h0⟩ (by simpa using hl)]
  rfl

theorem toksU_len {s g : Str} : ∀ (l : List Tok) (x a : Nat), Chain s a l → (toksU s g x a l).length = l.length
  | [], _, _, _ => rfl
  | t :: ts, x, a, ⟨_, hb, n, ht, hc⟩ => by
    rw [toksU, ht]
    simp only [List.length_cons]
    rw [toksU_len ts _ _ hc]
theorem toksU_get {s g : Str} : ∀ (l : List Tok) (x a i : Nat) (t : Tok), Chain s a l → l[i]? = some t → ∃ u, (toksU s g x a l)[i]? = some u ∧ u.kind = t.kind ∧ u.text = t.text ∧ u.num = t.num
  | [], _, _, i, t, _, h => by simp at h
  | t0 :: ts, x, a, 0, t, ⟨_, hb, n, ht, hc⟩, h => by
    simp only [List.getElem?_cons_zero, Option.some.injEq] at h
    subst h
    rw [toksU, ht]
    exact ⟨_, rfl, rfl, rfl, rfl⟩
  | t0 :: ts, x, a, i + 1, t, ⟨_, hb, n, ht, hc⟩, h => by
    simp only [List.getElem?_cons_succ] at h
    rw [toksU, ht]
    simp only [List.getElem?_cons_succ]
    exact toksU_get ts _ _ i t hc h
theorem restU_len {s g : Str} : ∀ (l : List Tok) (a : Nat), Chain s a l → a + (restU s g a l).length ≤ s.length + l.length * (1 + g.length)
  | [], a, h => by
    have : a = s.length := h
    simp [restU, this]
  | t :: ts, a, ⟨_, hb, n, ht, hc⟩ => by
    have hle := tokD_le ht
    rw [List.length_drop] at hle
    have he := chain_end (s := s) (a := a) (n := n) (by omega)
    have hpl := piece_len (a := a) he
    have ih := restU_len ts _ hc (g := g)
    rw [restU, ht]
    simp only [List.length_append, List.length_cons]
    rw [hpl, Nat.add_mul, Nat.one_mul]
    omega
theorem gap_all : gapB [32] ∧ gapB [10] ∧ gapB [32, 47, 47, 32, 114, 10] ∧ gapB [9, 13, 32] := by
  refine ⟨fun y => ?_, fun y => ?_, fun y => ?_, fun y => ?_⟩
  · show blk false (32 :: y) = _
    rw [blk, if_pos (by decide)]; rfl
  · show blk false (10 :: y) = _
    rw [blk, if_pos (by decide)]; rfl
  · show blk false (32 :: 47 :: 47 :: 32 :: 114 :: 10 :: y) = 6 + _
    rw [blk, if_pos (by decide), blk, if_neg (by decide), if_pos ⟨by decide, rfl⟩, blk, if_neg (by decide), blk, if_neg (by decide), blk, if_neg (by decide), blk, if_pos (by decide)]
    omega
  · show blk false (9 :: 13 :: 32 :: y) = 3 + _
    rw [blk, if_pos (by decide), blk, if_pos (by decide), blk, if_pos (by decide)]
    omega
def gapL : List Str := [[32], [10], [32, 47, 47, 32, 114, 10], [9, 13, 32]]
theorem gapL_ok : ∀ g ∈ gapL, gapB g ∧ g.length ≤ 6 := by
  intro g hg
  obtain ⟨h1, h2, h3, h4⟩ := gap_all
  unfold gapL at hg
  simp only [List.mem_cons, List.mem_nil_iff, or_false] at hg
  rcases hg with rfl | rfl | rfl | rfl
  · exact ⟨h1, by decide⟩
  · exact ⟨h2, by decide⟩
  · exact ⟨h3, by decide⟩
  · exact ⟨h4, by decide⟩
end Go.Sep

/-
  Within a region whose order is drawn: operations that only compute, taken first.
-/
set_option linter.unusedVariables false
set_option linter.unusedSimpArgs false
namespace Go.Sep
section
variable {P : Program} {N : Nat} {ρ : Env} {D : List Deferred} {m : Mem} {L Ls Lp : List Item} {Q : EPost} {ops : List Oper} {ts : List Nat} {fuel : Nat} {listed : List Bool}
/-- s[k] of a string, taken first -/
theorem DO.sidx (T : Tab P) (i : Nat) {t : TypeId} {x y : Operand} {o : Oper} {s : Str} {iv : Int} {kd : IntKind} {b : UInt8} {d : Nat} (k : Nat) (hc : Calm Q) (hns : Region.noSelect ⟨ops⟩ = true) (hok : orderOkP ops ts [i] listed = true)
    (hi : ops[i]? = some o) (hg : gv ops ρ o = some true) (ho : o.op = .index t x y) (hd : o.dst = some d) (hN : Nat.blt d N = true)
    (ht : T.isStr t = true) (hx : ev ρ x = some (strV s)) (hy : ev ρ y = some (.int kd iv)) (hik : iv = (k : Int)) (hb : s[k]? = some b)
    (h : DO P N ops ts fuel (listed.set i true) ((d, byteV b) :: ρ) D m Ls Lp Q) : DO P N ops ts (fuel + 1) listed ρ D m Ls Lp Q := by
  simp only [orderOkP, Bool.and_eq_true] at hok
  obtain ⟨o1, o2, o3, _⟩ := hok
  obtain ⟨ti, h1, h2⟩ := isStr_get ht
  subst hik
  refine DO.takeP i hc hi hd hN hg hns o1 o2 (by simpa using o3) (fun ac w hA => ?_) h
  have hu := T.run_underlying w h1
  rw [h2] at hu
  have hg := getElem_data s k hb
  simp only [execOp, ho, hA.eval hx, hA.eval hy, Instr.index, asIntOf, Sem.run_bind, Sem.run_pure, Result.andThen_ok, hu, Int.toNat_natCast, Int.natCast_nonneg, if_true, hg]
/-- an integer seen as1 another kind, taken first -/
theorem DO.conv (T : Tab P) (i : Nat) {s t : TypeId} {x : Operand} {o : Oper} {k ks kt : IntKind} {d : Nat} {a r : Int} (hc : Calm Q) (hns : Region.noSelect ⟨ops⟩ = true) (hok : orderOkP ops ts [i] listed = true)
    (hi : ops[i]? = some o) (hg : gv ops ρ o = some true) (ho : o.op = .convert s t x) (hd : o.dst = some d) (hN : Nat.blt d N = true)
    (hs : T.intK s = some ks) (ht : T.intK t = some kt) (hx : ev ρ x = some (.int k a)) (hr : kt.wrap a = r)
    (h : DO P N ops ts fuel (listed.set i true) ((d, .int kt r) :: ρ) D m Ls Lp Q) : DO P N ops ts (fuel + 1) listed ρ D m Ls Lp Q := by
  simp only [orderOkP, Bool.and_eq_true] at hok
  obtain ⟨o1, o2, o3, _⟩ := hok
  obtain ⟨si, s1, s2⟩ := intK_get hs
  obtain ⟨ti, t1, t2⟩ := intK_get ht
  refine DO.takeP i hc hi hd hN hg hns o1 o2 (by simpa using o3) (fun ac w hA => ?_) h
  have hus := T.run_underlying w s1
  have hut := T.run_underlying w t1
  rw [s2] at hus
  rw [t2] at hut
  simp only [execOp, ho, hA.eval hx, Go.convert, Sem.run_bind, hus, hut, Result.andThen_ok, Conv.intToInt, Sem.run_pure, hr]
end
section
variable {P : Program} {N : Nat} {ρ : Env} {D : List Deferred} {m : Mem} {L : List Item} {Q : EPost} {o : Oper} {K : Env → Mem → List Item → Prop}
/-- xs[k] of a slice, k an integer of any kind -/
theorem OT.indexK {H α : Type} (T : Tab P) (r : R H α) {s : Sl} {l : List α} (k : Nat) {kd : IntKind} {x y : Operand} {t : TypeId} {d : Nat} {a : α} (hs : SlRep r m s l)
    (ho : o.op = .indexAddr t x y) (hd : o.dst = some d) (hN : Nat.blt d N = true) (hx : ev ρ x = some s.v) {iv : Int} (hy : ev ρ y = some (.int kd iv)) (hik : iv = (k : Int)) (hsz : T.esize t = some r.size) (hk : l[k]? = some a)
    (hK : ∀ b i hd', r.rep m hd' a → At m b i (r.enc hd') → K ((d, .pointer (some ⟨b, i, none⟩)) :: ρ) m L) : OT P N o ρ D m L Q K := by
  subst hik
  obtain ⟨b, i, hd', h1, h2, h3⟩ := hs.elem hk
  have hlt : k < s.len := by rw [hs.len]; exact (List.getElem?_eq_some_iff.1 hk).1
  refine OT.run hd hN (fun ac w ha => ⟨w, ?_, ha.st⟩) (hK b (i + k * r.size) hd' h2 h3)
  have hx' := ha.env.eval hx
  simp only [Sl.v, h1] at hx'
  have := run_indexAddr (P := P) T (n := 0) (len := s.len) (cap := s.cap) (ad := ⟨b, i, none⟩) (k := kd) (w := w) hsz (Int.natCast_nonneg k) (by omega : (k : Int) < s.len)
  rw [addr_add, Int.toNat_natCast] at this
  simp only [execOp, ho, hx', ha.env.eval hy, Sem.run_bind, this, Result.andThen_ok, Sem.run_pure]
end
end Go.Sep

/-
  ScanSpaced.
-/
set_option linter.unusedVariables false
set_option linter.unusedSimpArgs false
namespace Go.Sep
open Go.Proofs
attribute [local irreducible] TC TO OT TCallX TCall DO DOt thenQ blockQ retQ At
attribute [local irreducible] scanD

structure SpcS where
  m : Mem
  t : Str
  sl : Sl
  ats : List Int
  i : Nat
  a : Nat

/-- where the work stands: ahead of token i, which begins at place a -/
structure SpcI (s g : Str) (a0 : Nat) (l : List Tok) (t : Str) (ats : List Int) (i a : Nat) : Prop where
  le : i ≤ l.length
  chain : Chain s a (l.drop i)
  text : g ++ restU s g a0 l = t ++ restU s g a (l.drop i)
  toks : (toksU s g g.length a0 l).drop i = toksU s g t.length a (l.drop i)
  ats : ats = ((toksU s g g.length a0 l).take i).map Tok.at_

theorem SpcI.start {s g : Str} {a0 : Nat} {l : List Tok} (h : Chain s a0 l) : SpcI s g a0 l g [] 0 a0 := ⟨Nat.zero_le _, h, rfl, rfl, rfl⟩
theorem SpcI.here {s g : Str} {a0 : Nat} {l : List Tok} {t : Str} {ats : List Int} {i a : Nat} (h : SpcI s g a0 l t ats i a) (hi : i < l.length) :
    l[i].at_ = (a : Int) ∧ ∃ n, tokD (s.drop a) = some (⟨l[i].kind, l[i].text, l[i].num, 0⟩, n) ∧ blk false (s.drop a) = 0 ∧ a + n + blk false (s.drop (a + n)) ≤ s.length ∧ a < a + n + blk false (s.drop (a + n)) ∧
      (∀ h2 : i + 1 < l.length, l[i + 1].at_ = ((a + n + blk false (s.drop (a + n)) : Nat) : Int)) ∧ (¬ i + 1 < l.length → a + n + blk false (s.drop (a + n)) = s.length) ∧
      SpcI s g a0 l (t ++ (piece s a (a + n + blk false (s.drop (a + n))) ++ (10 :: g))) (ats ++ [(t.length : Int)]) (i + 1) (a + n + blk false (s.drop (a + n))) := by
  have hd := List.drop_eq_getElem_cons hi
  have hch := h.chain
  rw [hd] at hch
  obtain ⟨h1, h2, n, h3, h4⟩ := hch
  have hle := tokD_le h3
  rw [List.length_drop] at hle
  have he := chain_end (s := s) (a := a) (n := n) (by omega)
  have hpl := piece_len (a := a) he
  refine ⟨h1, n, h3, h2, he, by omega, fun g2 => ?_, fun g2 => ?_, by omega, h4, ?_, ?_, ?_⟩
  · rw [List.drop_eq_getElem_cons g2] at h4
    exact h4.1
  · rw [show l.drop (i + 1) = [] from List.drop_eq_nil_of_le (by omega)] at h4
    exact h4
  · rw [h.text, hd, restU, h3]
    simp
  · have := congrArg (List.drop 1) h.toks
    rw [List.drop_drop, Nat.add_comm] at this
    rw [Nat.add_comm 1 i] at this
    rw [this, hd, toksU, h3]
    simp only [List.drop_succ_cons, List.drop_zero]
    congr 1
    rw [List.length_append, List.length_append, hpl, List.length_cons]
    omega
  · have h5 : i < (toksU s g g.length a0 l).length := by
      have := congrArg List.length h.toks
      rw [List.length_drop, hd, toksU, h3] at this
      simp only [List.length_cons] at this
      omega
    rw [List.take_succ_eq_append_getElem h5, List.map_append, ← h.ats]
    congr 1
    have h6 := h.toks
    rw [List.drop_eq_getElem_cons h5, hd, toksU, h3] at h6
    simp only [List.cons.injEq] at h6
    rw [h6.1]
    rfl

set_option maxHeartbeats 4000000 in
theorem scanSpaced_walk (m : Mem) (L : List Item) (s : Str) (c : UInt8) (hE : Errs m) : TCall Tryd.prog 6 ⟨[strV s, byteV c]⟩ m L (Made m L fun r _ => r = .bool true) := by
  have hc256 : c.toNat < 256 := c.toNat_lt
  unfold TCall
  refine TCallX.enter Tryd.func6 rfl 211 rfl ?_
  repeat (first|refine q1 ?_|refine q3 ?_|refine q4 tab rfl rfl ?_|refine q5 ?_|refine q6 ?_)
  refine TO.step rfl (OT.call rfl rfl rfl rfl rfl rfl goes9 ((scan_law _ _ s hE).x ?_));
  rintro _ m1 _ ⟨hm1, rfl, sl, rfl, hsl⟩
  rcases scanD_cases s with ⟨h1, h2⟩ | ⟨h1, l, h2, hcut, h3, h4, h5⟩ | ⟨h1, a, e, h2, h3, h4⟩
  · rw [h2] at hsl
    rw [h2]
    repeat (first|refine q1 ?_|refine q3 ?_|refine q4 tab rfl rfl ?_|refine q5 ?_|refine q6 ?_)
    refine TO.step rfl (OT.call rfl rfl rfl rfl rfl rfl goes11 ((awake_law _ _ (hE.mono hm1)).x ?_));
    rintro _ m2 _ ⟨hm2, rfl, rfl⟩
    have hm12 := Mem.le_trans hm1 hm2
    repeat (first|refine q1 ?_|refine q3 ?_|refine q4 tab rfl rfl ?_|refine q5 ?_|refine q6 ?_|refine q16 rfl ?_)
    refine TO.step rfl (OT.call rfl rfl rfl rfl rfl rfl goes11 ((awake_law _ _ (hE.mono hm12)).x ?_));
    rintro _ m3 _ ⟨hm3, rfl, rfl⟩
    repeat (first|refine q4 tab rfl rfl ?_|refine q5 ?_|refine q6 ?_|refine q8 ?_|refine q15 ?_)
    refine retQ_ret rfl (by repeat (exact List.Sublist.refl _)) ⟨Mem.le_trans hm12 hm3, rfl, rfl⟩
  · rw [h2] at hsl
    rw [h2]
    replace hsl : SlRep rTok m1 sl l := hsl
    have hlen : sl.len = l.length := hsl.len
    repeat (first|refine q1 ?_|refine q3 ?_|refine q4 tab rfl rfl ?_|refine q5 ?_|refine q6 ?_)
    refine TO.step rfl (OT.call rfl rfl rfl rfl rfl rfl goes11 ((awake_law _ _ (hE.mono hm1)).x ?_));
    rintro _ m2 _ ⟨hm2, rfl, rfl⟩
    have hm12 := Mem.le_trans hm1 hm2
    have hsl2 := hsl.mono hm2
    repeat (first|refine q4 tab rfl rfl ?_|refine q5 ?_|refine q6 ?_)
    refine TC.condP rfl (fun c0 => ?_) (fun c0 => ?_)
    · skip
      repeat (first|refine q1 ?_|refine q3 ?_)
      refine TO.step rfl (OT.call rfl rfl rfl rfl rfl rfl goes11 ((awake_law _ _ (hE.mono hm12)).x ?_));
      rintro _ m3 _ ⟨hm3, rfl, rfl⟩
      repeat (first|refine q4 tab rfl rfl ?_|refine q5 ?_|refine q6 ?_|refine q8 ?_|refine q15 ?_)
      refine retQ_ret rfl (by repeat (exact List.Sublist.refl _)) ⟨Mem.le_trans hm12 hm3, rfl, rfl⟩
    have hs10 : s.length ≤ 10000 := by omega
    obtain ⟨a0, ha0⟩ : ∃ a0, a0 = 0 + blk false (s.drop 0) := ⟨_, rfl⟩
    have hch : Chain s a0 l := by rw [ha0]; exact chain_of s (s.length + 1) 0 0 l (Nat.zero_le _) (by rw [List.drop_zero]; exact hcut) (by omega)
    repeat (first|refine q1 ?_|refine q3 ?_|refine q6 ?_|refine q13 ?_)
    refine TO.step rfl (OT.lit tab rfl rfl rfl rfl (fun bg => ?_))
    refine TO.freeze fun m3 hm3 hAg => ?_
    have hgr : SlRep rStr m3 ⟨some ⟨bg, 0, none⟩, 4, 4⟩ gapL := ⟨rfl, Nat.le_refl _, (by show 4 * 16 ≤ _; decide), gapL, all_refl2 gapL, .inr ⟨bg, 0, rfl, hAg⟩⟩
    have hsl3 := hsl2.mono hm3
    replace hm3 := Mem.le_trans hm12 hm3
    have hgl : c.toNat % 4 < gapL.length := by show _ < 4; omega
    have hgx : gapL[c.toNat % 4]? = some gapL[c.toNat % 4] := by simp [hgl]
    obtain ⟨hgap, hg6⟩ := gapL_ok gapL[c.toNat % 4] (List.getElem_mem hgl)
    repeat (refine q4 tab rfl rfl ?_)
    refine TO.step rfl (OT.remK rfl rfl rfl rfl rfl (by decide) (r := ((c.toNat % 4 : Nat) : Int)) rfl ?_)
    refine TO.step rfl (OT.indexK tab rStr (c.toNat % 4) hgr rfl rfl rfl rfl rfl rfl rfl hgx ?_)
    rintro b i hd rfl hA
    (refine TO.step rfl (OT.loadA0 tab hA rfl rfl rfl rfl rfl ?_))
    obtain ⟨g, hg⟩ : ∃ g, g = gapL[c.toNat % 4] := ⟨_, rfl⟩
    rw [← hg] at hgap hg6 ⊢
    have hrl := restU_len l a0 hch (g := g)
    have hUl : (g ++ restU s g a0 l).length ≤ 150016 := by
      have h7 : l.length * (1 + g.length) ≤ 20000 * 7 := Nat.mul_le_mul h3 (by omega)
      rw [List.length_append]; omega
    repeat (first|refine q1 ?_|refine q3 ?_|refine q4 tab rfl rfl ?_|refine q5 ?_|refine q6 ?_)
    refine TO.step rfl (OT.lit tab rfl rfl rfl rfl (fun ba => ?_))
    refine TO.drop (List.sublist_cons_self _ _) ?_
    repeat (first|refine q1 ?_|refine q2 ?_|refine q3 ?_|refine q4 tab rfl rfl ?_|refine q5 ?_|refine q6 ?_)
    refine TC.growL ba 1 ?_
    refine TC.loopK (ι := SpcS) [0, 5, 8] rfl (fun x => [(9, strV x.t), (10, x.sl.v), (11, .int .i64 (x.i : Int))]) (fun x => x.m) (fun x => tok x.sl 1 :: L) (fun x => m3 ≤ x.m ∧ SlRep rInt x.m x.sl x.ats ∧ Own x.sl ∧ x.ats.length ≤ x.i ∧ SpcI s g a0 l x.t x.ats x.i x.a) (fun x => l.length - x.i) ⟨m3, g, ⟨some ⟨ba, 0, none⟩, 0, 0⟩, [], 0, a0⟩ (by repeat (first|exact trivial|refine And.intro rfl ?_)) rfl (by repeat (exact List.Sublist.refl _)) ⟨Mem.le_refl _, SlRep.lit0 _ _ _, Own.lit _ _ _, Nat.le_refl _, SpcI.start hch⟩ ?_
    rintro ⟨m4, t, av, ats, i, a⟩ ⟨hm4, has, hao, hal, hI⟩
    replace hm4 : m3 ≤ m4 := hm4
    replace has : SlRep rInt m4 av ats := has
    replace hao : Own av := hao
    replace hal : ats.length ≤ i := hal
    replace hI : SpcI s g a0 l t ats i a := hI
    have hsl4 := hsl3.mono hm4
    have hil := hI.le
    have htl : t.length ≤ 150016 := by
      have := hUl
      rw [hI.text, List.length_append] at this
      omega
    show TC _ _ _ ((9, strV t) :: (10, av.v) :: (11, .int .i64 (i : Int)) :: _) _ m4 (tok av 1 :: L) _
    repeat (first|refine q1 ?_|refine q3 ?_|refine q4 tab rfl rfl ?_|refine q5 ?_|refine q6 ?_)
    refine TC.condP rfl (fun c1 => ?_) (fun c1 => ?_)
    · have hlt : i < l.length := by omega
      have hx : l[i]? = some l[i] := by simp [hlt]
      obtain ⟨g1, n, g2, g3, g4, g5, g6, g7, g8⟩ := hI.here hlt
      obtain ⟨e, he⟩ : ∃ e, e = a + n + blk false (s.drop (a + n)) := ⟨_, rfl⟩
      have ho := own1 g2 g3
      rw [← he] at g4 g5 g6 g7 g8 ho
      have hpl := piece_len (a := a) g4
      repeat (first|refine q1 ?_|refine q2 ?_|refine q3 ?_|refine q4 tab rfl rfl ?_|refine q5 ?_|refine q6 ?_|refine q13 ?_)
      refine TO.step rfl (OT.arith (r' := ((i + 1 : Nat) : Int)) rfl rfl rfl rfl rfl rfl rfl (by omega) ?_)
      repeat (first|refine q4 tab rfl rfl ?_|refine q5 ?_|refine q6 ?_)
      refine TC.cutT (ι := Unit) [0, 5, 8, 9, 10, 11] rfl (fun _ => [(12, .int .i64 (e : Int))]) (fun _ => m4) (fun _ => tok av 1 :: L) (fun _ => True) ?_ (fun _ _ => ?_)
      · refine TC.condP rfl (fun d1 => ?_) (fun d1 => ?_)
        · have hlt1 : i + 1 < l.length := by omega
          have hx1 : l[i + 1]? = some l[i + 1] := by simp [hlt1]
          repeat (first|refine q3 ?_|refine q4 tab rfl rfl ?_)
          refine TO.step rfl (OT.arith (r' := ((i + 1 : Nat) : Int)) rfl rfl rfl rfl rfl rfl rfl (by omega) ?_)
          refine TO.step rfl (OT.index tab rTok (i+1) hsl4 rfl rfl rfl rfl rfl (by first | rfl | omega) rfl hx1 ?_)
          rintro b1 i1 hd1 rfl hA1
          repeat (refine q4 tab rfl rfl ?_)
          (refine TO.step rfl (OT.loadA tab hA1 rfl rfl rfl rfl rfl ?_))
          rw [g6 hlt1]
          repeat (first|refine q4 tab rfl rfl ?_|refine q5 ?_|refine q6 ?_)
          exact ⟨(), (by repeat (first|exact trivial|refine And.intro rfl ?_)), (by repeat (first|exact trivial|refine And.intro rfl ?_)), rfl, rfl, (by repeat (exact List.Sublist.refl _)), trivial⟩
        · have := g7 (by omega)
          rw [this]
          repeat (first|refine q6 ?_|refine q13 ?_)
          exact ⟨(), (by repeat (first|exact trivial|refine And.intro rfl ?_)), (by repeat (first|exact trivial|refine And.intro rfl ?_)), rfl, rfl, (by repeat (exact List.Sublist.refl _)), trivial⟩
      repeat (first|refine q1 ?_|refine q3 ?_|refine q4 tab rfl rfl ?_)
      refine TO.step rfl (OT.index tab rTok i hsl4 rfl rfl rfl rfl rfl (by first | rfl | omega) rfl hx ?_)
      rintro b1 i1 hd1 rfl hA1
      repeat (refine q4 tab rfl rfl ?_)
      (refine TO.step rfl (OT.loadA tab hA1 rfl rfl rfl rfl rfl ?_))
      rw [g1]
      repeat (refine q4 tab rfl rfl ?_)
      refine TO.step rfl (OT.sub tab a e rfl rfl rfl rfl rfl rfl rfl (.inr rfl) (.inr rfl) (by omega) (by omega) ?_)
      refine TO.step rfl (OT.call rfl rfl rfl rfl rfl rfl goes9 ((scan_law _ _ (piece s a e) (hE.mono (Mem.le_trans hm3 hm4))).x ?_));
      rintro _ m5 _ ⟨hm5, rfl, s1, rfl, hs1⟩
      rw [scan_one ho (by omega)] at hs1 ⊢
      replace hs1 : SlRep rTok m5 s1 [⟨l[i].kind, l[i].text, l[i].num, 0⟩] := hs1
      obtain ⟨sa, sn, sc⟩ := s1
      have hlen1 : sn = 1 := hs1.len
      subst hlen1
      have hsl5 := hsl4.mono hm5
      repeat (first|refine q1 ?_|refine q4 tab rfl rfl ?_|refine q5 ?_|refine q6 ?_)
      refine TC.draw0 [] mixed 43 rfl ?_
      refine DO.pure tab (by repeat (first|exact Calm.ret|refine Calm.then ?_|refine Calm.block ?_)) (by kernel_rfl) [0, 1, 2, 3, 4, 5, 6, 7, 8] (by kernel_rfl) rfl ?_
      refine DO.index tab rTok 9 0 hs1 (by repeat (first|exact Calm.ret|refine Calm.then ?_|refine Calm.block ?_)) (by kernel_rfl) (by kernel_rfl) rfl rfl rfl rfl rfl rfl rfl (by first | rfl | omega) rfl rfl ?_
      rintro b2 i2 hd2 rfl hA2
      refine DO.pure tab (by repeat (first|exact Calm.ret|refine Calm.then ?_|refine Calm.block ?_)) (by kernel_rfl) [10] (by kernel_rfl) rfl ?_
      (refine DO.loadA tab 11 hA2 (by repeat (first|exact Calm.ret|refine Calm.then ?_|refine Calm.block ?_)) (by kernel_rfl) (by kernel_rfl) rfl rfl rfl rfl rfl rfl rfl ?_)
      refine DO.pure tab (by repeat (first|exact Calm.ret|refine Calm.then ?_|refine Calm.block ?_)) (by kernel_rfl) [12, 13] (by kernel_rfl) rfl ?_
      refine DO.index tab rTok 14 i hsl5 (by repeat (first|exact Calm.ret|refine Calm.then ?_|refine Calm.block ?_)) (by kernel_rfl) (by kernel_rfl) rfl rfl rfl rfl rfl rfl rfl (by first | rfl | omega) rfl hx ?_
      rintro b3 i3 hd3 rfl hA3
      refine DO.pure tab (by repeat (first|exact Calm.ret|refine Calm.then ?_|refine Calm.block ?_)) (by kernel_rfl) [15] (by kernel_rfl) rfl ?_
      (refine DO.loadA tab 16 hA3 (by repeat (first|exact Calm.ret|refine Calm.then ?_|refine Calm.block ?_)) (by kernel_rfl) (by kernel_rfl) rfl rfl rfl rfl rfl rfl rfl ?_)
      refine DO.pure tab (by repeat (first|exact Calm.ret|refine Calm.then ?_|refine Calm.block ?_)) (by kernel_rfl) [17, 18, 19] (by kernel_rfl) rfl ?_
      (refine DO.splitN (d := 96) rfl (fun hg19 => ?_) (fun hg19 => ?_))
      · first | (exfalso; omega) | exact absurd rfl hg19 | exact absurd (by assumption) hg19
      refine DO.pure tab (by repeat (first|exact Calm.ret|refine Calm.then ?_|refine Calm.block ?_)) (by kernel_rfl) [20] (by kernel_rfl) rfl ?_
      refine DO.index tab rTok 21 0 hs1 (by repeat (first|exact Calm.ret|refine Calm.then ?_|refine Calm.block ?_)) (by kernel_rfl) (by kernel_rfl) rfl rfl rfl rfl rfl rfl rfl (by first | rfl | omega) rfl rfl ?_
      rintro b4 i4 hd4 rfl hA4
      refine DO.pure tab (by repeat (first|exact Calm.ret|refine Calm.then ?_|refine Calm.block ?_)) (by kernel_rfl) [22] (by kernel_rfl) rfl ?_
      (refine DO.loadA tab 23 hA4 (by repeat (first|exact Calm.ret|refine Calm.then ?_|refine Calm.block ?_)) (by kernel_rfl) (by kernel_rfl) rfl rfl rfl rfl rfl rfl rfl ?_)
      refine DO.pure tab (by repeat (first|exact Calm.ret|refine Calm.then ?_|refine Calm.block ?_)) (by kernel_rfl) [24, 25] (by kernel_rfl) rfl ?_
      refine DO.index tab rTok 26 i hsl5 (by repeat (first|exact Calm.ret|refine Calm.then ?_|refine Calm.block ?_)) (by kernel_rfl) (by kernel_rfl) rfl rfl rfl rfl rfl rfl rfl (by first | rfl | omega) rfl hx ?_
      rintro b5 i5 hd5 rfl hA5
      refine DO.pure tab (by repeat (first|exact Calm.ret|refine Calm.then ?_|refine Calm.block ?_)) (by kernel_rfl) [27] (by kernel_rfl) rfl ?_
      (refine DO.loadA tab 28 hA5 (by repeat (first|exact Calm.ret|refine Calm.then ?_|refine Calm.block ?_)) (by kernel_rfl) (by kernel_rfl) rfl rfl rfl rfl rfl rfl rfl ?_)
      refine DO.pure tab (by repeat (first|exact Calm.ret|refine Calm.then ?_|refine Calm.block ?_)) (by kernel_rfl) [29, 30, 31] (by kernel_rfl) rfl ?_
      (refine DO.splitN (d := 108) rfl (fun hg31 => ?_) (fun hg31 => ?_))
      · first | (exfalso; omega) | exact absurd rfl hg31 | exact absurd (by assumption) hg31
      refine DO.pure tab (by repeat (first|exact Calm.ret|refine Calm.then ?_|refine Calm.block ?_)) (by kernel_rfl) [32] (by kernel_rfl) rfl ?_
      refine DO.index tab rTok 33 0 hs1 (by repeat (first|exact Calm.ret|refine Calm.then ?_|refine Calm.block ?_)) (by kernel_rfl) (by kernel_rfl) rfl rfl rfl rfl rfl rfl rfl (by first | rfl | omega) rfl rfl ?_
      rintro b6 i6 hd6 rfl hA6
      refine DO.pure tab (by repeat (first|exact Calm.ret|refine Calm.then ?_|refine Calm.block ?_)) (by kernel_rfl) [34] (by kernel_rfl) rfl ?_
      (refine DO.loadA tab 35 hA6 (by repeat (first|exact Calm.ret|refine Calm.then ?_|refine Calm.block ?_)) (by kernel_rfl) (by kernel_rfl) rfl rfl rfl rfl rfl rfl rfl ?_)
      refine DO.pure tab (by repeat (first|exact Calm.ret|refine Calm.then ?_|refine Calm.block ?_)) (by kernel_rfl) [36, 37] (by kernel_rfl) rfl ?_
      refine DO.index tab rTok 38 i hsl5 (by repeat (first|exact Calm.ret|refine Calm.then ?_|refine Calm.block ?_)) (by kernel_rfl) (by kernel_rfl) rfl rfl rfl rfl rfl rfl rfl (by first | rfl | omega) rfl hx ?_
      rintro b7 i7 hd7 rfl hA7
      refine DO.pure tab (by repeat (first|exact Calm.ret|refine Calm.then ?_|refine Calm.block ?_)) (by kernel_rfl) [39] (by kernel_rfl) rfl ?_
      (refine DO.loadA tab 40 hA7 (by repeat (first|exact Calm.ret|refine Calm.then ?_|refine Calm.block ?_)) (by kernel_rfl) (by kernel_rfl) rfl rfl rfl rfl rfl rfl rfl ?_)
      refine DO.pure tab (by repeat (first|exact Calm.ret|refine Calm.then ?_|refine Calm.block ?_)) (by kernel_rfl) [41, 42] (by kernel_rfl) rfl ?_
      (refine DO.nil0 (by kernel_rfl) ?_)
      rotate_left 1
      repeat (refine q6 ?_)
      refine TC.condN rfl (fun d1 => ?_) (fun d1 => ?_)
      · exact absurd rfl d1
      repeat (first|refine q1 ?_|refine q3 ?_|refine q4 tab rfl rfl ?_|refine q6 ?_|refine q13 ?_)
      refine TO.step rfl (OT.lit tab rfl rfl rfl rfl (fun b8 => ?_))
      refine TO.step rfl (OT.append1 tab rInt 0 (hd' := (t.length : Int)) (a := (t.length : Int)) (has.mono hm5) hao rfl rfl rfl rfl rfl rfl rfl rfl (by show (ats.length + 1) * 8 ≤ _; omega) (fun s' m6 hm6 hs6 ho6 => ?_))
      have hsl6 := hsl5.mono hm6
      repeat (first|refine q3 ?_|refine q4 tab rfl rfl ?_|refine q5 ?_|refine q6 ?_)
      refine TO.step rfl (OT.index tab rTok i hsl6 rfl rfl rfl rfl rfl (by first | rfl | omega) rfl hx ?_)
      rintro b9 i9 hd9 rfl hA9
      repeat (refine q4 tab rfl rfl ?_)
      (refine TO.step rfl (OT.loadA tab hA9 rfl rfl rfl rfl rfl ?_))
      rw [g1]
      repeat (refine q4 tab rfl rfl ?_)
      refine TO.step rfl (OT.sub tab a e rfl rfl rfl rfl rfl rfl rfl (.inr rfl) (.inr rfl) (by omega) (by omega) ?_)
      refine TO.step rfl (OT.concat (s := piece s a e) (u := [10]) rfl rfl rfl rfl rfl (by simp only [List.length_cons, List.length_nil]; omega) ?_)
      repeat (refine q4 tab rfl rfl ?_)
      refine TO.step rfl (OT.concat (s := piece s a e ++ [10]) (u := g) rfl rfl rfl rfl rfl (by simp only [List.length_append, List.length_cons, List.length_nil]; omega) ?_)
      refine TO.step rfl (OT.concat (s := t) (u := piece s a e ++ [10] ++ g) rfl rfl rfl rfl rfl (by simp only [List.length_append, List.length_cons, List.length_nil]; omega) ?_)
      rw [show t ++ (piece s a e ++ [10] ++ g) = t ++ (piece s a e ++ (10 :: g)) by simp]
      repeat (first|refine q3 ?_|refine q4 tab rfl rfl ?_|refine q5 ?_|refine q6 ?_|refine q7 ?_)
      refine TO.step rfl (OT.arith (r' := ((i + 1 : Nat) : Int)) rfl rfl rfl rfl rfl rfl rfl (by omega) ?_)
      repeat (first|refine q4 tab rfl rfl ?_|refine q5 ?_|refine q6 ?_)
      exact ⟨⟨m6, t ++ (piece s a e ++ (10 :: g)), s', ats ++ [(t.length : Int)], i + 1, e⟩, (by repeat (first|exact trivial|refine And.intro rfl ?_)), (by repeat (first|exact trivial|refine And.intro rfl ?_)), rfl, rfl, (by repeat (exact List.Sublist.refl _)), ⟨Mem.le_trans hm4 (Mem.le_trans hm5 hm6), hs6, ho6, by show (ats ++ [_]).length ≤ i + 1; rw [List.length_append]; simp only [List.length_cons, List.length_nil]; omega, g8⟩, by show l.length - (i + 1) < l.length - i; omega⟩
    · have hi : i = l.length := by omega
      subst hi
      have hU : g ++ restU s g a0 l = t := by
        have := hI.text
        rw [List.drop_length, restU, List.append_nil] at this
        exact this
      repeat (first|refine q1 ?_|refine q3 ?_|refine q4 tab rfl rfl ?_|refine q5 ?_|refine q6 ?_|refine q10 ?_|refine q11 ?_|refine q14 ?_)
      refine TC.condP rfl (fun c2 => ?_) (fun c2 => ?_)
      · repeat (first|refine q1 ?_|refine q3 ?_|refine q4 tab rfl rfl ?_|refine q5 ?_|refine q6 ?_|refine q8 ?_|refine q15 ?_)
        refine retQ_ret rfl (by repeat (first|exact List.Sublist.refl _|refine List.Sublist.cons _ ?_)) ⟨Mem.le_trans hm3 hm4, rfl, rfl⟩
      repeat (first|refine q1 ?_|refine q3 ?_|refine q4 tab rfl rfl ?_|refine q6 ?_|refine q13 ?_)
      refine TO.step rfl (OT.call rfl rfl rfl rfl rfl rfl goes9 ((scan_law _ _ t (hE.mono (Mem.le_trans hm3 hm4))).x ?_));
      rintro _ m5 _ ⟨hm5, rfl, s2, rfl, hs2⟩
      have hD := scan_U hgap hch h3 (by rw [hU]; omega)
      rw [hU] at hD
      obtain ⟨M, hM⟩ : ∃ M, M = toksU s g g.length a0 l := ⟨_, rfl⟩
      have hMl := toksU_len (g := g) l g.length a0 hch
      have hats : ats = M.map Tok.at_ := by
        have := hI.ats
        rw [← hM] at this
        rw [this, List.take_of_length_le (by rw [hM, hMl]; exact Nat.le_refl _)]
      rw [← hM] at hD hMl
      rw [hD] at hs2 ⊢
      replace hs2 : SlRep rTok m5 s2 M := hs2
      have hlen2 : s2.len = M.length := hs2.len
      have hsl5 := hsl4.mono hm5
      have has5 := has.mono hm5
      have hm05 := Mem.le_trans hm3 (Mem.le_trans hm4 hm5)
      repeat (first|refine q1 ?_|refine q3 ?_|refine q4 tab rfl rfl ?_|refine q5 ?_|refine q6 ?_)
      refine TC.condN rfl (fun c3 => ?_) (fun c3 => ?_)
      · exfalso; omega
      repeat (first|refine q1 ?_|refine q2 ?_|refine q3 ?_|refine q4 tab rfl rfl ?_|refine q5 ?_|refine q6 ?_|refine q13 ?_)
      refine TC.loopK (ι := Nat) [0, 5, 10, 16] rfl (fun k => [(19, .int .i64 (k : Int))]) (fun _ => m5) (fun _ => L) (fun k => k ≤ l.length) (fun k => l.length - k) 0 (by repeat (first|exact trivial|refine And.intro rfl ?_)) rfl (by repeat (first|exact List.Sublist.refl _|refine List.Sublist.cons _ ?_)) (Nat.zero_le _) ?_
      rintro k hk
      repeat (first|refine q1 ?_|refine q3 ?_|refine q4 tab rfl rfl ?_|refine q5 ?_|refine q6 ?_)
      refine TC.condP rfl (fun c4 => ?_) (fun c4 => ?_)
      · have hlt : k < l.length := by omega
        have hx : l[k]? = some l[k] := by simp [hlt]
        obtain ⟨u, hu, hu1, hu2, hu3⟩ := toksU_get (g := g) l g.length a0 k l[k] hch hx
        rw [← hM] at hu
        have hua : ats[k]? = some u.at_ := by rw [hats, List.getElem?_map, hu]; rfl
        repeat (first|refine q1 ?_|refine q2 ?_|refine q6 ?_|refine q13 ?_)
        refine TC.draw0 [] mixed 49 rfl ?_
        refine DO.pure tab (by repeat (first|exact Calm.ret|refine Calm.then ?_|refine Calm.block ?_)) (by kernel_rfl) [0, 1] (by kernel_rfl) rfl ?_
        refine DO.index tab rTok 2 k hs2 (by repeat (first|exact Calm.ret|refine Calm.then ?_|refine Calm.block ?_)) (by kernel_rfl) (by kernel_rfl) rfl rfl rfl rfl rfl rfl rfl (by first | rfl | omega) rfl hu ?_
        rintro b2 i2 hd2 rfl hA2
        refine DO.pure tab (by repeat (first|exact Calm.ret|refine Calm.then ?_|refine Calm.block ?_)) (by kernel_rfl) [3] (by kernel_rfl) rfl ?_
        (refine DO.loadA tab 4 hA2 (by repeat (first|exact Calm.ret|refine Calm.then ?_|refine Calm.block ?_)) (by kernel_rfl) (by kernel_rfl) rfl rfl rfl rfl rfl rfl rfl ?_)
        refine DO.pure tab (by repeat (first|exact Calm.ret|refine Calm.then ?_|refine Calm.block ?_)) (by kernel_rfl) [5, 6] (by kernel_rfl) rfl ?_
        refine DO.index tab rTok 7 k hsl5 (by repeat (first|exact Calm.ret|refine Calm.then ?_|refine Calm.block ?_)) (by kernel_rfl) (by kernel_rfl) rfl rfl rfl rfl rfl rfl rfl (by first | rfl | omega) rfl hx ?_
        rintro b3 i3 hd3 rfl hA3
        refine DO.pure tab (by repeat (first|exact Calm.ret|refine Calm.then ?_|refine Calm.block ?_)) (by kernel_rfl) [8] (by kernel_rfl) rfl ?_
        (refine DO.loadA tab 9 hA3 (by repeat (first|exact Calm.ret|refine Calm.then ?_|refine Calm.block ?_)) (by kernel_rfl) (by kernel_rfl) rfl rfl rfl rfl rfl rfl rfl ?_)
        refine DO.pure tab (by repeat (first|exact Calm.ret|refine Calm.then ?_|refine Calm.block ?_)) (by kernel_rfl) [10, 11] (by kernel_rfl) rfl ?_
        (refine DO.splitN (d := 173) rfl (fun hg11 => ?_) (fun hg11 => ?_))
        · first | (exfalso; omega) | exact absurd rfl hg11 | exact absurd (by assumption) hg11
        refine DO.pure tab (by repeat (first|exact Calm.ret|refine Calm.then ?_|refine Calm.block ?_)) (by kernel_rfl) [12, 13] (by kernel_rfl) rfl ?_
        refine DO.index tab rTok 14 k hs2 (by repeat (first|exact Calm.ret|refine Calm.then ?_|refine Calm.block ?_)) (by kernel_rfl) (by kernel_rfl) rfl rfl rfl rfl rfl rfl rfl (by first | rfl | omega) rfl hu ?_
        rintro b4 i4 hd4 rfl hA4
        refine DO.pure tab (by repeat (first|exact Calm.ret|refine Calm.then ?_|refine Calm.block ?_)) (by kernel_rfl) [15] (by kernel_rfl) rfl ?_
        (refine DO.loadA tab 16 hA4 (by repeat (first|exact Calm.ret|refine Calm.then ?_|refine Calm.block ?_)) (by kernel_rfl) (by kernel_rfl) rfl rfl rfl rfl rfl rfl rfl ?_)
        refine DO.pure tab (by repeat (first|exact Calm.ret|refine Calm.then ?_|refine Calm.block ?_)) (by kernel_rfl) [17, 18] (by kernel_rfl) rfl ?_
        refine DO.index tab rTok 19 k hsl5 (by repeat (first|exact Calm.ret|refine Calm.then ?_|refine Calm.block ?_)) (by kernel_rfl) (by kernel_rfl) rfl rfl rfl rfl rfl rfl rfl (by first | rfl | omega) rfl hx ?_
        rintro b5 i5 hd5 rfl hA5
        refine DO.pure tab (by repeat (first|exact Calm.ret|refine Calm.then ?_|refine Calm.block ?_)) (by kernel_rfl) [20] (by kernel_rfl) rfl ?_
        (refine DO.loadA tab 21 hA5 (by repeat (first|exact Calm.ret|refine Calm.then ?_|refine Calm.block ?_)) (by kernel_rfl) (by kernel_rfl) rfl rfl rfl rfl rfl rfl rfl ?_)
        refine DO.pure tab (by repeat (first|exact Calm.ret|refine Calm.then ?_|refine Calm.block ?_)) (by kernel_rfl) [22, 23, 24] (by kernel_rfl) rfl ?_
        (refine DO.splitN (d := 186) rfl (fun hg24 => ?_) (fun hg24 => ?_))
        · first | (exfalso; omega) | exact absurd rfl hg24 | exact absurd (by assumption) hg24
        refine DO.pure tab (by repeat (first|exact Calm.ret|refine Calm.then ?_|refine Calm.block ?_)) (by kernel_rfl) [25, 26] (by kernel_rfl) rfl ?_
        refine DO.index tab rTok 27 k hs2 (by repeat (first|exact Calm.ret|refine Calm.then ?_|refine Calm.block ?_)) (by kernel_rfl) (by kernel_rfl) rfl rfl rfl rfl rfl rfl rfl (by first | rfl | omega) rfl hu ?_
        rintro b6 i6 hd6 rfl hA6
        refine DO.pure tab (by repeat (first|exact Calm.ret|refine Calm.then ?_|refine Calm.block ?_)) (by kernel_rfl) [28] (by kernel_rfl) rfl ?_
        (refine DO.loadA tab 29 hA6 (by repeat (first|exact Calm.ret|refine Calm.then ?_|refine Calm.block ?_)) (by kernel_rfl) (by kernel_rfl) rfl rfl rfl rfl rfl rfl rfl ?_)
        refine DO.pure tab (by repeat (first|exact Calm.ret|refine Calm.then ?_|refine Calm.block ?_)) (by kernel_rfl) [30, 31] (by kernel_rfl) rfl ?_
        refine DO.index tab rTok 32 k hsl5 (by repeat (first|exact Calm.ret|refine Calm.then ?_|refine Calm.block ?_)) (by kernel_rfl) (by kernel_rfl) rfl rfl rfl rfl rfl rfl rfl (by first | rfl | omega) rfl hx ?_
        rintro b7 i7 hd7 rfl hA7
        refine DO.pure tab (by repeat (first|exact Calm.ret|refine Calm.then ?_|refine Calm.block ?_)) (by kernel_rfl) [33] (by kernel_rfl) rfl ?_
        (refine DO.loadA tab 34 hA7 (by repeat (first|exact Calm.ret|refine Calm.then ?_|refine Calm.block ?_)) (by kernel_rfl) (by kernel_rfl) rfl rfl rfl rfl rfl rfl rfl ?_)
        refine DO.pure tab (by repeat (first|exact Calm.ret|refine Calm.then ?_|refine Calm.block ?_)) (by kernel_rfl) [35, 36, 37] (by kernel_rfl) rfl ?_
        (refine DO.splitN (d := 199) rfl (fun hg37 => ?_) (fun hg37 => ?_))
        · first | (exfalso; omega) | exact absurd rfl hg37 | exact absurd (by assumption) hg37
        refine DO.pure tab (by repeat (first|exact Calm.ret|refine Calm.then ?_|refine Calm.block ?_)) (by kernel_rfl) [38, 39] (by kernel_rfl) rfl ?_
        refine DO.index tab rTok 40 k hs2 (by repeat (first|exact Calm.ret|refine Calm.then ?_|refine Calm.block ?_)) (by kernel_rfl) (by kernel_rfl) rfl rfl rfl rfl rfl rfl rfl (by first | rfl | omega) rfl hu ?_
        rintro b8 i8 hd8 rfl hA8
        refine DO.pure tab (by repeat (first|exact Calm.ret|refine Calm.then ?_|refine Calm.block ?_)) (by kernel_rfl) [41] (by kernel_rfl) rfl ?_
        (refine DO.loadA tab 42 hA8 (by repeat (first|exact Calm.ret|refine Calm.then ?_|refine Calm.block ?_)) (by kernel_rfl) (by kernel_rfl) rfl rfl rfl rfl rfl rfl rfl ?_)
        refine DO.pure tab (by repeat (first|exact Calm.ret|refine Calm.then ?_|refine Calm.block ?_)) (by kernel_rfl) [43, 44] (by kernel_rfl) rfl ?_
        refine DO.index tab rInt 45 k has5 (by repeat (first|exact Calm.ret|refine Calm.then ?_|refine Calm.block ?_)) (by kernel_rfl) (by kernel_rfl) rfl rfl rfl rfl rfl rfl rfl (by first | rfl | omega) rfl hua ?_
        rintro b9 i9 hd9 rfl hA9
        (refine DO.loadA (k := 0) tab 46 hA9 (by repeat (first|exact Calm.ret|refine Calm.then ?_|refine Calm.block ?_)) (by kernel_rfl) (by kernel_rfl) rfl rfl rfl rfl rfl rfl rfl ?_)
        refine DO.pure tab (by repeat (first|exact Calm.ret|refine Calm.then ?_|refine Calm.block ?_)) (by kernel_rfl) [47, 48] (by kernel_rfl) rfl ?_
        (refine DO.nil0 (by kernel_rfl) ?_)
        rotate_left 1
        repeat (refine q6 ?_)
        refine TC.condN rfl (fun d1 => ?_) (fun d1 => ?_)
        · exact absurd rfl d1
        · repeat (first|refine q3 ?_|refine q4 tab rfl rfl ?_|refine q6 ?_|refine q7 ?_|refine q13 ?_)
          refine TO.step rfl (OT.arith (r' := ((k + 1 : Nat) : Int)) rfl rfl rfl rfl rfl rfl rfl (by omega) ?_)
          repeat (first|refine q4 tab rfl rfl ?_|refine q5 ?_|refine q6 ?_)
          exact ⟨k + 1, (by repeat (first|exact trivial|refine And.intro rfl ?_)), (by repeat (first|exact trivial|refine And.intro rfl ?_)), rfl, rfl, (by repeat (exact List.Sublist.refl _)), by omega, by omega⟩
      · repeat (first|refine q1 ?_|refine q3 ?_|refine q4 tab rfl rfl ?_|refine q5 ?_|refine q6 ?_|refine q10 ?_|refine q11 ?_|refine q14 ?_|refine q15 ?_)
        refine retQ_ret rfl (by repeat (exact List.Sublist.refl _)) ⟨hm05, rfl, rfl⟩
  · rw [h2] at hsl
    rw [h2]
    repeat (first|refine q1 ?_|refine q3 ?_|refine q4 tab rfl rfl ?_|refine q5 ?_|refine q6 ?_)
    refine TO.step rfl (OT.call rfl rfl rfl rfl rfl rfl goes11 ((awake_law _ _ (hE.mono hm1)).x ?_));
    rintro _ m2 _ ⟨hm2, rfl, rfl⟩
    have hm12 := Mem.le_trans hm1 hm2
    rcases h4 with rfl | ⟨rfl, h6⟩
    · skip
      repeat (first|refine q1 ?_|refine q3 ?_|refine q4 tab rfl rfl ?_|refine q5 ?_|refine q6 ?_|refine q16 rfl ?_)
      refine TO.step rfl (OT.call rfl rfl rfl rfl rfl rfl goes11 ((awake_law _ _ (hE.mono hm12)).x ?_));
      rintro _ m3 _ ⟨hm3, rfl, rfl⟩
      repeat (first|refine q4 tab rfl rfl ?_|refine q5 ?_|refine q6 ?_|refine q8 ?_|refine q15 ?_)
      refine retQ_ret rfl (by repeat (exact List.Sublist.refl _)) ⟨Mem.le_trans hm12 hm3, rfl, rfl⟩
    · skip
      repeat (first|refine q1 ?_|refine q3 ?_|refine q4 tab rfl rfl ?_|refine q5 ?_|refine q6 ?_|refine q16 rfl ?_)
      refine TO.step rfl (OT.call rfl rfl rfl rfl rfl rfl goes11 ((awake_law _ _ (hE.mono hm12)).x ?_));
      rintro _ m3 _ ⟨hm3, rfl, rfl⟩
      repeat (first|refine q4 tab rfl rfl ?_|refine q5 ?_|refine q6 ?_|refine q8 ?_|refine q15 ?_)
      refine retQ_ret rfl (by repeat (exact List.Sublist.refl _)) ⟨Mem.le_trans hm12 hm3, rfl, rfl⟩
end Go.Sep
