/- PsRow -/
import Derived.Test.YtlfiikhclgeadaaGreatDoorCards
import Derived.Test.YtlfiikhclgeadaaGreatDoorTie
import Derived.Deep.DeepHandedRow
import Derived.Deep.DeepWitnessRowRef
import Derived.Stop.LaidErr
import Derived.SizedLaws
import Derived.ChangeSame
import Derived.RowKit3
import Derived.ProofKit
import Derived.OpenShut
import Derived.JoinedCond
import Derived.LaidLaws
import Derived.Test.YtlfiikhclgeadaaGreatDoorB6
set_option linter.unusedVariables false
set_option linter.unusedSimpArgs false
namespace Go.Sep
open Go.Proofs Go.ChangeShapes Go.WideShapes Go.Proofs.YtlfiikhclgeadaaGreatDoor
def memOf (W : World) : Mem := ⟨W, fun b i => W.cell? ⟨b, i, none⟩, fun _ => none, fun _ => none⟩
theorem St.start (W : World) : St (memOf W) W [] where
 os := rfl
 tape := rfl
 output := rfl
 size := Nat.le_refl _
 pin := fun _ _ => rfl
 c := fun _ _ _ h => h
 o := fun _ _ h => by cases h
 t := fun _ _ h => by cases h
 items := fun _ h => by cases h
 free := fun _ h => by cases h
 disj := List.Pairwise.nil
theorem St.kept {W w' : World} {m' : Mem} {L' : List Item} (h : St m' w' L') (hm : memOf W ≤ m') : W.keptBut w' (fun _ => False) := by
 have hp : m'.pin = W := hm.pin
 have hsz := h.size
 have hpin := h.pin
 rw [hp] at hsz hpin
 refine ⟨by rw [h.os, hp], by rw [h.output, hp], fun i hi => ?_⟩
 rw [hpin i hi]
 split
 ·rename_i c t fr c' t' fr' h1 h2
  rw [h1] at h2
  simp only [Option.some.injEq, Obj.cells.injEq] at h2
  obtain ⟨rfl, rfl, rfl⟩ := h2
  exact ⟨rfl, rfl, rfl, fun _ _ => rfl⟩
 ·rename_i es c es' c' h1 h2
  rw [h1] at h2
  simp only [Option.some.injEq, Obj.map.injEq] at h2
  obtain ⟨rfl, rfl⟩ := h2
  exact .inr ⟨rfl, rfl⟩
 ·rfl
end Go.Sep
namespace Go.Proofs.YtlfiikhclgeadaaGreatDoor
open Go.ChangeShapes Go.WideShapes Go.ChangeAt Go.RowKit Go.Sep
open Go.ChangeMaps (open_string shut_string)
theorem own : ownKnob Tryz.prog.godebug = none := by kernel_rfl
theorem cells131 : Tryz.prog.cellsOf 131 = 1 := by kernel_rfl
theorem cells9 : Tryz.prog.cellsOf 9 = 1 := by kernel_rfl
theorem star : "*" ++ "errors.errorString" = "*errors.errorString" := by decide
theorem row129 (u : TypeId) (h : Tryz.prog.typeName? 3 u = some "*errors.errorString") : u = 129 :=
 typeName_ptr_named (nm := "errors.errorString") (by rw [star]; kernel_rfl) (by kernel_rfl) (by decide) u (by rw [star]; exact h)
theorem gSyn : Tryz.prog.globalNamed "strconv.ErrSyntax" = some 1 := by kernel_rfl
theorem gSynT : (Tryz.prog.globals[1]?).map (·.type) = some 83 := by kernel_rfl
theorem gRng : Tryz.prog.globalNamed "strconv.ErrRange" = some 2 := by kernel_rfl
theorem gRngT : (Tryz.prog.globals[2]?).map (·.type) = some 83 := by kernel_rfl
def laidL : List (String × DataW Unit) := [("math/bits.deBruijn32tab", Rows.laid_math_bits_deBruijn32tab), ("math/bits.deBruijn64tab", Rows.laid_math_bits_deBruijn64tab), ("internal/strconv.uint64pow10", Rows.laid_internal_strconv_uint64pow10), ("strconv.ErrRange", Rows.laid_strconv_ErrRange), ("strconv.ErrSyntax", Rows.laid_strconv_ErrSyntax)]
theorem errs_of {W : World} (h : laidMetH Tryz.prog laidL W) : Errs (memOf W) := by
 have hL : laidMet Tryz.prog laidL W := h
 obtain ⟨a0, s0, hv0, -, -, -⟩ := laid_sentinel hL.tail.tail.tail gRng gRngT Tryz.underlying83 row129 Tryz.underlying129 Tryz.underlying131 rfl rfl Tryz.underlying9 cells131 cells9
 obtain ⟨a1, s1, hv1, -, -, -⟩ := laid_sentinel hL.tail.tail.tail.tail gSyn gSynT Tryz.underlying83 row129 Tryz.underlying129 Tryz.underlying131 rfl rfl Tryz.underlying9 cells131 cells9
 have c0 : W.cell? ⟨2, 0, none⟩ = some (.iface 129 (.pointer (some a0))) := by simpa using World.var?_cell gRng hv0 0
 have c1 : W.cell? ⟨1, 0, none⟩ = some (.iface 129 (.pointer (some a1))) := by simpa using World.var?_cell gSyn hv1 0
 refine ⟨⟨129, .pointer (some a1), fun j v hj => ?_⟩, ⟨129, .pointer (some a0), fun j v hj => ?_⟩⟩
 ·cases j with
  | zero => cases hj; exact c1
  | succ j => simp at hj
 ·cases j with
  | zero => cases hj; exact c0
  | succ j => simp at hj
abbrev synS : ByteArray := { data := #[105, 110, 118, 97, 108, 105, 100, 32, 115, 121, 110, 116, 97, 120] }
abbrev rngS : ByteArray := { data := #[118, 97, 108, 117, 101, 32, 111, 117, 116, 32, 111, 102, 32, 114, 97, 110, 103, 101] }
noncomputable def low : Nat := (World.holding Tryz.prog default ⟨#[], #[], []⟩).heap.size
noncomputable def laidWorld (os : Os) : World :=
 let w0 := World.holding Tryz.prog os ⟨#[.cells #[.string synS] 131, .cells #[.string rngS] 131], #[], []⟩
 let put (g : Nat) (vs : Array Value) (h : Array Obj) : Array Obj := h.modify g fun
   | .cells _ t frozen => .cells vs t frozen
   | o => o
 {w0 with heap := put 5 #[.int .u8 0, .int .u8 1, .int .u8 56, .int .u8 2, .int .u8 57, .int .u8 49, .int .u8 28, .int .u8 3, .int .u8 61, .int .u8 58, .int .u8 42, .int .u8 50, .int .u8 38, .int .u8 29, .int .u8 17, .int .u8 4, .int .u8 62, .int .u8 47, .int .u8 59, .int .u8 36, .int .u8 45, .int .u8 43, .int .u8 51, .int .u8 22, .int .u8 53, .int .u8 39, .int .u8 33, .int .u8 30, .int .u8 24, .int .u8 18, .int .u8 12, .int .u8 5, .int .u8 63, .int .u8 55, .int .u8 48, .int .u8 27, .int .u8 60, .int .u8 41, .int .u8 37, .int .u8 16, .int .u8 46, .int .u8 35, .int .u8 44, .int .u8 21, .int .u8 52, .int .u8 32, .int .u8 23, .int .u8 11, .int .u8 54, .int .u8 26, .int .u8 40, .int .u8 15, .int .u8 34, .int .u8 20, .int .u8 31, .int .u8 10, .int .u8 25, .int .u8 14, .int .u8 19, .int .u8 9, .int .u8 13, .int .u8 8, .int .u8 7, .int .u8 6] (put 4 #[.int .u8 0, .int .u8 1, .int .u8 28, .int .u8 2, .int .u8 29, .int .u8 14, .int .u8 24, .int .u8 3, .int .u8 30, .int .u8 22, .int .u8 20, .int .u8 15, .int .u8 25, .int .u8 17, .int .u8 4, .int .u8 8, .int .u8 31, .int .u8 27, .int .u8 13, .int .u8 23, .int .u8 21, .int .u8 19, .int .u8 16, .int .u8 7, .int .u8 26, .int .u8 12, .int .u8 18, .int .u8 6, .int .u8 11, .int .u8 5, .int .u8 10, .int .u8 9] (put 3 #[.int .u64 1, .int .u64 10, .int .u64 100, .int .u64 1000, .int .u64 10000, .int .u64 100000, .int .u64 1000000, .int .u64 10000000, .int .u64 100000000, .int .u64 1000000000, .int .u64 10000000000, .int .u64 100000000000, .int .u64 1000000000000, .int .u64 10000000000000, .int .u64 100000000000000, .int .u64 1000000000000000, .int .u64 10000000000000000, .int .u64 100000000000000000, .int .u64 1000000000000000000, .int .u64 10000000000000000000] (put 2 #[.iface 129 (.pointer (some ⟨low + 1, 0, none⟩))] (put 1 #[.iface 129 (.pointer (some ⟨low, 0, none⟩))] w0.heap)))) }
theorem laid_met (os : Os) (args : Array Value) : laidMet Tryz.prog laidL ((laidWorld os).forCall (fun _ _ => 0) ⟨#[], args, []⟩).memory :=
 laidMet_of_run' 8 (by kernel_rfl) (by kernel_rfl)
theorem post_old {H : Type} {enc : TypeId × Value → H} {f : Func} {s : ChangeSpec} {apart fresh handsOn : Bool} {W W' : World} {args : Array Value} {v : Value} {ds gs : List (DataW H)} {before pa pv : List MemPlace}
  (hW : DataW.Whole enc Tryz.prog f.params.toList s.vars apart W args.toList ds gs before)
  (hres : ∀ (b : Nat) (sp : Nat → Bool) (hd : Bool), DataW.TrodAll enc Tryz.prog W' b sp hd f.resultTypes.toList (v.resultList f.resultTypes.size) (s.fn H (ds ++ gs)).results [])
  (hargs : ∀ sp : Nat → Bool, (∀ p ∈ before, sp p.block = true) → DataW.TrodAll enc Tryz.prog W' 0 sp true f.params.toList args.toList (s.fn H (ds ++ gs)).args pa)
  (hvars : ∀ sp : Nat → Bool, (∀ p ∈ before, sp p.block = true) → DataW.TrodVars enc Tryz.prog W' sp s.vars (s.fn H (ds ++ gs)).vars pv)
  (hk : W.keptBut W' (fun _ => False)) : s.post enc Tryz.prog f apart fresh handsOn false W args v W' := by
 have hold : ∀ p ∈ before, (fun b => decide (b < W.heap.size)) p.block = true := fun p hp => by simpa using hW.lt p hp
 exact ⟨ds, gs, before, [], pa, pv, hW, hres _ _ _, hargs _ hold, hvars _ hold, World.keptBut_mono (fun _ hp => hp.elim) hk, fun h => by cases h⟩
end Go.Proofs.YtlfiikhclgeadaaGreatDoor


/- TyTree -/
set_option linter.unusedVariables false
set_option linter.unusedSimpArgs false
namespace Go.Sep
inductive Tree where
 | mk (kind : Int) (name : Str) (num : Int) (kids : List Tree)
def Tree.kind : Tree → Int | .mk k _ _ _ => k
def Tree.name : Tree → Str | .mk _ n _ _ => n
def Tree.num : Tree → Int | .mk _ _ u _ => u
def Tree.kids : Tree → List Tree | .mk _ _ _ ks => ks
theorem Tree.ind {P : Tree → Prop} (h : ∀ t, (∀ k ∈ t.kids, P k) → P t) (t : Tree) : P t :=
 Tree.rec (motive_1 := P) (motive_2 := fun l => ∀ k ∈ l, P k) (fun kind name num kids ih => h (.mk kind name num kids) ih) (fun k hk => by cases hk)
  (fun a l ha hl k hk => by
   rcases List.mem_cons.1 hk with rfl | hk
   ·exact ha
   ·exact hl k hk) t
structure HTree where
 kind : Int
 name : Str
 num : Int
 kids : Sl
@[reducible] def treeC (h : HTree) : List Value := [.int .i64 h.kind, strV h.name, .int .i64 h.num, h.kids.v]
@[reducible] def treeV (h : HTree) : Value := .agg ⟨[.int .i64 h.kind, strV h.name, .int .i64 h.num, h.kids.v]⟩
def RT : Type := { rep : Mem → HTree → Tree → Prop // ∀ m m' h a, m ≤ m' → rep m h a → rep m' h a }
def mkR (x : RT) : R HTree Tree where
 size := 4
 bytes := 56
 enc := treeC
 rep := x.1
 enc_len _ := rfl
 one _ := rfl
 mono hm h := x.2 _ _ _ _ hm h
def rtN : Nat → RT
 | 0 => ⟨fun _ _ _ => False, fun _ _ _ _ _ h => h⟩
 | n + 1 => ⟨fun m h a => h.kind = a.kind ∧ h.name = a.name ∧ h.num = a.num ∧ SlRep (mkR (rtN n)) m h.kids a.kids, fun _ _ _ _ hm h => ⟨h.1, h.2.1, h.2.2.1, h.2.2.2.mono hm⟩⟩
def rTree : R HTree Tree := mkR ⟨fun m h a => ∃ n, (rtN n).1 m h a, fun _ _ h a hm ⟨n, hn⟩ => ⟨n, (rtN n).2 _ _ _ _ hm hn⟩⟩
theorem SlRep.imp {x y : RT} {m : Mem} (hxy : ∀ h a, x.1 m h a → y.1 m h a) {s : Sl} {l : List Tree} (h : SlRep (mkR x) m s l) : SlRep (mkR y) m s l := by
 obtain ⟨hs, h1, h2⟩ := h.cells
 exact ⟨h.len, h.cap, h.fit, hs, All2.mono hxy h1, h2⟩
theorem rtN_up (m : Mem) : ∀ (n : Nat) (h : HTree) (a : Tree), (rtN n).1 m h a → (rtN (n + 1)).1 m h a
 | 0, _, _, h => h.elim
 | n + 1, _, _, h => ⟨h.1, h.2.1, h.2.2.1, SlRep.imp (rtN_up m n) h.2.2.2⟩
theorem rtN_le (m : Mem) {n k : Nat} (hk : n ≤ k) (h : HTree) (a : Tree) (hr : (rtN n).1 m h a) : (rtN k).1 m h a := by
 induction hk with
 | refl => exact hr
 | step _ ih => exact rtN_up m _ h a ih
theorem all2_common {m : Mem} : ∀ (hs : List HTree) (l : List Tree), All2 (rTree.rep m) hs l → ∃ n, All2 ((rtN n).1 m) hs l
 | [], [], _ => ⟨0, trivial⟩
 | h :: hs, a :: l, hh => by
  obtain ⟨n1, h1⟩ := hh.1
  obtain ⟨n2, h2⟩ := all2_common hs l hh.2
  exact ⟨max n1 n2, rtN_le m (Nat.le_max_left _ _) h a h1, All2.mono (fun h a => rtN_le m (Nat.le_max_right _ _) h a) h2⟩
 | [], _ :: _, hh => hh.elim
 | _ :: _, [], hh => hh.elim
structure TreeRep (m : Mem) (h : HTree) (a : Tree) : Prop where
 kind : h.kind = a.kind
 name : h.name = a.name
 num : h.num = a.num
 kids : SlRep rTree m h.kids a.kids
theorem rTree_iff {m : Mem} {h : HTree} {a : Tree} : rTree.rep m h a ↔ TreeRep m h a := by
 constructor
 ·rintro ⟨n, hn⟩
  cases n with
  | zero => exact hn.elim
  | succ n => exact ⟨hn.1, hn.2.1, hn.2.2.1, SlRep.imp (x := rtN n) (y := ⟨fun m h a => ∃ n, (rtN n).1 m h a, fun _ _ h a hm ⟨n, hn⟩ => ⟨n, (rtN n).2 _ _ _ _ hm hn⟩⟩) (fun h a hh => ⟨n, hh⟩) hn.2.2.2⟩
 ·rintro ⟨h1, h2, h3, h4⟩
  obtain ⟨hs, k1, k2⟩ := h4.cells
  obtain ⟨n, hn⟩ := all2_common hs _ k1
  exact ⟨n + 1, h1, h2, h3, h4.len, h4.cap, h4.fit, hs, hn, k2⟩
theorem TreeRep.mono {m m' : Mem} {h : HTree} {a : Tree} (hr : TreeRep m h a) (hm : m ≤ m') : TreeRep m' h a := ⟨hr.kind, hr.name, hr.num, hr.kids.mono hm⟩
end Go.Sep


/- TySize -/
set_option linter.unusedVariables false
set_option linter.unusedSimpArgs false
namespace Go.Sep
mutual
def Tree.bulk : Tree → Nat
 | .mk _ n _ ks => 1 + n.length + bulkL ks
def bulkL : List Tree → Nat
 | [] => 0
 | t :: ts => t.bulk + bulkL ts
end
theorem bulkL_mem : ∀ {l : List Tree} {t : Tree}, t ∈ l → t.bulk ≤ bulkL l
 | x :: xs, t, h => by
  rcases List.mem_cons.1 h with rfl | h
  ·simp only [bulkL]; omega
  ·have := bulkL_mem h; simp only [bulkL]; omega
theorem bulk_kid {a t : Tree} (h : t ∈ a.kids) : t.bulk < a.bulk := by
 obtain ⟨k, n, u, ks⟩ := a
 have := bulkL_mem h
 simp only [Tree.kids, Tree.bulk] at *
 omega
theorem bulk_name (a : Tree) : a.name.length < a.bulk := by
 obtain ⟨k, n, u, ks⟩ := a
 simp only [Tree.name, Tree.bulk]
 omega
mutual
def Tree.size : Tree → Nat
 | .mk _ _ _ ks => 1 + sizeL ks
def sizeL : List Tree → Nat
 | [] => 0
 | t :: ts => t.size + sizeL ts
end
mutual
def Tree.deep : Tree → Nat
 | .mk _ _ _ ks => deepL ks + 1
def deepL : List Tree → Nat
 | [] => 0
 | t :: ts => max t.deep (deepL ts)
end
mutual
theorem size_bulk : ∀ a : Tree, a.size ≤ a.bulk
 | .mk _ n _ ks => by
  have := sizeL_bulk ks
  simp only [Tree.size, Tree.bulk]
  omega
theorem sizeL_bulk : ∀ l : List Tree, sizeL l ≤ bulkL l
 | [] => by simp [sizeL, bulkL]
 | t :: ts => by
  have h1 := size_bulk t
  have h2 := sizeL_bulk ts
  simp only [sizeL, bulkL]
  omega
end
mutual
theorem deep_size : ∀ a : Tree, a.deep ≤ a.size
 | .mk _ n _ ks => by
  have := deepL_size ks
  simp only [Tree.size, Tree.deep]
  omega
theorem deepL_size : ∀ l : List Tree, deepL l ≤ sizeL l
 | [] => by simp [sizeL, deepL]
 | t :: ts => by
  have h1 := deep_size t
  have h2 := deepL_size ts
  simp only [sizeL, deepL]
  omega
end
theorem size_pos (a : Tree) : 1 ≤ a.size := by obtain ⟨k, n, u, ks⟩ := a; simp only [Tree.size]; omega
theorem sizeL_append : ∀ l r : List Tree, sizeL (l ++ r) = sizeL l + sizeL r
 | [], r => by simp [sizeL]
 | t :: ts, r => by have := sizeL_append ts r; simp only [List.cons_append, sizeL]; omega
theorem deepL_append : ∀ l r : List Tree, deepL (l ++ r) = max (deepL l) (deepL r)
 | [], r => by simp [deepL]
 | t :: ts, r => by have := deepL_append ts r; simp only [List.cons_append, deepL]; omega
theorem sizeL_take (l : List Tree) (k : Nat) : sizeL (l.take k) ≤ sizeL l := by
 have := sizeL_append (l.take k) (l.drop k)
 rw [List.take_append_drop] at this
 omega
theorem deepL_take (l : List Tree) (k : Nat) : deepL (l.take k) ≤ deepL l := by
 have := deepL_append (l.take k) (l.drop k)
 rw [List.take_append_drop] at this
 omega
theorem sizeL_drop (l : List Tree) (k : Nat) : sizeL (l.take k) + sizeL (l.drop k) = sizeL l := by
 rw [← sizeL_append, List.take_append_drop]
theorem len_sizeL : ∀ l : List Tree, l.length ≤ sizeL l
 | [] => by simp [sizeL]
 | t :: ts => by
  have := len_sizeL ts
  have := size_pos t
  simp only [sizeL, List.length_cons]
  omega
theorem size_kids (a : Tree) : a.size = 1 + sizeL a.kids := by obtain ⟨_, _, _, ks⟩ := a; rfl
theorem deep_kids (a : Tree) : a.deep = deepL a.kids + 1 := by obtain ⟨_, _, _, ks⟩ := a; rfl
theorem sizeL_next (l : List Tree) (k : Nat) (h : k < l.length) : sizeL (l.take (k + 1)) = sizeL (l.take k) + l[k].size := by rw [List.take_succ_eq_append_getElem h, sizeL_append]; simp [sizeL]
theorem deepL_next (l : List Tree) (k : Nat) (h : k < l.length) : deepL (l.take (k + 1)) = max (deepL (l.take k)) l[k].deep := by rw [List.take_succ_eq_append_getElem h, deepL_append]; simp [deepL]
end Go.Sep

