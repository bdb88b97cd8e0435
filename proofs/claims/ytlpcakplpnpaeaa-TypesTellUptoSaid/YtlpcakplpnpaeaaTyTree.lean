/-
  Trees of nodes (a number, a name, a number, kids): how they lie in memory.
-/
import Derived.Test.YtlpcakplpnpaeaaSepP
set_option linter.unusedVariables false
set_option linter.unusedSimpArgs false
namespace Go.Sep

inductive Tree where
  | mk (kind : Int) (name : Str) (num : Int) (kids : List Tree)
def Tree.kind : Tree → Int | .mk k _ _ _ => k
def Tree.name : Tree → Str | .mk _ n _ _ => n
def Tree.num : Tree → Int | .mk _ _ u _ => u
def Tree.kids : Tree → List Tree | .mk _ _ _ ks => ks

theorem Tree.ind {P : Tree → Prop} (h : ∀ t, (∀ k ∈ t.kids, P k) → P t) (t : Tree) : P t :=
  Tree.rec (motive_1 := P) (motive_2 := fun l => ∀ k ∈ l, P k) (fun kind name num kids ih => h (.mk kind name num kids) ih) (fun k hk => by cases hk)
    (fun a l ha hl k hk => by
      rcases List.mem_cons.1 hk with rfl | hk
      · exact ha
      · exact hl k hk) t

structure HTree where
  kind : Int
  name : Str
  num : Int
  kids : Sl

@[reducible] def treeC (h : HTree) : List Value := [.int .i64 h.kind, strV h.name, .int .i64 h.num, h.kids.v]
@[reducible] def treeV (h : HTree) : Value := .agg ⟨[.int .i64 h.kind, strV h.name, .int .i64 h.num, h.kids.v]⟩

def RT : Type := { rep : Mem → HTree → Tree → Prop // ∀ m m' h a, m ≤ m' → rep m h a → rep m' h a }
def mkR (x : RT) : R HTree Tree where
  size := 4
  bytes := 56
  enc := treeC
  rep := x.1
  enc_len _ := rfl
  one _ := rfl
  mono hm h := x.2 _ _ _ _ hm h
def rtN : Nat → RT
  | 0 => ⟨fun _ _ _ => False, fun _ _ _ _ _ h => h⟩
  | n + 1 => ⟨fun m h a => h.kind = a.kind ∧ h.name = a.name ∧ h.num = a.num ∧ SlRep (mkR (rtN n)) m h.kids a.kids, fun _ _ _ _ hm h => ⟨h.1, h.2.1, h.2.2.1, h.2.2.2.mono hm⟩⟩
def rTree : R HTree Tree := mkR ⟨fun m h a => ∃ n, (rtN n).1 m h a, fun _ _ h a hm ⟨n, hn⟩ => ⟨n, (rtN n).2 _ _ _ _ hm hn⟩⟩

theorem SlRep.imp {x y : RT} {m : Mem} (hxy : ∀ h a, x.1 m h a → y.1 m h a) {s : Sl} {l : List Tree} (h : SlRep (mkR x) m s l) : SlRep (mkR y) m s l := by
  obtain ⟨hs, h1, h2⟩ := h.cells
  exact ⟨h.len, h.cap, h.fit, hs, All2.mono hxy h1, h2⟩
theorem rtN_up (m : Mem) : ∀ (n : Nat) (h : HTree) (a : Tree), (rtN n).1 m h a → (rtN (n + 1)).1 m h a
  | 0, _, _, h => h.elim
  | n + 1, _, _, h => ⟨h.1, h.2.1, h.2.2.1, SlRep.imp (rtN_up m n) h.2.2.2⟩
theorem rtN_le (m : Mem) {n k : Nat} (hk : n ≤ k) (h : HTree) (a : Tree) (hr : (rtN n).1 m h a) : (rtN k).1 m h a := by
  induction hk with
  | refl => exact hr
  | step _ ih => exact rtN_up m _ h a ih

theorem all2_common {m : Mem} : ∀ (hs : List HTree) (l : List Tree), All2 (rTree.rep m) hs l → ∃ n, All2 ((rtN n).1 m) hs l
  | [], [], _ => ⟨0, trivial⟩
  | h :: hs, a :: l, hh => by
    obtain ⟨n1, h1⟩ := hh.1
    obtain ⟨n2, h2⟩ := all2_common hs l hh.2
    exact ⟨max n1 n2, rtN_le m (Nat.le_max_left _ _) h a h1, All2.mono (fun h a => rtN_le m (Nat.le_max_right _ _) h a) h2⟩
  | [], _ :: _, hh => hh.elim
  | _ :: _, [], hh => hh.elim

structure TreeRep (m : Mem) (h : HTree) (a : Tree) : Prop where
  kind : h.kind = a.kind
  name : h.name = a.name
  num : h.num = a.num
  kids : SlRep rTree m h.kids a.kids

theorem rTree_iff {m : Mem} {h : HTree} {a : Tree} : rTree.rep m h a ↔ TreeRep m h a := by
  constructor
  · rintro ⟨n, hn⟩
    cases n with
    | zero => exact hn.elim
    | succ n => exact ⟨hn.1, hn.2.1, hn.2.2.1, SlRep.imp (x := rtN n) (y := ⟨fun m h a => ∃ n, (rtN n).1 m h a, fun _ _ h a hm ⟨n, hn⟩ => ⟨n, (rtN n).2 _ _ _ _ hm hn⟩⟩) (fun h a hh => ⟨n, hh⟩) hn.2.2.2⟩
  · rintro ⟨h1, h2, h3, h4⟩
    obtain ⟨hs, k1, k2⟩ := h4.cells
    obtain ⟨n, hn⟩ := all2_common hs _ k1
    exact ⟨n + 1, h1, h2, h3, h4.len, h4.cap, h4.fit, hs, hn, k2⟩
theorem TreeRep.mono {m m' : Mem} {h : HTree} {a : Tree} (hr : TreeRep m h a) (hm : m ≤ m') : TreeRep m' h a := ⟨hr.kind, hr.name, hr.num, hr.kids.mono hm⟩
end Go.Sep
