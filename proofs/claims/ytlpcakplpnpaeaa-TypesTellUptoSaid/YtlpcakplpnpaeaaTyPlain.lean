/-
  Plain laws of trees: bulk, size, depth, which trees are types.
-/
import Derived.Test.YtlpcakplpnpaeaaTyName
set_option linter.unusedVariables false
set_option linter.unusedSimpArgs false
namespace Go.Sep

mutual
def Tree.bulk : Tree → Nat
  | .mk _ n _ ks => 1 + n.length + bulkL ks
def bulkL : List Tree → Nat
  | [] => 0
  | t :: ts => t.bulk + bulkL ts
end
theorem bulkL_mem : ∀ {l : List Tree} {t : Tree}, t ∈ l → t.bulk ≤ bulkL l
  | x :: xs, t, h => by
    rcases List.mem_cons.1 h with rfl | h
    · simp only [bulkL]; omega
    · have := bulkL_mem h; simp only [bulkL]; omega
theorem bulk_kid {a t : Tree} (h : t ∈ a.kids) : t.bulk < a.bulk := by
  obtain ⟨k, n, u, ks⟩ := a
  have := bulkL_mem h
  simp only [Tree.kids, Tree.bulk] at *
  omega
theorem bulk_name (a : Tree) : a.name.length < a.bulk := by
  obtain ⟨k, n, u, ks⟩ := a
  simp only [Tree.name, Tree.bulk]
  omega
theorem bulk_len : ∀ l : List Tree, l.length ≤ bulkL l
  | [] => by simp [bulkL]
  | t :: ts => by
    have := bulk_len ts
    obtain ⟨k, n, u, ks⟩ := t
    simp only [bulkL, Tree.bulk, List.length_cons]
    omega

mutual
def Tree.size : Tree → Nat
  | .mk _ _ _ ks => 1 + sizeL ks
def sizeL : List Tree → Nat
  | [] => 0
  | t :: ts => t.size + sizeL ts
end
mutual
def Tree.deep : Tree → Nat
  | .mk _ _ _ ks => deepL ks + 1
def deepL : List Tree → Nat
  | [] => 0
  | t :: ts => max t.deep (deepL ts)
end
mutual
theorem size_bulk : ∀ a : Tree, a.size ≤ a.bulk
  | .mk _ n _ ks => by
    have := sizeL_bulk ks
    simp only [Tree.size, Tree.bulk]
    omega
theorem sizeL_bulk : ∀ l : List Tree, sizeL l ≤ bulkL l
  | [] => by simp [sizeL, bulkL]
  | t :: ts => by
    have h1 := size_bulk t
    have h2 := sizeL_bulk ts
    simp only [sizeL, bulkL]
    omega
end
mutual
theorem deep_size : ∀ a : Tree, a.deep ≤ a.size
  | .mk _ n _ ks => by
    have := deepL_size ks
    simp only [Tree.size, Tree.deep]
    omega
theorem deepL_size : ∀ l : List Tree, deepL l ≤ sizeL l
  | [] => by simp [sizeL, deepL]
  | t :: ts => by
    have h1 := deep_size t
    have h2 := deepL_size ts
    simp only [sizeL, deepL]
    omega
end
theorem size_pos (a : Tree) : 1 ≤ a.size := by obtain ⟨k, n, u, ks⟩ := a; simp only [Tree.size]; omega
theorem sizeL_append : ∀ l r : List Tree, sizeL (l ++ r) = sizeL l + sizeL r
  | [], r => by simp [sizeL]
  | t :: ts, r => by have := sizeL_append ts r; simp only [List.cons_append, sizeL]; omega
theorem deepL_append : ∀ l r : List Tree, deepL (l ++ r) = max (deepL l) (deepL r)
  | [], r => by simp [deepL]
  | t :: ts, r => by have := deepL_append ts r; simp only [List.cons_append, deepL]; omega

theorem sizeL_take (l : List Tree) (k : Nat) : sizeL (l.take k) ≤ sizeL l := by
  have := sizeL_append (l.take k) (l.drop k)
  rw [List.take_append_drop] at this
  omega
theorem deepL_take (l : List Tree) (k : Nat) : deepL (l.take k) ≤ deepL l := by
  have := deepL_append (l.take k) (l.drop k)
  rw [List.take_append_drop] at this
  omega
theorem sizeL_drop (l : List Tree) (k : Nat) : sizeL (l.take k) + sizeL (l.drop k) = sizeL l := by
  rw [← sizeL_append, List.take_append_drop]
theorem len_sizeL : ∀ l : List Tree, l.length ≤ sizeL l
  | [] => by simp [sizeL]
  | t :: ts => by
    have := len_sizeL ts
    have := size_pos t
    simp only [sizeL, List.length_cons]
    omega
theorem size_kids (a : Tree) : a.size = 1 + sizeL a.kids := by obtain ⟨_, _, _, ks⟩ := a; rfl
theorem deep_kids (a : Tree) : a.deep = deepL a.kids + 1 := by obtain ⟨_, _, _, ks⟩ := a; rfl
theorem sizeL_next (l : List Tree) (k : Nat) (h : k < l.length) : sizeL (l.take (k + 1)) = sizeL (l.take k) + l[k].size := by rw [List.take_succ_eq_append_getElem h, sizeL_append]; simp [sizeL]
theorem deepL_next (l : List Tree) (k : Nat) (h : k < l.length) : deepL (l.take (k + 1)) = max (deepL (l.take k)) l[k].deep := by rw [List.take_succ_eq_append_getElem h, deepL_append]; simp [deepL]

mutual
def Tree.isType : Tree → Bool
  | .mk k n u ks =>
    if k = 10 then decide (u = 0) && (isName n && decide (ks.length = 0))
    else if k = 11 ∨ k = 12 then decide (n = []) && (decide (u = 0) && (decide (ks.length = 1) && allType ks))
    else if k = 13 then decide (n = []) && (decide (0 ≤ u) && (decide (u ≤ (ks.length : Int)) && allType ks))
    else false
def allType : List Tree → Bool
  | [] => true
  | t :: ts => t.isType && allType ts
end
theorem allType_eq : ∀ l : List Tree, allType l = l.all Tree.isType
  | [] => rfl
  | t :: ts => by rw [allType, allType_eq ts, List.all_cons]
theorem isType_eq (a : Tree) : a.isType =
    if a.kind = 10 then decide (a.num = 0) && (isName a.name && decide (a.kids.length = 0))
    else if a.kind = 11 ∨ a.kind = 12 then decide (a.name = []) && (decide (a.num = 0) && (decide (a.kids.length = 1) && a.kids.all Tree.isType))
    else if a.kind = 13 then decide (a.name = []) && (decide (0 ≤ a.num) && (decide (a.num ≤ (a.kids.length : Int)) && a.kids.all Tree.isType))
    else false := by
  obtain ⟨k, n, u, ks⟩ := a
  simp only [Tree.kind, Tree.name, Tree.num, Tree.kids]
  rw [Tree.isType, allType_eq]
  rfl
def Tree.isParam (a : Tree) : Bool := decide (a.kind = 8) && (decide (a.num = 0) && (isName a.name && (decide (a.kids.length = 1) && a.kids.all Tree.isType)))
def Tree.isSig (a : Tree) : Bool := decide (a.kind = 7) && (decide (a.name = []) && (decide (0 ≤ a.num) && (decide (a.num ≤ (a.kids.length : Int)) && ((a.kids.take a.num.toNat).all Tree.isParam && (a.kids.drop a.num.toNat).all Tree.isType))))

/- the type of a sound node -/
mutual
def Tree.ofT : Tree → Tree
  | .mk k n u ks => if k = 10 then (if basicOf n = 0 then .mk 4 n 0 [] else .mk (basicOf n) [] 0 []) else if k = 8 then ofHead ks else .mk (if k = 11 then 5 else if k = 12 then 6 else 7) [] u (ofL ks)
def ofL : List Tree → List Tree
  | [] => []
  | t :: ts => t.ofT :: ofL ts
def ofHead : List Tree → Tree
  | [] => .mk 0 [] 0 []
  | t :: _ => t.ofT
end
theorem ofL_eq : ∀ l : List Tree, ofL l = l.map Tree.ofT
  | [] => rfl
  | t :: ts => by rw [ofL, ofL_eq ts]; rfl
def okNode (a : Tree) : Bool := a.isType || (a.isParam || a.isSig)
theorem isType_node {a : Tree} (h : a.isType = true) : okNode a = true := by unfold okNode; rw [h]; rfl

theorem isType_facts {a : Tree} (h : a.isType = true) : (a.kind = 10 ∧ a.num = 0 ∧ a.kids = []) ∨ ((a.kind = 11 ∨ a.kind = 12) ∧ a.num = 0 ∧ ∀ k ∈ a.kids, k.isType = true) ∨ (a.kind = 13 ∧ ∀ k ∈ a.kids, k.isType = true) := by
  rw [isType_eq] at h
  split at h
  · simp only [Bool.and_eq_true, decide_eq_true_eq] at h
    exact .inl ⟨by assumption, h.1, List.length_eq_zero_iff.1 h.2.2⟩
  split at h
  · simp only [Bool.and_eq_true, decide_eq_true_eq, List.all_eq_true] at h
    exact .inr (.inl ⟨by assumption, h.2.1, h.2.2.2⟩)
  split at h
  · simp only [Bool.and_eq_true, decide_eq_true_eq, List.all_eq_true] at h
    exact .inr (.inr ⟨by assumption, h.2.2.2⟩)
  · cases h
theorem isParam_facts {a : Tree} (h : a.isParam = true) : a.kind = 8 ∧ ∃ k, a.kids = [k] ∧ k.isType = true := by
  unfold Tree.isParam at h
  simp only [Bool.and_eq_true, decide_eq_true_eq, List.all_eq_true] at h
  obtain ⟨h1, _, _, h2, h3⟩ := h
  match hk : a.kids with
  | [] => rw [hk] at h2; cases h2
  | [k] => exact ⟨h1, k, rfl, h3 k (by rw [hk]; simp)⟩
  | _ :: _ :: _ => rw [hk] at h2; simp at h2
theorem isSig_facts {a : Tree} (h : a.isSig = true) : a.kind = 7 ∧ ∀ k ∈ a.kids, okNode k = true := by
  unfold Tree.isSig at h
  simp only [Bool.and_eq_true, decide_eq_true_eq, List.all_eq_true] at h
  obtain ⟨h1, _, _, _, h2, h3⟩ := h
  refine ⟨h1, fun k hk => ?_⟩
  rw [← List.take_append_drop a.num.toNat a.kids, List.mem_append] at hk
  rcases hk with hk | hk
  · unfold okNode; rw [h2 k hk]; simp
  · exact isType_node (h3 k hk)
/-- the ways a sound node may be -/
theorem okNode_facts {a : Tree} (h : okNode a = true) : (a.kind = 10 ∧ a.num = 0 ∧ a.kids = []) ∨ ((a.kind = 11 ∨ a.kind = 12) ∧ a.num = 0 ∧ ∀ k ∈ a.kids, okNode k = true) ∨ ((a.kind = 13 ∨ a.kind = 7) ∧ ∀ k ∈ a.kids, okNode k = true) ∨ (a.kind = 8 ∧ ∃ k, a.kids = [k] ∧ okNode k = true) := by
  unfold okNode at h
  rw [Bool.or_eq_true, Bool.or_eq_true] at h
  rcases h with h | h | h
  · rcases isType_facts h with h | ⟨h1, h2, h3⟩ | ⟨h1, h3⟩
    · exact .inl h
    · exact .inr (.inl ⟨h1, h2, fun k hk => isType_node (h3 k hk)⟩)
    · exact .inr (.inr (.inl ⟨.inl h1, fun k hk => isType_node (h3 k hk)⟩))
  · obtain ⟨h1, k, h2, h3⟩ := isParam_facts h
    exact .inr (.inr (.inr ⟨h1, k, h2, isType_node h3⟩))
  · obtain ⟨h1, h2⟩ := isSig_facts h
    exact .inr (.inr (.inl ⟨.inr h1, h2⟩))
theorem ofT_eq (a : Tree) : a.ofT = if a.kind = 10 then (if basicOf a.name = 0 then .mk 4 a.name 0 [] else .mk (basicOf a.name) [] 0 []) else if a.kind = 8 then ofHead a.kids else .mk (if a.kind = 11 then 5 else if a.kind = 12 then 6 else 7) [] a.num (a.kids.map Tree.ofT) := by
  obtain ⟨k, n, u, ks⟩ := a
  simp only [Tree.kind, Tree.name, Tree.num, Tree.kids]
  rw [Tree.ofT, ofL_eq]
  rfl
end Go.Sep
