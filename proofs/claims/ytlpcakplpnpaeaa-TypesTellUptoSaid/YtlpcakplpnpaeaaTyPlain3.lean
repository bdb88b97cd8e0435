/-
  Plain laws of the texts of types.
-/
import Derived.Test.YtlpcakplpnpaeaaTyPlain2
import Derived.Lib.Join
set_option linter.unusedVariables false
set_option linter.unusedSimpArgs false
namespace Go.Sep
def joinS (xs : List Str) (sep : Str) : Str := Lib.join xs sep
def commaS : Str := [44, 32]
def restS (l : List Str) : Str := if l.length = 0 then [] else if l.length = 1 then [32] ++ l.headD [] else [32, 40] ++ joinS l commaS ++ [41]
mutual
def Tree.show : Tree → Str
  | .mk k n u ks => if k = 1 then [105, 110, 116] else if k = 2 then [98, 111, 111, 108] else if k = 3 then [115, 116, 114, 105, 110, 103] else if k = 8 then [110, 105, 108] else if k = 4 then n
    else if k = 5 then [42] ++ (showL ks).headD [] else if k = 6 then [91, 93] ++ (showL ks).headD []
    else [102, 117, 110, 99, 40] ++ joinS ((showL ks).take u.toNat) commaS ++ [41] ++ restS ((showL ks).drop u.toNat)
def showL : List Tree → List Str
  | [] => []
  | t :: ts => t.show :: showL ts
end
theorem showL_eq : ∀ l : List Tree, showL l = l.map Tree.show
  | [] => rfl
  | t :: ts => by rw [showL, showL_eq ts]; rfl
theorem show_eq (a : Tree) : a.show = if a.kind = 1 then [105, 110, 116] else if a.kind = 2 then [98, 111, 111, 108] else if a.kind = 3 then [115, 116, 114, 105, 110, 103] else if a.kind = 8 then [110, 105, 108] else if a.kind = 4 then a.name
    else if a.kind = 5 then [42] ++ (a.kids.map Tree.show).headD [] else if a.kind = 6 then [91, 93] ++ (a.kids.map Tree.show).headD []
    else [102, 117, 110, 99, 40] ++ joinS ((a.kids.map Tree.show).take a.num.toNat) commaS ++ [41] ++ restS ((a.kids.map Tree.show).drop a.num.toNat) := by
  obtain ⟨k, n, u, ks⟩ := a
  simp only [Tree.kind, Tree.name, Tree.num, Tree.kids]
  rw [Tree.show, showL_eq]
  rfl
theorem joinS_le (l : List Str) : (joinS l commaS).length ≤ Lib.lens l + 2 * l.length := by
  cases l with
  | nil => simp [joinS, Lib.join_nil, Lib.lens]
  | cons x r =>
    unfold joinS
    rw [Lib.join_cons, List.length_append, Lib.joinTail_length]
    simp only [Lib.lens, List.map_cons, List.sum_cons, List.length_cons, commaS, List.length_nil]
    omega
theorem lens_append (l r : List Str) : Lib.lens (l ++ r) = Lib.lens l + Lib.lens r := by simp [Lib.lens]
theorem restS_le (l : List Str) : (restS l).length ≤ Lib.lens l + 2 * l.length + 3 := by
  unfold restS
  split
  · simp
  split
  · rename_i h0 h1
    match l, h1 with
    | [x], _ => simp [Lib.lens]
  · have := joinS_le l
    simp only [List.length_append, List.length_cons, List.length_nil]
    omega
mutual
theorem show_len : ∀ a : Tree, a.show.length + 2 ≤ 16 * a.bulk
  | .mk k n u ks => by
    have ih := showL_len ks
    have hh : ((showL ks).headD []).length ≤ Lib.lens (showL ks) := by
      cases showL ks with
      | nil => simp
      | cons x r => simp [Lib.lens]
    have h1 := joinS_le ((showL ks).take u.toNat)
    have h2 := restS_le ((showL ks).drop u.toNat)
    have h3 := lens_append ((showL ks).take u.toNat) ((showL ks).drop u.toNat)
    have h4 := congrArg List.length (List.take_append_drop u.toNat (showL ks))
    rw [List.take_append_drop] at h3
    rw [List.length_append] at h4
    have h5 : (showL ks).length = ks.length := by rw [showL_eq, List.length_map]
    rw [Tree.show]
    simp only [Tree.bulk]
    repeat' split
    all_goals (try simp only [List.length_append, List.length_cons, List.length_nil]); omega
theorem showL_len : ∀ l : List Tree, Lib.lens (showL l) + 2 * l.length ≤ 16 * bulkL l
  | [] => by simp [showL, Lib.lens, bulkL]
  | t :: ts => by
    have h1 := show_len t
    have h2 := showL_len ts
    simp only [showL, Lib.lens, List.map_cons, List.sum_cons, bulkL, List.length_cons] at *
    omega
end
theorem formed_kinds {a : Tree} (h : a.formed = true) : (∀ k ∈ a.kids, k.formed = true) ∧ ((a.kind = 1 ∨ a.kind = 2 ∨ a.kind = 3 ∨ a.kind = 8 ∨ a.kind = 4) ∨ ((a.kind = 5 ∨ a.kind = 6) ∧ a.kids.length = 1) ∨ (a.kind = 7 ∧ 0 ≤ a.num ∧ a.num ≤ (a.kids.length : Int))) := by
  rw [formed_eq, Bool.and_eq_true, Bool.and_eq_true] at h
  obtain ⟨h1, h2, h3⟩ := h
  refine ⟨fun k hk => ?_, ?_⟩
  · rw [formedL_eq, List.all_eq_true] at h1
    have := h1 k hk
    rw [Bool.and_eq_true] at this
    exact this.2
  · unfold kindB at h3
    split at h3
    · left; omega
    split at h3
    · left; omega
    split at h3
    · exact .inr (.inl ⟨by assumption, of_decide_eq_true h3⟩)
    split at h3
    · simp only [Bool.and_eq_true, decide_eq_true_eq] at h3
      exact .inr (.inr ⟨by assumption, h3.1, h3.2⟩)
    · cases h3
end Go.Sep
