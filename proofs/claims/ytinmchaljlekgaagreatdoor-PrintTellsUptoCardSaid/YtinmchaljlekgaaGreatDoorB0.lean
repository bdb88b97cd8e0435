/- AlA -/
import Derived.KernelRfl
set_option linter.unusedVariables false
set_option linter.unusedSimpArgs false
set_option maxHeartbeats 6400000
namespace Go
abbrev aa := @List.length_append
abbrev ab := @List.length_cons
abbrev ae := @List.length_nil
abbrev af := @List.Perm.refl
abbrev ag := @List.Perm.swap
abbrev ah := @List.Perm.trans
abbrev ai := @List.Perm.cons
abbrev aj := @Bool.and_eq_true
abbrev ak := @List.getElem?_eq_getElem
abbrev am := @List.append_assoc
abbrev an := @Option.some.injEq
abbrev ao := @decide_eq_true_eq
abbrev ap := @List.getElem?_append_left
abbrev aq := @List.getElem?_append_right
abbrev ar := @Bool.or_eq_true
abbrev au := @List.getElem?_eq_none
abbrev av := @Nat.le_refl
abbrev aw := @Nat.le_trans
abbrev ax := @List.map_cons
abbrev ay := @List.map_nil
abbrev az := @List.cons_append
abbrev aA := @List.nil_append
abbrev aB := @List.getElem_mem
abbrev aC := @Int.toNat_natCast
abbrev aD := @List.length_map
abbrev aE := @Bool.and_true
abbrev aF := @Bool.true_and
abbrev aG := @decide_true
abbrev aH := @decide_eq_true
abbrev aI := @decide_eq_false
abbrev aJ := @List.drop_eq_getElem_cons
abbrev aK := @List.length_replicate
abbrev aL := @List.length_take
abbrev aM := @List.length_drop
abbrev aN := @List.Sublist.cons_cons
abbrev aO := @List.Sublist.cons
abbrev aP := @List.Sublist.refl
abbrev aQ := @List.append_nil
abbrev aR := @Nat.lt_of_lt_of_le
abbrev aS := @List.drop_eq_nil_of_le
abbrev aT := @List.take_of_length_le
abbrev aU := @Nat.zero_le
abbrev aV := @List.take_append_drop
abbrev aW := @Nat.zero_add
abbrev aX := @List.take_succ_eq_append_getElem
abbrev aY := @List.all_cons
abbrev aZ := @List.map_append
abbrev ba := @List.mem_of_mem_take
abbrev bb := @Option.map_some
abbrev bc := @Bool.or_false
abbrev be := @Bool.false_or
abbrev bf := @Bool.and_assoc
abbrev bg := @cond_false
abbrev bh := @cond_true
abbrev bj := @Nat.add_assoc
abbrev bk := @List.drop_zero
theorem uK {p : Prop} (h : p:=by kernel_rfl) : p:=h
end Go
