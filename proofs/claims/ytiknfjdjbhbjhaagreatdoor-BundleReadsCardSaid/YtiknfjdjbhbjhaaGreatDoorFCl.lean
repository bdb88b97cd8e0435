/-
  The closure of calls, and what is asked of it, by tables of the program's functions: plain.
-/
import GoSem.ClaimSeven
import GoSem.ClaimGoes
set_option linter.unusedVariables false
namespace Go.Cl
open Go
/-- the closure, with a set of bits for what was seen -/
def cl (lt : Nat → List Nat) : Nat → List Nat → List Nat → Nat → List Nat
  | 0, _, seen, _ => seen.reverse
  | _ + 1, [], seen, _ => seen.reverse
  | n + 1, f :: todo, seen, mask => if mask.testBit f then cl lt n todo seen mask else cl lt n (lt f ++ todo) (f :: seen) (mask ||| (1 <<< f))
theorem bit_cons {mask f : Nat} {seen : List Nat} (h : ∀ g, mask.testBit g = seen.contains g) (g : Nat) : (mask ||| (1 <<< f)).testBit g = (f :: seen).contains g := by
  rw [Nat.testBit_or, h g, Nat.one_shiftLeft, Nat.testBit_two_pow, List.contains_cons, Bool.or_comm]
  congr 1
  by_cases e : f = g
  · subst e; simp
  · simp [e, Ne.symm e]
theorem via_cl {P : Program} {lt : Nat → List Nat} (h : ∀ g, (P.funcs[g]?).elim [] P.leadsTo = lt g) : ∀ (n : Nat) (todo seen : List Nat) (mask : Nat), (∀ g, mask.testBit g = seen.contains g) → P.closureVia n todo seen = cl lt n todo seen mask
  | 0, _, _, _, _ => by simp [Program.closureVia, cl]
  | n + 1, [], _, _, _ => by simp [Program.closureVia, cl]
  | n + 1, f :: todo, seen, mask, hm => by
    rw [Program.closureVia, cl, hm f]
    cases hc : seen.contains f with
    | true => simp only [if_true]; exact via_cl h n _ _ _ hm
    | false =>
      simp only [Bool.false_eq_true, if_false]
      rw [h f]
      exact via_cl h n _ _ _ (bit_cons hm)
/-- a table in rows of 27 -/
def tg {α : Type} (t : List (List α)) (g : Nat) : Option α := (t[g / 27]?).bind (·[g % 27]?)
def okT {α : Type} : List (List α) → Bool
  | [] => true
  | [c] => Nat.ble c.length 27
  | c :: d :: cs => Nat.beq c.length 27 && okT (d :: cs)
theorem tg_flat {α : Type} : ∀ (t : List (List α)), okT t = true → ∀ g, t.flatten[g]? = tg t g
  | [], _, g => by simp [tg]
  | [c], h, g => by
    have hl : c.length ≤ 27 := Nat.le_of_ble_eq_true h
    rw [List.flatten_cons, List.flatten_nil, List.append_nil, tg]
    rcases Nat.lt_or_ge g 27 with h1 | h1
    · rw [Nat.div_eq_of_lt h1, Nat.mod_eq_of_lt h1]; rfl
    · rw [List.getElem?_eq_none (by omega), List.getElem?_eq_none (by simp; omega)]; rfl
  | c :: d :: cs, h, g => by
    simp only [okT, Bool.and_eq_true] at h
    have hl : c.length = 27 := Nat.eq_of_beq_eq_true h.1
    have ih := tg_flat (d :: cs) h.2
    rw [List.flatten_cons]
    rcases Nat.lt_or_ge g 27 with h1 | h1
    · rw [List.getElem?_append_left (by omega), tg, Nat.div_eq_of_lt h1, Nat.mod_eq_of_lt h1]; rfl
    · rw [List.getElem?_append_right (by omega), hl, ih, tg, tg]
      rw [show g / 27 = (g - 27) / 27 + 1 by omega, show g % 27 = (g - 27) % 27 by omega, List.getElem?_cons_succ]
theorem tab_of {P : Program} {R : List (List Func)} (hR : P.funcs.toList = R.flatten) {β : Type} {q : Func → β} {T : List (List β)} (hT : R.map (·.map q) = T) (ok : okT T = true) (g : Nat) : (P.funcs[g]?).map q = tg T g := by
  rw [← tg_flat T ok g, ← hT, ← List.map_flatten, ← hR, List.getElem?_map, Array.getElem?_toList]
theorem closure_of {P : Program} {R : List (List Func)} (hR : P.funcs.toList = R.flatten) {T : List (List (List Nat))} (hT : R.map (·.map P.leadsTo) = T) (ok : okT T = true) {N : Nat} (hN : 1 + (T.flatten.map fun l => l.length + 1).sum = N) (f : FuncId) :
    P.closure f = cl (fun g => (tg T g).getD []) N [f] [] 0 := by
  have h1 : (P.funcs.toList.map fun g => (P.leadsTo g).length + 1) = T.flatten.map fun l => l.length + 1 := by
    rw [← hT, ← List.map_flatten, ← hR, List.map_map]; rfl
  unfold Program.closure
  rw [h1, hN]
  refine via_cl (fun g => ?_) N [f] [] 0 (fun g => by simp)
  rw [← tab_of hR hT ok g]
  cases P.funcs[g]? <;> rfl
def ipq (fn : Func) : Option String := if fn.ours || fn.body.isNone || fn.name == "runtime.NumGoroutine" then some fn.name else none
def ufq (fn : Func) : Bool := match fn.body with | some c => c.unfollowed | none => entryCalls fn
def gnq (fn : Func) : List Nat := fn.body.elim [] Code.globalsNamed
def erq (fn : Func) : Option String := if fn.body.isNone then entryReads.lookup fn.name else none
theorem inPlace_of {P : Program} {R : List (List Func)} (hR : P.funcs.toList = R.flatten) {T : List (List (Option String))} (hT : R.map (·.map ipq) = T) (ok : okT T = true) {f : FuncId} {L : List Nat} (hL : P.closure f = L) :
    P.inPlace f = L.filterMap fun g => (tg T g).bind id := by
  unfold Program.inPlace
  rw [hL]
  congr 1
  funext g
  rw [← tab_of hR hT ok g]
  cases P.funcs[g]? <;> rfl
theorem unfollowed_of {P : Program} {R : List (List Func)} (hR : P.funcs.toList = R.flatten) {T : List (List Bool)} (hT : R.map (·.map ufq) = T) (ok : okT T = true) {f : FuncId} {L : List Nat} (hL : P.closure f = L) :
    P.unfollowed f = L.any fun g => (tg T g).getD false := by
  unfold Program.unfollowed
  rw [hL]
  congr 1
  funext g
  rw [← tab_of hR hT ok g]
  cases P.funcs[g]? <;> rfl
theorem recurses_of {P : Program} {f : FuncId} (h : P.unfollowed f = true) : P.recurses f = true := by
  unfold Program.recurses
  rw [h]; rfl
theorem varsNamed_of {P : Program} {R : List (List Func)} (hR : P.funcs.toList = R.flatten) {T : List (List (List Nat))} (hT : R.map (·.map gnq) = T) (ok : okT T = true) {T2 : List (List (Option String))} (hT2 : R.map (·.map erq) = T2) (ok2 : okT T2 = true)
    {f : FuncId} {L : List Nat} (hL : P.closure f = L) :
    P.varsNamed f = (((L.flatMap fun g => (tg T g).getD []).eraseDups).filterMap (fun g => (P.globals[g]?).map (·.name)) ++ L.filterMap fun g => (tg T2 g).bind id).eraseDups := by
  unfold Program.varsNamed
  rw [hL]
  have e1 : (fun g => ((P.funcs[g]?).bind (·.body)).elim [] Code.globalsNamed) = fun g => (tg T g).getD [] := by
    funext g
    rw [← tab_of hR hT ok g]
    cases P.funcs[g]? with
    | none => rfl
    | some fn => cases hb : fn.body <;> simp [gnq, hb]
  have e2 : (fun g => (P.funcs[g]?).bind fun fn => if fn.body.isNone then entryReads.lookup fn.name else none) = fun g => (tg T2 g).bind id := by
    funext g
    rw [← tab_of hR hT2 ok2 g]
    cases P.funcs[g]? <;> rfl
  rw [e1, e2]
theorem goes_of {P : Program} (h : P.funcs.toList.any Func.goes = false) (f : FuncId) : P.goes f = false := by
  have h0 : P.funcs.any Func.goes = false := by rw [← Array.any_toList]; exact h
  have h2 : ∀ g : Nat, (P.funcs[g]?).any Func.goes = false := fun g => by
    cases hg : P.funcs[g]? with
    | none => rfl
    | some fn =>
      have hm : fn ∈ P.funcs.toList := by
        rw [← Array.getElem?_toList] at hg
        exact List.mem_of_getElem? hg
      cases hb : fn.goes with
      | false => simp [hb]
      | true => rw [List.any_eq_true.2 ⟨fn, hm, hb⟩] at h; cases h
  unfold Program.goes
  rw [h0, Bool.and_false, Bool.or_false]
  rw [List.any_eq_false]
  intro g _
  simp [h2 g]
end Go.Cl
