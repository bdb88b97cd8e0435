/- PsGood -/
import Derived.Test.YtlfiikhclgeadaaGreatDoorB10
set_option linter.unusedVariables false
set_option linter.unusedSimpArgs false
namespace Go.Ps
open Go.Sep
variable {α β γ : Type}
def Res.up (c : Nat) : Res α → Res α
 | .ok a k => .ok a (k + c)
 | .bad k => .bad (k + c)
 | .out => .out
structure Cut (f f' : F) (q : Nat) : Prop where
 lo : ∀ i, i < q → f' i = f i
 hi : ∀ i, q ≤ i → f' i = none
structure Good (p : Pp α) : Prop where
 le : ∀ {f : F} {k : Nat} {a : α} {k' : Nat}, p f k = .ok a k' → k ≤ k'
 leb : ∀ {f : F} {k k' : Nat}, p f k = .bad k' → k ≤ k'
 agree : ∀ {f f' : F} {q : Nat}, (∀ i, i < q → f' i = f i) → ∀ {k : Nat} {a : α} {k' : Nat}, p f k = .ok a k' → k' < q → p f' k = .ok a k'
 agreeb : ∀ {f f' : F} {q : Nat}, (∀ i, i < q → f' i = f i) → ∀ {k k' : Nat}, p f k = .bad k' → k' < q → p f' k = .bad k'
 cut : ∀ {f f' : F} {q : Nat}, Cut f f' q → ∀ {k : Nat}, p f k = .bad q → p f' k = .bad q ∨ p f' k = .out
 cutk : ∀ {f f' : F} {q : Nat}, Cut f f' q → ∀ {k : Nat} {a : α}, p f k = .ok a q → p f' k = .ok a q ∨ p f' k = .bad q ∨ p f' k = .out
 shift : ∀ (f : F) (c k : Nat), p f (k + c) = (p (fun i => f (i + c)) k).up c
theorem Good.ret (a : α) : Good (ret a) where
 le h := by injection h with _ h; omega
 leb h := by cases h
 agree _ _ _ _ h _ := h
 agreeb _ _ _ h _ := by cases h
 cut _ _ h := by cases h
 cutk _ _ _ h := .inl h
 shift _ _ _ := rfl
theorem Good.fail : Good (fail : Pp α) where
 le h := by cases h
 leb h := by injection h with h; omega
 agree _ _ _ _ h _ := by cases h
 agreeb _ _ _ h _ := h
 cut _ _ h := .inl h
 cutk _ _ _ h := by cases h
 shift _ _ _ := rfl
theorem Good.dry : Good (dry : Pp α) where
 le h := by cases h
 leb h := by cases h
 agree _ _ _ _ h _ := by cases h
 agreeb _ _ _ h _ := by cases h
 cut _ _ h := by cases h
 cutk _ _ _ h := by cases h
 shift _ _ _ := rfl
theorem bind_ok {p : Pp α} {g : α → Pp β} {f : F} {k k' : Nat} {a : α} (h : p f k = .ok a k') : bind p g f k = g a f k' := by unfold bind; rw [h]
theorem bind_bad {p : Pp α} {g : α → Pp β} {f : F} {k k' : Nat} (h : p f k = .bad k') : bind p g f k = .bad k' := by unfold bind; rw [h]
theorem bind_out {p : Pp α} {g : α → Pp β} {f : F} {k : Nat} (h : p f k = .out) : bind p g f k = .out := by unfold bind; rw [h]
theorem bind_ok_iff {p : Pp α} {g : α → Pp β} {f : F} {k k' : Nat} {b : β} (h : bind p g f k = .ok b k') : ∃ a k1, p f k = .ok a k1 ∧ g a f k1 = .ok b k' := by
 cases hp : p f k with
 | ok a k1 => exact ⟨a, k1, rfl, by rw [← h, bind_ok hp]⟩
 | bad k1 => rw [bind_bad hp] at h; cases h
 | out => rw [bind_out hp] at h; cases h
theorem bind_bad_iff {p : Pp α} {g : α → Pp β} {f : F} {k k' : Nat} (h : bind p g f k = .bad k') : p f k = .bad k' ∨ ∃ a k1, p f k = .ok a k1 ∧ g a f k1 = .bad k' := by
 cases hp : p f k with
 | ok a k1 => exact .inr ⟨a, k1, rfl, by rw [← h, bind_ok hp]⟩
 | bad k1 => rw [bind_bad hp] at h; injection h with h; exact .inl (by rw [h])
 | out => rw [bind_out hp] at h; cases h
theorem Good.bind {p : Pp α} {g : α → Pp β} (hp : Good p) (hg : ∀ a, Good (g a)) : Good (bind p g) where
 le h := by
  obtain ⟨a, k1, h1, h2⟩ := bind_ok_iff h
  exact Nat.le_trans (hp.le h1) ((hg a).le h2)
 leb h := by
  rcases bind_bad_iff h with h1 | ⟨a, k1, h1, h2⟩
  ·exact hp.leb h1
  ·exact Nat.le_trans (hp.le h1) ((hg a).leb h2)
 agree hf k a k' h hk := by
  obtain ⟨a, k1, h1, h2⟩ := bind_ok_iff h
  rw [bind_ok (hp.agree hf h1 (Nat.lt_of_le_of_lt ((hg a).le h2) hk))]
  exact (hg a).agree hf h2 hk
 agreeb hf k k' h hk := by
  rcases bind_bad_iff h with h1 | ⟨a, k1, h1, h2⟩
  ·exact bind_bad (hp.agreeb hf h1 hk)
  ·rw [bind_ok (hp.agree hf h1 (Nat.lt_of_le_of_lt ((hg a).leb h2) hk))]
   exact (hg a).agreeb hf h2 hk
 cut {f f' q} hc k h := by
  rcases bind_bad_iff h with h1 | ⟨a, k1, h1, h2⟩
  ·rcases hp.cut hc h1 with h3 | h3
   ·exact .inl (bind_bad h3)
   ·exact .inr (bind_out h3)
  ·have hk1 := (hg a).leb h2
   rcases Nat.lt_or_eq_of_le hk1 with hk | hk
   ·rw [bind_ok (hp.agree hc.lo h1 hk)]
    exact (hg a).cut hc h2
   ·subst hk
    rcases hp.cutk hc h1 with h3 | h3 | h3
    ·rw [bind_ok h3]; exact (hg a).cut hc h2
    ·exact .inl (bind_bad h3)
    ·exact .inr (bind_out h3)
 cutk {f f' q} hc k b h := by
  obtain ⟨a, k1, h1, h2⟩ := bind_ok_iff h
  have hk1 := (hg a).le h2
  rcases Nat.lt_or_eq_of_le hk1 with hk | hk
  ·rw [bind_ok (hp.agree hc.lo h1 hk)]
   exact (hg a).cutk hc h2
  ·subst hk
   rcases hp.cutk hc h1 with h3 | h3 | h3
   ·rw [bind_ok h3]; exact (hg a).cutk hc h2
   ·exact .inr (.inl (bind_bad h3))
   ·exact .inr (.inr (bind_out h3))
 shift f c k := by
  have h1 := hp.shift f c k
  cases hr : p (fun i => f (i + c)) k with
  | ok a k1 => rw [bind_ok hr, bind_ok (by rw [h1, hr]; rfl)]; exact (hg a).shift f c k1
  | bad k1 => rw [bind_bad hr, bind_bad (by rw [h1, hr]; rfl)]; rfl
  | out => rw [bind_out hr, bind_out (by rw [h1, hr]; rfl)]; rfl
def look (d : Option Tk → Option γ) (A : γ → Pp α) (B : Pp α) : Pp α := fun f k =>
 match d (f k) with
 | some x => A x f (k + 1)
 | none => B f k
theorem look_some {d : Option Tk → Option γ} {A : γ → Pp α} {B : Pp α} {f : F} {k : Nat} {x : γ} (h : d (f k) = some x) : look d A B f k = A x f (k + 1) := by unfold look; rw [h]
theorem look_none {d : Option Tk → Option γ} {A : γ → Pp α} {B : Pp α} {f : F} {k : Nat} (h : d (f k) = none) : look d A B f k = B f k := by unfold look; rw [h]
theorem Good.look {d : Option Tk → Option γ} {A : γ → Pp α} {B : Pp α} (hd : d none = none) (hA : ∀ x, Good (A x)) (hB : Good B) : Good (look d A B) where
 le {f k a k'} h := by
  cases hx : d (f k) with
  | some x => rw [look_some hx] at h; have := (hA x).le h; omega
  | none => rw [look_none hx] at h; exact hB.le h
 leb {f k k'} h := by
  cases hx : d (f k) with
  | some x => rw [look_some hx] at h; have := (hA x).leb h; omega
  | none => rw [look_none hx] at h; exact hB.leb h
 agree {f f' q} hf k a k' h hk := by
  cases hx : d (f k) with
  | some x =>
   rw [look_some hx] at h
   have := (hA x).le h
   rw [look_some (x := x) (by rw [hf k (by omega)]; exact hx)]
   exact (hA x).agree hf h hk
  | none =>
   rw [look_none hx] at h
   have := hB.le h
   rw [look_none (by rw [hf k (by omega)]; exact hx)]
   exact hB.agree hf h hk
 agreeb {f f' q} hf k k' h hk := by
  cases hx : d (f k) with
  | some x =>
   rw [look_some hx] at h
   have := (hA x).leb h
   rw [look_some (x := x) (by rw [hf k (by omega)]; exact hx)]
   exact (hA x).agreeb hf h hk
  | none =>
   rw [look_none hx] at h
   have := hB.leb h
   rw [look_none (by rw [hf k (by omega)]; exact hx)]
   exact hB.agreeb hf h hk
 cut {f f' q} hc k h := by
  cases hx : d (f k) with
  | some x =>
   rw [look_some hx] at h
   have := (hA x).leb h
   rw [look_some (x := x) (by rw [hc.lo k (by omega)]; exact hx)]
   exact (hA x).cut hc h
  | none =>
   rw [look_none hx] at h
   have := hB.leb h
   rw [look_none (d := d)]
   ·exact hB.cut hc h
   ·by_cases hk : k < q
    ·rw [hc.lo k hk]; exact hx
    ·rw [hc.hi k (by omega)]; exact hd
 cutk {f f' q} hc k a h := by
  cases hx : d (f k) with
  | some x =>
   rw [look_some hx] at h
   have := (hA x).le h
   rw [look_some (x := x) (by rw [hc.lo k (by omega)]; exact hx)]
   exact (hA x).cutk hc h
  | none =>
   rw [look_none hx] at h
   have := hB.le h
   rw [look_none (d := d)]
   ·exact hB.cutk hc h
   ·by_cases hk : k < q
    ·rw [hc.lo k hk]; exact hx
    ·rw [hc.hi k (by omega)]; exact hd
 shift f c k := by
  show (match d (f (k + c)) with | some x => A x f (k + c + 1) | none => B f (k + c)) = Res.up c (match d (f (k + c)) with | some x => A x (fun i => f (i + c)) (k + 1) | none => B (fun i => f (i + c)) k)
  cases hx : d (f (k + c)) with
  | some x => have := (hA x).shift f c (k + 1); rw [show k + 1 + c = k + c + 1 by omega] at this; exact this
  | none => exact hB.shift f c k
def dM (s : Str) : Option Tk → Bool
 | some t => (decide (t.kind = 4) || decide (t.kind = 5)) && decide (t.text = s)
 | none => false
theorem isM_eq (s : Str) (f : F) (k : Nat) : isM s f k = dM s (f k) := by unfold isM dM; cases f k <;> rfl
theorem tok_eq (s : Str) (A B : Pp α) : tok s A B = look (fun o => bif dM s o then some () else none) (fun _ => A) B := by
 funext f k
 unfold tok look
 rw [isM_eq]
 cases h : dM s (f k) <;> simp [h]
def dK (c : Int) : Option Tk → Option Tk
 | some t => bif decide (t.kind = c) then some t else none
 | none => none
theorem tkn_eq (c : Int) (A : Tk → Pp α) (B : Pp α) : tkn c A B = look (dK c) A B := by
 funext f k
 unfold tkn look dK
 cases f k with
 | none => rfl
 | some t => by_cases h : t.kind = c <;> simp [h]
theorem find_none {ops : List Str} {p : Str → Bool} (h : ∀ s, p s = false) : ops.find? p = none := by simp [List.find?_eq_none, h]
theorem oneOf_eq (ops : List Str) (A : Str → Pp α) (B : Pp α) : oneOf ops A B = look (fun o => ops.find? (fun s => dM s o)) A B := by
 funext f k
 unfold oneOf look
 simp only [isM_eq]
 cases ops.find? (fun s => dM s (f k)) <;> rfl
theorem Good.tok {s : Str} {A B : Pp α} (hA : Good A) (hB : Good B) : Good (tok s A B) := by rw [tok_eq]; exact Good.look rfl (fun _ => hA) hB
theorem Good.tkn {c : Int} {A : Tk → Pp α} {B : Pp α} (hA : ∀ t, Good (A t)) (hB : Good B) : Good (tkn c A B) := by rw [tkn_eq]; exact Good.look rfl hA hB
theorem Good.oneOf {ops : List Str} {A : Str → Pp α} {B : Pp α} (hA : ∀ t, Good (A t)) (hB : Good B) : Good (oneOf ops A B) := by
 rw [oneOf_eq]; exact Good.look (find_none fun _ => rfl) hA hB
theorem Good.need {s : Str} {A : Pp α} (hA : Good A) : Good (need s A) := Good.tok hA Good.fail
theorem Good.name {A : Str → Pp α} (hA : ∀ s, Good (A s)) : Good (name A) := Good.tkn (fun t => hA t.text) Good.fail
def Stops (p : Pp α) : Prop := ∀ (f : F) (k : Nat), f k = none → p f k = .bad k ∨ p f k = .out
def Takes (q : F → Nat → Bool) (p : Pp α) : Prop := ∀ (f : F) (k : Nat), q f k = true → (∀ a k', p f k = .ok a k' → k < k') ∧ ∀ k', p f k = .bad k' → k < k'
structure Loc (q : F → Nat → Bool) : Prop where
 no : ∀ (f : F) (k : Nat), f k = none → q f k = false
 same : ∀ (f f' : F) (k k' : Nat), f k = f' k' → q f k = q f' k'
theorem Loc.isM (s : Str) : Loc (isM s) := ⟨fun f k h => by rw [isM_eq, h]; rfl, fun f f' k k' h => by rw [isM_eq, isM_eq, h]⟩
theorem Loc.begins : Loc begins := by
 constructor
 ·intro f k h
  simp only [Ps.begins, isM_eq, isK, h, dM]; rfl
 ·intro f f' k k' h
  simp only [Ps.begins, isM_eq, isK, h]
theorem peek_t {q : F → Nat → Bool} {A B : Pp α} {f : F} {k : Nat} (h : q f k = true) : peek q A B f k = A f k := by unfold peek; rw [h]; rfl
theorem peek_f {q : F → Nat → Bool} {A B : Pp α} {f : F} {k : Nat} (h : q f k = false) : peek q A B f k = B f k := by unfold peek; rw [h]; rfl
theorem Good.peek {q : F → Nat → Bool} {A B : Pp α} (hq : Loc q) (hA : Good A) (hB : Good B) (hs : Stops B ∨ Takes q A) : Good (peek q A B) where
 le {f k a k'} h := by
  cases hx : q f k with
  | true => rw [peek_t hx] at h; exact hA.le h
  | false => rw [peek_f hx] at h; exact hB.le h
 leb {f k k'} h := by
  cases hx : q f k with
  | true => rw [peek_t hx] at h; exact hA.leb h
  | false => rw [peek_f hx] at h; exact hB.leb h
 agree {f f' n} hf k a k' h hk := by
  cases hx : q f k with
  | true =>
   rw [peek_t hx] at h
   have := hA.le h
   rw [peek_t (by rw [hq.same f' f k k (hf k (by omega))]; exact hx)]
   exact hA.agree hf h hk
  | false =>
   rw [peek_f hx] at h
   have := hB.le h
   rw [peek_f (by rw [hq.same f' f k k (hf k (by omega))]; exact hx)]
   exact hB.agree hf h hk
 agreeb {f f' n} hf k k' h hk := by
  cases hx : q f k with
  | true =>
   rw [peek_t hx] at h
   have := hA.leb h
   rw [peek_t (by rw [hq.same f' f k k (hf k (by omega))]; exact hx)]
   exact hA.agreeb hf h hk
  | false =>
   rw [peek_f hx] at h
   have := hB.leb h
   rw [peek_f (by rw [hq.same f' f k k (hf k (by omega))]; exact hx)]
   exact hB.agreeb hf h hk
 cut {f f' n} hc k h := by
  cases hx : q f k with
  | true =>
   rw [peek_t hx] at h
   have hl := hA.leb h
   rcases Nat.lt_or_eq_of_le hl with hk | hk
   ·rw [peek_t (by rw [hq.same f' f k k (hc.lo k hk)]; exact hx)]; exact hA.cut hc h
   ·subst hk
    rcases hs with hs | hs
    ·have hn := hc.hi k (Nat.le_refl _)
     rw [peek_f (hq.no f' k hn)]
     exact hs f' k hn
    ·have := (hs f k hx).2 _ h; omega
  | false =>
   rw [peek_f hx] at h
   have hl := hB.leb h
   rw [peek_f (q := q)]
   ·exact hB.cut hc h
   ·by_cases hk : k < n
    ·rw [hq.same f' f k k (hc.lo k hk)]; exact hx
    ·exact hq.no _ _ (hc.hi k (by omega))
 cutk {f f' n} hc k a h := by
  cases hx : q f k with
  | true =>
   rw [peek_t hx] at h
   have hl := hA.le h
   rcases Nat.lt_or_eq_of_le hl with hk | hk
   ·rw [peek_t (by rw [hq.same f' f k k (hc.lo k hk)]; exact hx)]; exact hA.cutk hc h
   ·subst hk
    rcases hs with hs | hs
    ·have hn := hc.hi k (Nat.le_refl _)
     rw [peek_f (hq.no f' k hn)]
     exact .inr (hs f' k hn)
    ·have := (hs f k hx).1 _ _ h; omega
  | false =>
   rw [peek_f hx] at h
   have hl := hB.le h
   rw [peek_f (q := q)]
   ·exact hB.cutk hc h
   ·by_cases hk : k < n
    ·rw [hq.same f' f k k (hc.lo k hk)]; exact hx
    ·exact hq.no _ _ (hc.hi k (by omega))
 shift f c k := by
  have hx : q (fun i => f (i + c)) k = q f (k + c) := hq.same _ _ _ _ rfl
  cases hb : q f (k + c) with
  | true => rw [peek_t hb, peek_t (hx.trans hb)]; exact hA.shift f c k
  | false => rw [peek_f hb, peek_f (hx.trans hb)]; exact hB.shift f c k
theorem Good.commas {X : Pp α} (hX : Good X) : ∀ j, Good (commas j X)
 | 0 => Good.dry
 | j + 1 => hX.bind fun a => Good.tok ((Good.commas hX j).bind fun l => Good.ret _) (Good.ret _)
theorem Good.upto {s : Str} {X : Pp α} (hX : Good X) : ∀ j, Good (upto j s X)
 | 0 => Good.dry
 | j + 1 => Good.tok (Good.ret _) (hX.bind fun a => (Good.upto hX j).bind fun l => Good.ret _)
theorem Good.inP {N : Nat} {s : Str} {X : Pp α} (hX : Good X) : Good (inP N s X) := Good.tok (Good.ret _) ((Good.commas hX N).bind fun l => Good.need (Good.ret _))
theorem Good.tokIf {c : Bool} {s : Str} {A B : Pp α} (hA : Good A) (hB : Good B) : Good (tokIf c s A B) := by
 cases c
 ·exact hB
 ·exact Good.tok hA hB
theorem Stops.bind {p : Pp α} {g : α → Pp β} (h : Stops p) : Stops (bind p g) := fun f k hk => by
 rcases h f k hk with h | h
 ·exact .inl (bind_bad h)
 ·exact .inr (bind_out h)
theorem Stops.look {d : Option Tk → Option γ} {A : γ → Pp α} {B : Pp α} (hd : d none = none) (hB : Stops B) : Stops (look d A B) := fun f k hk => by
 rw [look_none (by rw [hk]; exact hd)]; exact hB f k hk
theorem Stops.fail : Stops (fail : Pp α) := fun _ _ _ => .inl rfl
theorem Stops.dry : Stops (dry : Pp α) := fun _ _ _ => .inr rfl
theorem Stops.tok {s : Str} {A B : Pp α} (hB : Stops B) : Stops (tok s A B) := by rw [tok_eq]; exact Stops.look rfl hB
theorem Stops.tkn {c : Int} {A : Tk → Pp α} {B : Pp α} (hB : Stops B) : Stops (tkn c A B) := by rw [tkn_eq]; exact Stops.look rfl hB
theorem Stops.oneOf {ops : List Str} {A : Str → Pp α} {B : Pp α} (hB : Stops B) : Stops (oneOf ops A B) := by rw [oneOf_eq]; exact Stops.look (find_none fun _ => rfl) hB
theorem Stops.need {s : Str} {A : Pp α} : Stops (need s A) := Stops.tok Stops.fail
theorem Stops.name {A : Str → Pp α} : Stops (name A) := Stops.tkn Stops.fail
theorem Stops.commas {X : Pp α} (hX : Stops X) : ∀ j, Stops (commas j X)
 | 0 => Stops.dry
 | j + 1 => Stops.bind hX
theorem Stops.peek {q : F → Nat → Bool} {A B : Pp α} (hq : Loc q) (hB : Stops B) : Stops (peek q A B) := fun f k hk => by
 rw [peek_f (hq.no f k hk)]; exact hB f k hk
theorem Stops.binL {N : Nat} {U : Pp Tree} (hU : Stops U) : ∀ l, Stops (binL N U l)
 | [] => hU
 | _ :: rest => Stops.bind (Stops.binL hU rest)
theorem Takes.tok {s : Str} {A B : Pp α} (hA : Good A) : Takes (isM s) (tok s A B) := fun f k hk => by
 have : Ps.tok s A B f k = A f (k + 1) := by unfold Ps.tok; rw [hk]; rfl
 rw [this]
 exact ⟨fun a k' h => hA.le h, fun k' h => hA.leb h⟩
end Go.Ps


/- PsGood2 -/
set_option linter.unusedVariables false
set_option linter.unusedSimpArgs false
namespace Go.Ps
open Go.Sep (Tree Str)
variable {α β : Type}
theorem Good.bret {p : Pp α} {g : α → β} (hp : Good p) : Good (Ps.bind p fun a => Ps.ret (g a)) := hp.bind fun _ => Good.ret _
theorem Takes.bind {q : F → Nat → Bool} {p : Pp α} {g : α → Pp β} (hp : Takes q p) (hg : ∀ a, Good (g a)) : Takes q (Ps.bind p g) := fun f k hk => by
 refine ⟨fun b k' h => ?_, fun k' h => ?_⟩
 ·obtain ⟨a, k1, h1, h2⟩ := bind_ok_iff h
  have := (hp f k hk).1 a k1 h1
  have := (hg a).le h2
  omega
 ·rcases bind_bad_iff h with h | ⟨a, k1, h1, h2⟩
  ·exact (hp f k hk).2 k' h
  ·have := (hp f k hk).1 a k1 h1
   have := (hg a).leb h2
   omega
section
variable {N : Nat}
theorem Good.results {typ : Pp Tree} (h : Good typ) (ht : Takes begins typ) : Good (resultsP N typ) :=
 Good.tok ((Good.commas h N).bind fun l => Good.need (Good.ret _)) (Good.peek Loc.begins (Good.bret h) (Good.ret _) (.inr (ht.bind fun _ => Good.ret _)))
theorem Good.param {typ : Pp Tree} (h : Good typ) : Good (paramP typ) := Good.name fun s => Good.bret h
theorem Good.sigLike {kind : Int} {X typ : Pp Tree} (hX : Good X) (h : Good typ) (ht : Takes begins typ) : Good (sigLike N kind X typ) := Good.need ((Good.inP hX).bind fun ps => Good.bret (Good.results h ht))
theorem Good.sig {typ : Pp Tree} (h : Good typ) (ht : Takes begins typ) : Good (sigP N typ) := Good.sigLike (Good.param h) h ht
theorem Good.typP {typ : Pp Tree} (h : Good typ) (ht : Takes begins typ) : Good (typP N typ) :=
 Good.tok (Good.bret h) (Good.tok (Good.need (Good.bret h)) (Good.tok (Good.sigLike h h ht) (Good.name fun s => Good.ret _)))
theorem Takes.typP {typ : Pp Tree} (h : Good typ) (ht : Takes begins typ) : Takes begins (typP N typ) := fun f k hk => by
 unfold Ps.typP
 cases h1 : isM [42] f k with
 | true => exact Takes.tok (Good.bret h) f k h1
 | false =>
  rw [show Ps.tok [42] (Ps.bind typ fun t => Ps.ret (.mk 11 [] 0 [t])) (Ps.tok [91] (Ps.need [93] (Ps.bind typ fun t => Ps.ret (.mk 12 [] 0 [t]))) (Ps.tok [102, 117, 110, 99] (Ps.sigLike N 13 typ typ) (Ps.name fun s => Ps.ret (leaf 10 s)))) f k = Ps.tok [91] (Ps.need [93] (Ps.bind typ fun t => Ps.ret (.mk 12 [] 0 [t]))) (Ps.tok [102, 117, 110, 99] (Ps.sigLike N 13 typ typ) (Ps.name fun s => Ps.ret (leaf 10 s))) f k by unfold Ps.tok; rw [h1]; rfl]
  cases h2 : isM [91] f k with
  | true => exact Takes.tok (Good.need (Good.bret h)) f k h2
  | false =>
   rw [show Ps.tok [91] (Ps.need [93] (Ps.bind typ fun t => Ps.ret (.mk 12 [] 0 [t]))) (Ps.tok [102, 117, 110, 99] (Ps.sigLike N 13 typ typ) (Ps.name fun s => Ps.ret (leaf 10 s))) f k = Ps.tok [102, 117, 110, 99] (Ps.sigLike N 13 typ typ) (Ps.name fun s => Ps.ret (leaf 10 s)) f k by unfold Ps.tok; rw [h2]; rfl]
   cases h3 : isM [102, 117, 110, 99] f k with
   | true => exact Takes.tok (Good.sigLike h h ht) f k h3
   | false =>
    rw [show Ps.tok [102, 117, 110, 99] (Ps.sigLike N 13 typ typ) (Ps.name fun s => Ps.ret (leaf 10 s)) f k = Ps.name (fun s => Ps.ret (leaf 10 s)) f k by unfold Ps.tok; rw [h3]; rfl]
    have h4 : isK 1 f k = true := by
     unfold Ps.begins at hk
     rw [h1, h2, h3, Bool.or_false, Bool.or_false, Bool.or_false] at hk
     exact hk
    unfold isK at h4
    unfold Ps.name Ps.tkn
    cases hx : f k with
    | none => rw [hx] at h4; cases h4
    | some t =>
     rw [hx] at h4
     simp only at h4
     simp only [h4, cond_true]
     exact ⟨fun a k' e => by injection e with _ e; omega, fun k' e => by cases e⟩
theorem Good.field {mb : Pp Tree} (h : Good mb) : Good (fieldP mb) := Good.name fun s => h.bind fun t => Good.need (Good.ret _)
theorem Good.body {kind : Int} {nm : Str} {mb : Pp Tree} (h : Good mb) : Good (bodyP N kind nm mb) := Good.need (Good.bret (Good.upto (Good.field h) N))
theorem Good.typeDecl {typ : Pp Tree} (h : Good typ) (ht : Takes begins typ) : Good (typeDeclP N typ) := Good.name fun nm => Good.tok (Good.body (Good.sig h ht)) (Good.need (Good.body h))
theorem Good.declP {typ block : Pp Tree} (h : Good typ) (ht : Takes begins typ) (hb : Good block) : Good (declP N typ block) :=
 Good.tok (Good.typeDecl h ht) (Good.need (Good.tok
  (Good.name fun recv => Good.need (Good.name fun of => Good.need (Good.name fun nm => (Good.sig h ht).bind fun s => Good.bret hb)))
  (Good.name fun nm => (Good.sig h ht).bind fun s => Good.bret hb)))
theorem Good.blockP {stmt : Pp Tree} (h : Good stmt) : Good (blockP N stmt) := Good.need (Good.bret (Good.upto h N))
theorem Good.branchP {expr block branch : Pp Tree} (he : Good expr) (hb : Good block) (hr : Good branch) (sb : Stops block) : Good (branchP expr block branch) :=
 Good.need (he.bind fun c => hb.bind fun b => Good.tok (Good.peek (Loc.isM _) (Good.bret hr) (Good.bret hb) (.inl (Stops.bind sb))) (Good.ret _))
theorem Good.forP {expr block : Pp Tree} (he : Good expr) (hb : Good block) (se : Stops expr) : Good (forP expr block) :=
 Good.peek (Loc.isM _) (Good.bret hb) (he.bind fun c => Good.bret hb) (.inl (Stops.bind se))
theorem Good.assignP {expr : Pp Tree} {left : List Tree} (he : Good expr) : Good (assignP N expr left) := by
 refine Good.tokIf (Good.bret (Good.commas he N)) (Good.tokIf (Good.bret (Good.commas he N)) ?_)
 cases isC1 left with
 | true => exact Good.peek (Loc.isM _) (Good.ret _) Good.fail (.inl Stops.fail)
 | false => exact Good.fail
theorem Good.simpleP {typ expr : Pp Tree} (h : Good typ) (he : Good expr) (se : Stops expr) : Good (simpleP N typ expr) :=
 Good.tok (Good.name fun s => h.bind fun t => Good.tok (Good.bret he) (Good.ret _)) (Good.tok (Good.peek (Loc.isM _) (Good.ret _) (Good.bret (Good.commas he N)) (.inl (Stops.bind (Stops.commas se N))))
  (Good.tok (Good.ret _) (Good.tok (Good.ret _) ((Good.commas he N).bind fun l => Good.assignP he))))
theorem Stops.simpleP {typ expr : Pp Tree} (se : Stops expr) : Stops (simpleP N typ expr) := Stops.tok (Stops.tok (Stops.tok (Stops.tok (Stops.bind (Stops.commas se N)))))
theorem Good.exprsP {s : Str} {expr : Pp Tree} (he : Good expr) : Good (exprsP N s expr) := Good.inP he
theorem Good.cutP {expr : Pp Tree} {num : Int} {ks : List Tree} (he : Good expr) : Good (cutP expr num ks) := Good.need (Good.tok (Good.ret _) (he.bind fun e => Good.need (Good.ret _)))
theorem Good.indexP {expr : Pp Tree} {n : Tree} (he : Good expr) (se : Stops expr) : Good (indexP expr n) :=
 Good.peek (Loc.isM _) (Good.cutP he) (he.bind fun e => Good.tok (Good.ret _) (Good.cutP he)) (.inl (Stops.bind se))
theorem Good.postP {expr : Pp Tree} (he : Good expr) (se : Stops expr) : ∀ (j : Nat) (n : Tree), Good (postP N expr j n)
 | 0, _ => Good.dry
 | j + 1, n => Good.tok (Good.name fun s => Good.postP he se j _) (Good.tok ((Good.indexP he se).bind fun t => Good.postP he se j _) (Good.tok ((Good.exprsP he).bind fun l => Good.postP he se j _) (Good.ret _)))
theorem Good.primP {typ block expr : Pp Tree} {h : Bool} (gt : Good typ) (ht : Takes begins typ) (hb : Good block) (he : Good expr) : Good (primP N typ block expr h) := by
 refine Good.tkn (fun t => Good.ret _) (Good.tkn (fun t => Good.ret _) (Good.tok (Good.ret _) (Good.tok (Good.ret _) (Good.tok (Good.ret _) ?_))))
 refine Good.tok (he.bind fun t => Good.need (Good.ret _)) (Good.tok (Good.need (gt.bind fun t => Good.need (Good.bret (Good.exprsP he)))) (Good.tok ((Good.sig gt ht).bind fun s => Good.bret hb) (Good.name fun s => ?_)))
 cases h with
 | true => exact Good.ret _
 | false => exact Good.tok (Good.bret (Good.exprsP he)) (Good.ret _)
theorem Stops.primP {typ block expr : Pp Tree} {h : Bool} : Stops (primP N typ block expr h) := Stops.tkn (Stops.tkn (Stops.tok (Stops.tok (Stops.tok (Stops.tok (Stops.tok (Stops.tok Stops.name)))))))
theorem Good.loopB {X : Pp Tree} {ops : List Str} (h : Good X) : ∀ (j : Nat) (n : Tree), Good (loopB j ops X n)
 | 0, _ => Good.dry
 | j + 1, n => Good.oneOf (fun op => h.bind fun m => Good.loopB h j _) (Good.ret _)
theorem Good.binL {U : Pp Tree} (hU : Good U) : ∀ l, Good (binL N U l)
 | [] => hU
 | ops :: rest => (Good.binL hU rest).bind fun n => Good.loopB (Good.binL hU rest) N n
end
structure GGood (g : Gr) : Prop where
 typ : Good g.typ
 typ2 : Takes begins g.typ
 block : Good g.block
 block2 : Stops g.block
 stmt : Good g.stmt
 branch : Good g.branch
 expr : ∀ b, Good (g.expr b)
 expr2 : ∀ b, Stops (g.expr b)
 unary : ∀ b, Good (g.unary b)
 unary2 : ∀ b, Stops (g.unary b)
theorem ggood (N : Nat) : ∀ n, GGood (gr N n)
 | 0 => ⟨Good.dry, fun f k h => ⟨fun a k' e => (by cases e), fun k' e => (by cases e)⟩, Good.dry, Stops.dry, Good.dry, Good.dry, fun _ => Good.dry, fun _ => Stops.dry, fun _ => Good.dry, fun _ => Stops.dry⟩
 | n + 1 => by
  have IH := ggood N n
  have hu : ∀ b, Good (unaryP N (gr N n) b) := fun b => Good.oneOf (fun op => Good.bret (IH.unary b)) ((Good.primP IH.typ IH.typ2 IH.block (IH.expr _)).bind fun t => Good.postP (IH.expr _) (IH.expr2 _) N t)
  have su : ∀ b, Stops (unaryP N (gr N n) b) := fun b => Stops.oneOf (Stops.bind Stops.primP)
  refine ⟨Good.typP IH.typ IH.typ2, Takes.typP IH.typ IH.typ2, Good.blockP IH.stmt, Stops.need, ?_, Good.branchP (IH.expr _) IH.block IH.branch IH.block2, fun b => Good.binL (IH.unary b) _, fun b => Stops.binL (IH.unary2 b) _, hu, su⟩
  have hs : Good (Ps.tok [102, 111, 114] (forP ((gr N n).expr true) (gr N n).block) (Ps.bind (Ps.simpleP N (gr N n).typ ((gr N n).expr false)) fun s => Ps.need [59] (Ps.ret s))) :=
   Good.tok (Good.forP (IH.expr _) IH.block (IH.expr2 _)) ((Good.simpleP IH.typ (IH.expr _) (IH.expr2 _)).bind fun s => Good.need (Good.ret _))
  have ss : Stops (Ps.tok [102, 111, 114] (forP ((gr N n).expr true) (gr N n).block) (Ps.bind (Ps.simpleP N (gr N n).typ ((gr N n).expr false)) fun s => Ps.need [59] (Ps.ret s))) := Stops.tok (Stops.bind (Stops.simpleP (IH.expr2 _)))
  exact Good.peek (Loc.isM _) IH.block (Good.peek (Loc.isM _) IH.branch hs (.inl ss)) (.inl (Stops.peek (Loc.isM _) ss))
theorem Good.declG (N n : Nat) : Good (declG N n) := Good.declP (ggood N n).typ (ggood N n).typ2 (ggood N n).block
end Go.Ps


/- PsFuel -/
set_option linter.unusedVariables false
set_option linter.unusedSimpArgs false
namespace Go.Ps
open Go.Sep (Tree Str)
variable {α β : Type}
def Le (p p' : Pp α) : Prop := ∀ f k, p f k ≠ .out → p' f k = p f k
theorem Le.refl (p : Pp α) : Le p p := fun _ _ _ => rfl
theorem Le.dry {p : Pp α} : Le dry p := fun _ _ h => absurd rfl h
theorem Le.bind {p p' : Pp α} {g g' : α → Pp β} (hp : Le p p') (hg : ∀ a, Le (g a) (g' a)) : Le (bind p g) (bind p' g') := fun f k h => by
 unfold Ps.bind at h ⊢
 cases hx : p f k with
 | ok a k1 =>
  simp only [hx] at h
  rw [hp f k (by rw [hx]; exact fun e => by cases e), hx]
  exact hg a f k1 h
 | bad k1 => rw [hp f k (by rw [hx]; exact fun e => by cases e), hx]
 | out => simp only [hx] at h; exact absurd rfl h
theorem Le.bret {p p' : Pp α} {g : α → Pp β} (hp : Le p p') : Le (Ps.bind p g) (Ps.bind p' g) := Le.bind hp fun a => Le.refl _
theorem Le.tok {s : Str} {A A' B B' : Pp α} (hA : Le A A') (hB : Le B B') : Le (tok s A B) (tok s A' B') := fun f k h => by
 unfold Ps.tok at h ⊢
 cases hb : isM s f k with
 | true => simp only [hb, cond_true] at h ⊢; exact hA f _ h
 | false => simp only [hb, cond_false] at h ⊢; exact hB f _ h
theorem Le.need {s : Str} {A A' : Pp α} (hA : Le A A') : Le (need s A) (need s A') := Le.tok hA (Le.refl _)
theorem Le.tkn {n : Int} {A A' : Tk → Pp α} {B B' : Pp α} (hA : ∀ t, Le (A t) (A' t)) (hB : Le B B') : Le (tkn n A B) (tkn n A' B') := fun f k h => by
 unfold Ps.tkn at h ⊢
 cases hx : f k with
 | none => simp only [hx] at h ⊢; exact hB f k h
 | some t =>
  cases hb : decide (t.kind = n) with
  | true => simp only [hx, hb, cond_true] at h ⊢; exact hA t f _ h
  | false => simp only [hx, hb, cond_false] at h ⊢; exact hB f k h
theorem Le.name {A A' : Str → Pp α} (hA : ∀ t, Le (A t) (A' t)) : Le (name A) (name A') := Le.tkn (fun t => hA t.text) (Le.refl _)
theorem Le.oneOf {ops : List Str} {A A' : Str → Pp α} {B B' : Pp α} (hA : ∀ t, Le (A t) (A' t)) (hB : Le B B') : Le (oneOf ops A B) (oneOf ops A' B') := fun f k h => by
 unfold Ps.oneOf at h ⊢
 cases hx : ops.find? (fun s => isM s f k) with
 | none => simp only [hx] at h ⊢; exact hB f k h
 | some t => simp only [hx] at h ⊢; exact hA t f _ h
theorem Le.peek {q : F → Nat → Bool} {A A' B B' : Pp α} (hA : Le A A') (hB : Le B B') : Le (peek q A B) (peek q A' B') := fun f k h => by
 unfold Ps.peek at h ⊢
 cases hb : q f k with
 | true => simp only [hb, cond_true] at h ⊢; exact hA f _ h
 | false => simp only [hb, cond_false] at h ⊢; exact hB f _ h
theorem Le.tokIf {c : Bool} {s : Str} {A A' B B' : Pp α} (hA : Le A A') (hB : Le B B') : Le (tokIf c s A B) (tokIf c s A' B') := by
 cases c with
 | true => exact Le.tok hA hB
 | false => exact hB
theorem Le.commas {X X' : Pp α} (h : Le X X') : ∀ {j j' : Nat}, j ≤ j' → Le (commas j X) (commas j' X')
 | 0, _, _ => Le.dry
 | j + 1, j' + 1, hj => Le.bind h fun a => Le.tok (Le.bret (Le.commas h (Nat.le_of_succ_le_succ hj))) (Le.refl _)
theorem Le.upto {X X' : Pp α} {s : Str} (h : Le X X') : ∀ {j j' : Nat}, j ≤ j' → Le (upto j s X) (upto j' s X')
 | 0, _, _ => Le.dry
 | j + 1, j' + 1, hj => Le.tok (Le.refl _) (Le.bind h fun a => Le.bret (Le.upto h (Nat.le_of_succ_le_succ hj)))
section
variable {N N' : Nat} (hN : N ≤ N')
include hN
theorem Le.inP {s : Str} {X X' : Pp α} (h : Le X X') : Le (inP N s X) (inP N' s X') := Le.tok (Le.refl _) (Le.bret (Le.commas h hN))
theorem Le.results {typ typ' : Pp Tree} (h : Le typ typ') : Le (resultsP N typ) (resultsP N' typ') := Le.tok (Le.bret (Le.commas h hN)) (Le.peek (Le.bret h) (Le.refl _))
omit hN in
theorem Le.param {typ typ' : Pp Tree} (h : Le typ typ') : Le (paramP typ) (paramP typ') := Le.name fun s => Le.bret h
theorem Le.sigLike {kind : Int} {X X' typ typ' : Pp Tree} (hX : Le X X') (h : Le typ typ') : Le (sigLike N kind X typ) (sigLike N' kind X' typ') := Le.need (Le.bind (Le.inP hN hX) fun ps => Le.bret (Le.results hN h))
theorem Le.sig {typ typ' : Pp Tree} (h : Le typ typ') : Le (sigP N typ) (sigP N' typ') := Le.sigLike hN (Le.param h) h
theorem Le.typP {typ typ' : Pp Tree} (h : Le typ typ') : Le (typP N typ) (typP N' typ') := Le.tok (Le.bret h) (Le.tok (Le.need (Le.bret h)) (Le.tok (Le.sigLike hN h h) (Le.refl _)))
omit hN in
theorem Le.field {mb mb' : Pp Tree} (h : Le mb mb') : Le (fieldP mb) (fieldP mb') := Le.name fun s => Le.bret h
theorem Le.body {kind : Int} {nm : Str} {mb mb' : Pp Tree} (h : Le mb mb') : Le (bodyP N kind nm mb) (bodyP N' kind nm mb') := Le.need (Le.bret (Le.upto (Le.field h) hN))
theorem Le.typeDecl {typ typ' : Pp Tree} (h : Le typ typ') : Le (typeDeclP N typ) (typeDeclP N' typ') := Le.name fun nm => Le.tok (Le.body hN (Le.sig hN h)) (Le.need (Le.body hN h))
theorem Le.declP {typ typ' block block' : Pp Tree} (h : Le typ typ') (hb : Le block block') : Le (declP N typ block) (declP N' typ' block') :=
 Le.tok (Le.typeDecl hN h) (Le.need (Le.tok
  (Le.name fun recv => Le.need (Le.name fun of => Le.need (Le.name fun nm => Le.bind (Le.sig hN h) fun s => Le.bret hb)))
  (Le.name fun nm => Le.bind (Le.sig hN h) fun s => Le.bret hb)))
theorem Le.blockP {stmt stmt' : Pp Tree} (h : Le stmt stmt') : Le (blockP N stmt) (blockP N' stmt') := Le.need (Le.bret (Le.upto h hN))
omit hN in
theorem Le.branchP {expr expr' block block' branch branch' : Pp Tree} (he : Le expr expr') (hb : Le block block') (hr : Le branch branch') : Le (branchP expr block branch) (branchP expr' block' branch') :=
 Le.need (Le.bind he fun c => Le.bind hb fun b => Le.tok (Le.peek (Le.bret hr) (Le.bret hb)) (Le.refl _))
omit hN in
theorem Le.forP {expr expr' block block' : Pp Tree} (he : Le expr expr') (hb : Le block block') : Le (forP expr block) (forP expr' block') := Le.peek (Le.bret hb) (Le.bind he fun c => Le.bret hb)
theorem Le.assignP {expr expr' : Pp Tree} {left : List Tree} (he : Le expr expr') : Le (assignP N expr left) (assignP N' expr' left) :=
 Le.tokIf (Le.bret (Le.commas he hN)) (Le.tokIf (Le.bret (Le.commas he hN)) (Le.refl _))
theorem Le.simpleP {typ typ' expr expr' : Pp Tree} (h : Le typ typ') (he : Le expr expr') : Le (simpleP N typ expr) (simpleP N' typ' expr') :=
 Le.tok (Le.name fun s => Le.bind h fun t => Le.tok (Le.bret he) (Le.refl _)) (Le.tok (Le.peek (Le.refl _) (Le.bret (Le.commas he hN))) (Le.tok (Le.refl _) (Le.tok (Le.refl _) (Le.bind (Le.commas he hN) fun l => Le.assignP hN he))))
theorem Le.exprsP {s : Str} {expr expr' : Pp Tree} (he : Le expr expr') : Le (exprsP N s expr) (exprsP N' s expr') := Le.inP hN he
omit hN in
theorem Le.cutP {expr expr' : Pp Tree} {num : Int} {ks : List Tree} (he : Le expr expr') : Le (cutP expr num ks) (cutP expr' num ks) := Le.need (Le.tok (Le.refl _) (Le.bret he))
omit hN in
theorem Le.indexP {expr expr' : Pp Tree} {n : Tree} (he : Le expr expr') : Le (indexP expr n) (indexP expr' n) := Le.peek (Le.cutP he) (Le.bind he fun e => Le.tok (Le.refl _) (Le.cutP he))
theorem Le.postP {expr expr' : Pp Tree} (he : Le expr expr') : ∀ {j j' : Nat} (n : Tree), j ≤ j' → Le (postP N expr j n) (postP N' expr' j' n)
 | 0, _, _, _ => Le.dry
 | j + 1, j' + 1, n, hj => Le.tok (Le.name fun s => Le.postP he _ (Nat.le_of_succ_le_succ hj)) (Le.tok (Le.bind (Le.indexP he) fun t => Le.postP he _ (Nat.le_of_succ_le_succ hj)) (Le.tok (Le.bind (Le.exprsP hN he) fun l => Le.postP he _ (Nat.le_of_succ_le_succ hj)) (Le.refl _)))
theorem Le.primP {typ typ' block block' expr expr' : Pp Tree} {h : Bool} (ht : Le typ typ') (hb : Le block block') (he : Le expr expr') : Le (primP N typ block expr h) (primP N' typ' block' expr' h) := by
 refine Le.tkn (fun t => Le.refl _) (Le.tkn (fun t => Le.refl _) (Le.tok (Le.refl _) (Le.tok (Le.refl _) (Le.tok (Le.refl _) ?_))))
 refine Le.tok (Le.bret he) (Le.tok (Le.need (Le.bind ht fun t => Le.need (Le.bret (Le.exprsP hN he)))) (Le.tok (Le.bind (Le.sig hN ht) fun s => Le.bret hb) (Le.name fun s => ?_)))
 cases h with
 | true => exact Le.refl _
 | false => exact Le.tok (Le.bret (Le.exprsP hN he)) (Le.refl _)
omit hN in
theorem Le.loopB {X X' : Pp Tree} {ops : List Str} (h : Le X X') : ∀ {j j' : Nat} (n : Tree), j ≤ j' → Le (loopB j ops X n) (loopB j' ops X' n)
 | 0, _, _, _ => Le.dry
 | j + 1, j' + 1, n, hj => Le.oneOf (fun op => Le.bind h fun m => Le.loopB h _ (Nat.le_of_succ_le_succ hj)) (Le.refl _)
theorem Le.binL {U U' : Pp Tree} (hU : Le U U') : ∀ l, Le (binL N U l) (binL N' U' l)
 | [] => hU
 | ops :: rest => Le.bind (Le.binL hU rest) fun n => Le.loopB (Le.binL hU rest) n hN
end
structure GLe (g g' : Gr) : Prop where
 typ : Le g.typ g'.typ
 block : Le g.block g'.block
 stmt : Le g.stmt g'.stmt
 branch : Le g.branch g'.branch
 expr : ∀ b, Le (g.expr b) (g'.expr b)
 unary : ∀ b, Le (g.unary b) (g'.unary b)
theorem gle {N N' : Nat} (hN : N ≤ N') : ∀ {n n' : Nat}, n ≤ n' → GLe (gr N n) (gr N' n')
 | 0, _, _ => ⟨Le.dry, Le.dry, Le.dry, Le.dry, fun _ => Le.dry, fun _ => Le.dry⟩
 | n + 1, n' + 1, hn => by
  have IH := gle hN (Nat.le_of_succ_le_succ hn)
  refine ⟨Le.typP hN IH.typ, Le.blockP hN IH.stmt, ?_, Le.branchP (IH.expr _) IH.block IH.branch, fun b => Le.binL hN (IH.unary b) _, fun b => ?_⟩
  ·exact Le.peek IH.block (Le.peek IH.branch (Le.tok (Le.forP (IH.expr _) IH.block) (Le.bret (Le.simpleP hN IH.typ (IH.expr _)))))
  ·exact Le.oneOf (fun op => Le.bret (IH.unary b)) (Le.bind (Le.primP hN IH.typ IH.block (IH.expr _)) fun t => Le.postP hN (IH.expr _) t hN)
theorem Le.declG {N N' n n' : Nat} (hN : N ≤ N') (hn : n ≤ n') : Le (declG N n) (declG N' n') := Le.declP hN (gle hN hn).typ (gle hN hn).block
theorem Le.progL {decl decl' : Pp Tree} (h : Le decl decl') : ∀ {j j' : Nat}, j ≤ j' → Le (progL decl j) (progL decl' j')
 | 0, _, _ => Le.dry
 | j + 1, j' + 1, hj => fun f k hx => by
  have hr : Le (Ps.bind decl fun a => Ps.bind (Ps.progL decl j) fun l => Ps.ret (a :: l)) (Ps.bind decl' fun a => Ps.bind (Ps.progL decl' j') fun l => Ps.ret (a :: l)) := Le.bind h fun a => Le.bret (Le.progL h (Nat.le_of_succ_le_succ hj))
  unfold Ps.progL at hx ⊢
  cases hb : (f k).isNone with
  | true => simp only [cond_true]
  | false => simp only [hb, cond_false] at hx ⊢; exact hr f k hx
theorem Le.program {M M' : Nat} (hM : M ≤ M') : Le (program M) (program M') := Le.progL (Le.declG (by omega) (by omega)) (by omega)
end Go.Ps


/- PsScut -/
set_option linter.unusedVariables false
set_option linter.unusedSimpArgs false
namespace Go.Sep
theorem scanD_ok {s : Str} (h : (scanD s).e = 0) : s.length ≤ 65536 ∧ cutF (s.length + 1) s 0 0 = .ok (scanD s).list := by
 by_cases h1 : 65536 < s.length
 ·rw [scanD, if_pos h1] at h; cases h
 have hD : scanD s = .of (cutF (s.length + 1) s 0 0) := by rw [scanD, if_neg h1]
 refine ⟨by omega, ?_⟩
 rw [hD] at h ⊢
 cases hc : cutF (s.length + 1) s 0 0 with
 | ok l => rfl
 | error e =>
  obtain ⟨a, e⟩ := e
  rw [hc] at h
  replace h : e = 0 := h
  have := (cutF_err _ _ _ _ _ _ hc (by omega)).2.2
  omega
end Go.Sep


/- PsPlcP -/
set_option linter.unusedVariables false
set_option linter.unusedSimpArgs false
namespace Go.Sep
theorem parseD_cases (s : Str) :
  (∃ ds k, (scanD s).e = 0 ∧ Ps.program (scanD s).list.length (tkF (scanD s).list) 0 = .ok ds k ∧ (Tree.mk 1 [] 0 ds).size ≤ 20000 ∧ (Tree.mk 1 [] 0 ds).deep ≤ 100 ∧ parseD s = ⟨.mk 1 [] 0 ds, 0, 0⟩) ∨
  (∃ a e, (e = 4 ∨ e = 13) ∧ 0 ≤ a ∧ a ≤ (s.length : Int) ∧ parseD s = ⟨emptyT, a, e⟩) ∨
  (∃ a, (scanD s).e ≠ 0 ∧ 0 ≤ a ∧ a ≤ (s.length : Int) ∧ parseD s = ⟨emptyT, a, 3⟩) ∨
  (∃ k, (scanD s).e = 0 ∧ Ps.program (scanD s).list.length (tkF (scanD s).list) 0 = .bad k ∧ parseD s = ⟨emptyT, placeD s (scanD s).list k, 3⟩) := by
 by_cases he : (scanD s).e = 0
 ·rw [show parseD s = parseL s (scanD s).list by rw [parseD, if_pos he]]
  have hn := program_ne (scanD s).list
  rw [parseL]
  cases hp : Ps.program (scanD s).list.length (tkF (scanD s).list) 0 with
  | ok ds k =>
   simp only
   by_cases hc : (Tree.mk 1 [] 0 ds).size ≤ 20000 ∧ (Tree.mk 1 [] 0 ds).deep ≤ 100
   ·rw [if_pos hc]
    exact .inl ⟨ds, k, he, rfl, hc.1, hc.2, rfl⟩
   ·rw [if_neg hc]
    exact .inr (.inl ⟨0, 4, .inl rfl, by omega, by omega, rfl⟩)
  | bad k => exact .inr (.inr (.inr ⟨k, he, rfl, rfl⟩))
  | out => exact absurd hp hn
 ·rw [show parseD s = ⟨emptyT, ((scanD s).at_ : Int), (scanD s).e⟩ by rw [parseD, if_neg he]]
  rcases scanD_cases s with ⟨_, e⟩ | ⟨_, l, e, _⟩ | ⟨_, a, e', e, h1, h2⟩
  ·rw [e]
   exact .inr (.inl ⟨0, 13, .inr rfl, by omega, by omega, rfl⟩)
  ·rw [e] at he; exact absurd rfl he
  ·rw [e]
   rcases h2 with rfl | ⟨rfl, _⟩
   ·exact .inr (.inl ⟨a, 4, .inl rfl, by omega, by omega, rfl⟩)
   ·exact .inr (.inr (.inl ⟨a, by show (3 : Int) ≠ 0; decide, by omega, by omega, rfl⟩))
end Go.Sep


/- ScPlain3 -/
set_option linter.unusedVariables false
set_option linter.unusedSimpArgs false
namespace Go.Sep
def valN : Str → Nat → Nat
 | [], a => a
 | c :: r, a => valN r (a * 10 + (c.toNat - 48))
structure Dec (s : Str) (n : Nat) : Prop where
 pos : s ≠ []
 dig : s.all dgt = true
 val : valN s 0 = n
 lead : s.head? ≠ some 48 ∨ s.length = 1
structure DecAt (s : Str) (k n : Nat) : Prop where
 dig : s.all dgt = true
 val : k * 10 ^ s.length + valN s 0 = n
 lead : k = 0 → s ≠ [] → s.head? ≠ some 48 ∨ s.length = 1
theorem valN_app : ∀ (s : Str) (a : Nat), valN s a = a * 10 ^ s.length + valN s 0
 | [], a => by simp [valN]
 | c :: r, a => by
  rw [valN, valN, valN_app r (a * 10 + (c.toNat - 48)), valN_app r (0 * 10 + (c.toNat - 48)), List.length_cons, Nat.pow_succ]
  rw [Nat.zero_mul, Nat.zero_add, Nat.add_mul]
  have : a * 10 * 10 ^ r.length = a * (10 ^ r.length * 10) := by rw [Nat.mul_assoc, Nat.mul_comm 10]
  omega
theorem DecAt.start (n : Nat) : DecAt [] n n := ⟨rfl, by simp [valN], fun _ h => absurd rfl h⟩
theorem dig_lt (k : Nat) : (UInt8.ofNat (48 + k % 10)).toNat = 48 + k % 10 := by
 rw [UInt8.toNat_ofNat', Nat.mod_eq_of_lt (by omega)]
theorem DecAt.step {s : Str} {k n : Nat} (h : DecAt s k n) (hk : 0 < k ∨ s = []) : DecAt (UInt8.ofNat (48 + k % 10) :: s) (k / 10) n := by
 have hd := dig_lt k
 refine ⟨?_, ?_, ?_⟩
 ·rw [List.all_cons, h.dig, Bool.and_true]
  unfold dgt
  rw [hd]
  exact decide_eq_true (by omega)
 ·rw [valN, valN_app, hd, List.length_cons, Nat.pow_succ, ← h.val, Nat.zero_mul, Nat.zero_add]
  have h1 : 48 + k % 10 - 48 = k % 10 := by omega
  have h2 : k = k / 10 * 10 + k % 10 := by omega
  rw [h1]
  have h3 : k * 10 ^ s.length = k / 10 * (10 ^ s.length * 10) + k % 10 * 10 ^ s.length := by
   conv => lhs; rw [h2, Nat.add_mul]
   rw [Nat.mul_assoc, Nat.mul_comm 10]
  omega
 ·intro h0 _
  rcases hk with hk | rfl
  ·refine .inl fun e => ?_
   rw [List.head?_cons] at e
   have := congrArg UInt8.toNat (Option.some.inj e)
   rw [hd] at this
   have h48 : (48 : UInt8).toNat = 48 := rfl
   omega
  ·exact .inr rfl
theorem DecAt.done {s : Str} {n : Nat} (h : DecAt s 0 n) (hs : s ≠ []) : Dec s n := ⟨hs, h.dig, by have := h.val; omega, h.lead rfl hs⟩
end Go.Sep


/- ScPlain4 -/
set_option linter.unusedVariables false
set_option linter.unusedSimpArgs false
namespace Go.Sep
theorem blk_close : ∀ (b : Bool) (r y : Str), blk b r = r.length → blk b (r ++ 10 :: y) = r.length + 1 + blk false y
 | true, [], y, _ => by
  rw [List.nil_append, blk, if_pos (by decide)]
  simp
 | false, [], y, _ => by
  rw [List.nil_append, blk, if_pos (by decide)]
  simp
 | true, c :: r, y, h => by
  rw [blk] at h
  rw [List.cons_append, blk]
  simp only [List.length_cons] at h ⊢
  split
  ·rename_i hc
   rw [if_pos hc] at h
   rw [blk_close false r y (by omega)]; omega
  ·rename_i hc
   rw [if_neg hc] at h
   rw [blk_close true r y (by omega)]; omega
 | false, c :: r, y, h => by
  rw [blk] at h
  rw [List.cons_append, blk]
  simp only [List.length_cons] at h ⊢
  by_cases h1 : isSp c = true
  ·rw [if_pos h1] at h ⊢
   rw [blk_close false r y (by omega)]; omega
  ·rw [if_neg h1] at h ⊢
   by_cases h2 : c.toNat = 47 ∧ r.head? = some 47
   ·rw [if_pos h2] at h
    have hh : (r ++ 10 :: y).head? = some 47 := by
     cases r with
     | nil => simp at h2
     | cons x r => simpa using h2.2
    rw [if_pos ⟨h2.1, hh⟩, blk_close true r y (by omega)]; omega
   ·rw [if_neg h2] at h; omega
theorem takeWhile_stop {p : UInt8 → Bool} {c : UInt8} (hc : p c = false) : ∀ (w y : Str), ((w ++ c :: y).takeWhile p).length = (w.takeWhile p).length
 | [], y => by rw [List.nil_append, List.takeWhile_cons, if_neg (by rw [hc]; decide)]; rfl
 | x :: w, y => by
  rw [List.cons_append, List.takeWhile_cons, List.takeWhile_cons]
  split
  ·simp [takeWhile_stop hc w y]
  ·rfl
theorem span_nl {p : UInt8 → Bool} (hp : p 10 = false) (w y : Str) : spanOf p (w ++ 10 :: y) = spanOf p w := takeWhile_stop hp w y
theorem escX_app {r : Str} {b : UInt8} {n : Nat} (y : Str) (h : escX r = some (b, n)) : escX (r ++ y) = some (b, n) := by
 match r, h with
 | x :: z :: r', h => exact h
theorem escB_app {r : Str} {b : UInt8} {n : Nat} (y : Str) (h : escB r = some (b, n)) : escB (r ++ y) = some (b, n) := by
 cases r with
 | nil => cases h
 | cons c r =>
  rw [List.cons_append]
  rw [escB] at h ⊢
  by_cases h1 : c.toNat = 110
  ·rw [if_pos h1] at h ⊢; exact h
  ·rw [if_neg h1] at h ⊢
   by_cases h2 : c.toNat = 116
   ·rw [if_pos h2] at h ⊢; exact h
   ·rw [if_neg h2] at h ⊢
    by_cases h3 : c.toNat = 34 ∨ c.toNat = 92
    ·rw [if_pos h3] at h ⊢; exact h
    ·rw [if_neg h3] at h ⊢
     by_cases h4 : c.toNat = 120
     ·rw [if_pos h4] at h ⊢; exact escX_app y h
     ·rw [if_neg h4] at h; cases h
theorem lit_app (y : Str) : ∀ (N : Nat) (r t : Str) (n : Nat), r.length < N → lit r = some (t, n) → lit (r ++ y) = some (t, n)
 | 0, _, _, _, h, _ => by omega
 | N + 1, [], _, _, _, h => by cases h
 | N + 1, c :: r, t, n, hN, h => by
  simp only [List.length_cons] at hN
  rw [List.cons_append]
  by_cases h1 : c.toNat = 34
  ·rw [lit_quote h1] at h ⊢; exact h
  by_cases h2 : c.toNat = 10
  ·rw [lit_nl h2] at h; cases h
  by_cases h3 : c.toNat = 92
  ·cases he : escB r with
   | none => rw [lit_esc_none h3 he] at h; cases h
   | some p =>
    obtain ⟨b, k⟩ := p
    rw [lit_esc_some h3 he] at h
    cases hl : lit (r.drop k) with
    | none => rw [hl] at h; cases h
    | some q =>
     obtain ⟨t', n'⟩ := q
     rw [hl] at h
     have hk := escB_pos he
     rw [lit_esc_some h3 (escB_app y he), List.drop_append_of_le_length (by omega), lit_app y N (r.drop k) t' n' (by rw [List.length_drop]; omega) hl]
     exact h
  ·cases hl : lit r with
   | none => rw [lit_one h1 h2 h3, hl] at h; cases h
   | some q =>
    obtain ⟨t', n'⟩ := q
    rw [lit_one h1 h2 h3, hl] at h
    rw [lit_one h1 h2 h3, lit_app y N r t' n' (by omega) hl]
    exact h
theorem mark_no10 : ∀ p ∈ markL, (10 : UInt8) ∉ p := by decide
theorem find_app {w p y : Str} : ∀ l : List Str, (∀ q ∈ l, (10 : UInt8) ∉ q) → l.find? (fun q => prefixB q w) = some p → l.find? (fun q => prefixB q (w ++ 10 :: y)) = some p
 | [], _, h => by cases h
 | q :: l, hl, h => by
  by_cases hq : prefixB q w = true
  ·rw [List.find?_cons_of_pos (p := fun q => prefixB q w) hq] at h
   cases h
   refine List.find?_cons_of_pos (p := fun q => prefixB q (w ++ 10 :: y)) (prefixB_iff.2 ?_)
   obtain ⟨h1, h2⟩ := prefixB_iff.1 hq
   exact ⟨by rw [List.length_append]; omega, by rw [List.take_append_of_le_length h1]; exact h2⟩
  ·rw [List.find?_cons_of_neg (p := fun q => prefixB q w) hq] at h
   rw [List.find?_cons_of_neg (p := fun q => prefixB q (w ++ 10 :: y))]
   ·exact find_app l (fun q h => hl q (by simp [h])) h
   ·intro h3
    obtain ⟨h1, h2⟩ := prefixB_iff.1 h3
    by_cases hle : q.length ≤ w.length
    ·rw [List.take_append_of_le_length hle] at h2
     exact hq (prefixB_iff.2 ⟨hle, h2⟩)
    ·refine hl q (by simp) ?_
     rw [← h2]
     refine List.mem_of_getElem? (i := w.length) ?_
     rw [List.getElem?_take_of_lt (by omega), List.getElem?_append_right (Nat.le_refl _), Nat.sub_self]
     rfl
theorem tokD_app {w y : Str} {t : Tok} {n : Nat} (h : tokD w = some (t, n)) : tokD (w ++ 10 :: y) = some (t, n) := by
 have hle := tokD_le h
 cases w with
 | nil => cases h
 | cons c r =>
  have hsl : spanOf lod (c :: (r ++ 10 :: y)) = spanOf lod (c :: r) := span_nl (by decide) (c :: r) y
  have hsd : spanOf dgt (c :: (r ++ 10 :: y)) = spanOf dgt (c :: r) := span_nl (by decide) (c :: r) y
  have htk : (c :: (r ++ 10 :: y)).take (spanOf lod (c :: r)) = (c :: r).take (spanOf lod (c :: r)) := by
   rw [← List.cons_append, List.take_append_of_le_length (span_le lod _)]
  rw [List.cons_append]
  by_cases h1 : ltr c = true
  ·rw [tokD, if_pos h1] at h ⊢
   rw [hsl, htk]; exact h
  ·by_cases h2 : dgt c = true
   ·rw [tokD, if_neg h1, if_pos h2] at h ⊢
    rw [hsl, hsd, htk]; exact h
   ·by_cases h3 : c.toNat = 34
    ·rw [tokD, if_neg h1, if_neg h2, if_pos h3] at h ⊢
     cases hl : lit r with
     | none => rw [hl] at h; cases h
     | some q =>
      obtain ⟨t', n'⟩ := q
      rw [hl] at h
      rw [lit_app (10 :: y) (r.length + 1) r t' n' (by omega) hl]
      exact h
    ·rw [tokD, if_neg h1, if_neg h2, if_neg h3] at h ⊢
     cases hf : markL.find? (fun p => prefixB p (c :: r)) with
     | none => rw [hf] at h; cases h
     | some p =>
      rw [hf] at h
      have := find_app (w := c :: r) (p := p) (y := y) markL mark_no10 hf
      rw [List.cons_append] at this
      rw [this]
      exact h
structure Own1 (w : Str) (t : Tok) (n : Nat) : Prop where
 tok : tokD w = some (t, n)
 blk : blk false w = 0
 tail : Sep.blk false (w.drop n) = w.length - n
end Go.Sep


/- PsJoinP -/
set_option linter.unusedVariables false
set_option linter.unusedSimpArgs false
namespace Go.Sep
theorem blk_open : ∀ (b : Bool) (r y : Str), blk b r < r.length → blk b (r ++ 10 :: y) = blk b r
 | true, [], y, h => by simp at h
 | false, [], y, h => by simp at h
 | true, c :: r, y, h => by
  rw [blk] at h ⊢
  rw [List.cons_append, blk]
  simp only [List.length_cons] at h
  split
  ·rename_i hc
   rw [if_pos hc] at h
   rw [blk_open false r y (by omega)]
  ·rename_i hc
   rw [if_neg hc] at h
   rw [blk_open true r y (by omega)]
 | false, c :: r, y, h => by
  rw [blk] at h ⊢
  rw [List.cons_append, blk]
  simp only [List.length_cons] at h
  by_cases h1 : isSp c = true
  ·rw [if_pos h1] at h ⊢
   rw [if_pos h1, blk_open false r y (by omega)]
  ·rw [if_neg h1] at h ⊢
   rw [if_neg h1]
   by_cases h2 : c.toNat = 47 ∧ r.head? = some 47
   ·rw [if_pos h2] at h
    have hh : (r ++ 10 :: y).head? = some 47 := by
     cases r with
     | nil => simp at h2
     | cons x r => simpa using h2.2
    rw [if_pos ⟨h2.1, hh⟩, if_pos h2, blk_open true r y (by omega)]
   ·rw [if_neg h2, if_neg]
    rintro ⟨h3, h4⟩
    cases r with
    | nil => simp at h4
    | cons x r => exact h2 ⟨h3, by simpa using h4⟩
def Tok.move (d : Nat) (t : Tok) : Tok := ⟨t.kind, t.text, t.num, t.at_ + d⟩
theorem cutF_move : ∀ (f : Nat) (r : Str) (a0 k0 : Nat) (l : List Tok), cutF f r a0 k0 = .ok l → ∀ (d k g : Nat), r.length < g → k ≤ 20000 → (k + l.length ≤ 20000 → cutF g r (a0 + d) k = .ok (l.map (Tok.move d))) ∧ (20000 < k + l.length → ∃ a, cutF g r (a0 + d) k = .error (a, 4))
 | 0, r, a0, k0, l, h, _, _, _, _, _ => by cases h
 | f + 1, r, a0, k0, l, h, d, k, 0, hg, hk => by omega
 | f + 1, r, a0, k0, l, h, d, k, g + 1, hg, hk => by
  rw [cutF] at h
  rw [cutF]
  by_cases h1 : r.drop (blk false r) = []
  ·rw [if_pos h1] at h ⊢
   injection h with h
   subst h
   exact ⟨fun _ => rfl, fun hx => by simp at hx; omega⟩
  rw [if_neg h1] at h ⊢
  by_cases h2 : k0 = 20000
  ·rw [if_pos h2] at h; cases h
  rw [if_neg h2] at h
  cases ht : tokD (r.drop (blk false r)) with
  | none => rw [ht] at h; cases h
  | some p =>
   obtain ⟨u, n⟩ := p
   rw [ht] at h
   simp only at h
   have hn := tokD_le ht
   rw [List.length_drop] at hn
   cases hc : cutF f ((r.drop (blk false r)).drop n) (a0 + blk false r + n) (k0 + 1) with
   | error e => rw [hc] at h; cases h
   | ok l' =>
    rw [hc] at h
    simp only [Except.ok.injEq] at h
    subst h
    by_cases h3 : k = 20000
    ·rw [if_pos h3]
     exact ⟨fun hx => by simp at hx; omega, fun _ => ⟨_, rfl⟩⟩
    rw [if_neg h3]
    obtain ⟨g1, g2⟩ := cutF_move f _ _ _ _ hc d (k + 1) g (by rw [List.length_drop, List.length_drop]; omega) (by omega)
    rw [show a0 + blk false r + n + d = a0 + d + blk false r + n by omega] at g1 g2
    simp only [List.length_cons]
    refine ⟨fun hx => ?_, fun hx => ?_⟩
    ·rw [g1 (by omega)]
     simp only [List.map_cons, Tok.move]
     rw [show ((a0 + d + blk false r : Nat) : Int) = ((a0 + blk false r : Nat) : Int) + (d : Int) by omega]
    ·obtain ⟨a, ha⟩ := g2 (by omega)
     rw [ha]
     exact ⟨a, rfl⟩
theorem cutF_join : ∀ (f : Nat) (r : Str) (at_ k : Nat) (l : List Tok), cutF f r at_ k = .ok l → r.length < f → ∀ (y : Str) (l' : List Tok) (k0 fy : Nat), cutF fy y 0 k0 = .ok l' → ∀ g, (r ++ 10 :: y).length < g → k ≤ 20000 →
  (k + l.length + l'.length ≤ 20000 → cutF g (r ++ 10 :: y) at_ k = .ok (l ++ l'.map (Tok.move (at_ + r.length + 1)))) ∧ (20000 < k + l.length + l'.length → ∃ a, cutF g (r ++ 10 :: y) at_ k = .error (a, 4))
 | 0, r, at_, k, l, h, hf, y, l', k0, fy, hy, g, hg, hk => by omega
 | f + 1, r, at_, k, l, h, hf, y, l', k0, fy, hy, 0, hg, hk => by omega
 | f + 1, r, at_, k, l, h, hf, y, l', k0, fy, hy, g + 1, hg, hk => by
  have hb := blk_le false r
  rw [List.length_append, List.length_cons] at hg
  rw [cutF] at h
  by_cases h1 : r.drop (blk false r) = []
  ·rw [if_pos h1] at h
   injection h with h
   subst h
   have hbl : blk false r = r.length := by
    have := congrArg List.length h1
    rw [List.length_drop] at this
    simp at this; omega
   have hbc := blk_close false r y hbl
   have hd : (r ++ 10 :: y).drop (r.length + 1 + blk false y) = y.drop (blk false y) := by
    rw [show r.length + 1 + blk false y = (r ++ [10]).length + blk false y by simp, show r ++ 10 :: y = (r ++ [10]) ++ y by simp, List.drop_append]
    simp
   have hm := cutF_move fy y 0 k0 l' hy (at_ + r.length + 1) k (g + 1) (by omega) hk
   have he : cutF (g + 1) (r ++ 10 :: y) at_ k = cutF (g + 1) y (0 + (at_ + r.length + 1)) k := by
    rw [cutF, cutF, hbc, hd, show at_ + (r.length + 1 + blk false y) = 0 + (at_ + r.length + 1) + blk false y by omega]
   rw [he]
   simpa using hm
  rw [if_neg h1] at h
  have hlt : blk false r < r.length := by
   refine Nat.lt_of_not_le fun hge => h1 (List.drop_eq_nil_of_le hge)
  have hbo := blk_open false r y hlt
  have hd : (r ++ 10 :: y).drop (blk false r) = r.drop (blk false r) ++ 10 :: y := by
   rw [List.drop_append_of_le_length (by omega)]
  by_cases h2 : k = 20000
  ·rw [if_pos h2] at h; cases h
  rw [if_neg h2] at h
  rw [cutF, hbo, hd, if_neg (by simp), if_neg h2]
  cases ht : tokD (r.drop (blk false r)) with
  | none => rw [ht] at h; cases h
  | some p =>
   obtain ⟨u, n⟩ := p
   rw [ht] at h
   rw [tokD_app ht]
   simp only at h ⊢
   have hn := tokD_le ht
   rw [List.length_drop] at hn
   have hd2 : (r.drop (blk false r) ++ 10 :: y).drop n = (r.drop (blk false r)).drop n ++ 10 :: y := by
    rw [List.drop_append_of_le_length (by rw [List.length_drop]; omega)]
   rw [hd2]
   cases hc : cutF f ((r.drop (blk false r)).drop n) (at_ + blk false r + n) (k + 1) with
   | error e => rw [hc] at h; cases h
   | ok l1 =>
    rw [hc] at h
    simp only [Except.ok.injEq] at h
    subst h
    obtain ⟨g1, g2⟩ := cutF_join f _ _ _ _ hc (by rw [List.length_drop, List.length_drop]; omega) y l' k0 fy hy g (by rw [List.length_append, List.length_drop, List.length_drop, List.length_cons]; omega) (by omega)
    rw [List.length_drop, List.length_drop, show at_ + blk false r + n + (r.length - blk false r - n) + 1 = at_ + r.length + 1 by omega] at g1
    simp only [List.length_cons]
    refine ⟨fun hx => ?_, fun hx => ?_⟩
    ·rw [g1 (by omega)]
     rfl
    ·obtain ⟨a, ha⟩ := g2 (by omega)
     rw [ha]
     exact ⟨a, rfl⟩
theorem scan_join {s t : Str} (h1 : (scanD s).e = 0) (h2 : (scanD t).e = 0) (hl : s.length + t.length < 65536) :
  scanD (s ++ 10 :: t) = ⟨(scanD s).list ++ (scanD t).list.map (Tok.move (s.length + 1)), 0, 0⟩ ∨ ∃ a, scanD (s ++ 10 :: t) = ⟨[], a, 4⟩ := by
 obtain ⟨a1, a2⟩ := scanD_ok h1
 obtain ⟨b1, b2⟩ := scanD_ok h2
 obtain ⟨g1, g2⟩ := cutF_join _ _ _ _ _ a2 (by omega) t _ _ _ b2 ((s ++ 10 :: t).length + 1) (by omega) (by omega)
 have hD : scanD (s ++ 10 :: t) = .of (cutF ((s ++ 10 :: t).length + 1) (s ++ 10 :: t) 0 0) := by
  rw [scanD, if_neg (by rw [List.length_append, List.length_cons]; omega)]
 rw [hD]
 rcases Nat.lt_or_ge 20000 (0 + (scanD s).list.length + (scanD t).list.length) with hx | hx
 ·obtain ⟨a, ha⟩ := g2 hx
  rw [ha]
  exact .inr ⟨a, rfl⟩
 ·rw [g1 hx, Nat.zero_add]
  exact .inl rfl
end Go.Sep


/- PsClos -/
set_option linter.unusedVariables false
set_option linter.unusedSimpArgs false
namespace Go.Ps
open Go.Sep (Tree Str)
variable {α β : Type}
def Cl0 (p : Pp α) : Prop := ∀ (f f' : F) (k : Nat) (a : α) (k' : Nat), p f k = .ok a k' → (∀ i, i < k' → f' i = f i) → k ≤ k' ∧ p f' k = .ok a k'
def Cl1 (p : Pp α) : Prop := ∀ (f f' : F) (k : Nat) (a : α) (k' : Nat), p f k = .ok a k' → (∀ i, i < k' → f' i = f i) → k < k' ∧ p f' k = .ok a k'
theorem Cl1.zero {p : Pp α} (h : Cl1 p) : Cl0 p := fun f f' k a k' e hf => ⟨Nat.le_of_lt (h f f' k a k' e hf).1, (h f f' k a k' e hf).2⟩
theorem Cl0.ret (a : α) : Cl0 (ret a) := fun f f' k b k' e hf => by
 injection e with e1 e2
 subst e1 e2
 exact ⟨Nat.le_refl _, rfl⟩
theorem Cl1.fail : Cl1 (fail : Pp α) := fun f f' k b k' e hf => by cases e
theorem Cl1.dry : Cl1 (dry : Pp α) := fun f f' k b k' e hf => by cases e
theorem Cl1.bind {p : Pp α} {g : α → Pp β} (hp : Good p) (hg : ∀ a, Cl1 (g a)) : Cl1 (Ps.bind p g) := fun f f' k b k' e hf => by
 obtain ⟨a, k1, h1, h2⟩ := bind_ok_iff e
 obtain ⟨h3, h4⟩ := hg a f f' k1 b k' h2 hf
 refine ⟨by have := hp.le h1; omega, ?_⟩
 have h5 : p f' k = .ok a k1 := hp.agree (q := k1 + 1) (fun i hi => hf i (by omega)) h1 (by omega)
 rw [bind_ok h5, h4]
theorem Cl1.bret {p : Pp α} {g : α → β} (hp : Cl1 p) : Cl1 (Ps.bind p fun a => Ps.ret (g a)) := fun f f' k b k' e hf => by
 obtain ⟨a, k1, h1, h2⟩ := bind_ok_iff e
 injection h2 with h2 h3
 subst h2 h3
 obtain ⟨h3, h4⟩ := hp f f' k a k1 h1 hf
 exact ⟨h3, by rw [bind_ok h4]; rfl⟩
theorem isM_same {s : Str} {f f' : F} {k : Nat} (h : f' k = f k) : isM s f' k = isM s f k := by unfold isM; rw [h]
theorem Cl1.tok {s : Str} {A B : Pp α} (hA : Cl0 A) (hB : Cl1 B) : Cl1 (tok s A B) := fun f f' k a k' e hf => by
 unfold Ps.tok at e ⊢
 cases hb : isM s f k with
 | true =>
  simp only [hb, cond_true] at e
  obtain ⟨h1, h2⟩ := hA f f' _ a k' e hf
  rw [isM_same (hf k (by omega)), hb]
  exact ⟨by omega, h2⟩
 | false =>
  simp only [hb, cond_false] at e
  obtain ⟨h1, h2⟩ := hB f f' _ a k' e hf
  rw [isM_same (hf k (by omega)), hb]
  exact ⟨h1, h2⟩
theorem Cl1.need {s : Str} {A : Pp α} (hA : Cl0 A) : Cl1 (need s A) := Cl1.tok hA Cl1.fail
theorem Cl1.name {A : Str → Pp α} (hA : ∀ t, Cl0 (A t)) : Cl1 (name A) := fun f f' k a k' e hf => by
 unfold Ps.name Ps.tkn at e ⊢
 cases hx : f k with
 | none => simp only [hx] at e; cases e
 | some t =>
  cases hb : decide (t.kind = 1) with
  | true =>
   simp only [hx, hb, cond_true] at e
   obtain ⟨h1, h2⟩ := hA t.text f f' _ a k' e hf
   rw [hf k (by omega), hx]
   simp only [hb, cond_true]
   exact ⟨by omega, h2⟩
  | false => simp only [hx, hb, cond_false] at e; cases e
theorem Cl1.upto {X : Pp α} {s : Str} (hX : Good X) : ∀ j, Cl1 (upto j s X)
 | 0 => Cl1.dry
 | j + 1 => Cl1.tok (Cl0.ret _) (Cl1.bind hX fun a => Cl1.bret (Cl1.upto hX j))
variable {N : Nat}
theorem Cl1.body {kind : Int} {nm : Str} {mb : Pp Tree} (h : Good mb) : Cl1 (bodyP N kind nm mb) := Cl1.need (Cl1.bret (Cl1.upto (Good.field h) N)).zero
theorem Cl1.blockP {stmt : Pp Tree} (h : Good stmt) : Cl1 (blockP N stmt) := Cl1.need (Cl1.bret (Cl1.upto h N)).zero
theorem Cl1.declP {typ block : Pp Tree} (h : Good typ) (ht : Takes begins typ) (hb : Cl1 block) : Cl1 (declP N typ block) :=
 Cl1.tok (Cl1.name fun nm => (Cl1.tok (Cl1.body (Good.sig h ht)).zero (Cl1.need (Cl1.body h).zero)).zero).zero (Cl1.need (Cl1.tok
  (Cl1.name fun recv => (Cl1.need (Cl1.name fun of => (Cl1.need (Cl1.name fun nm => (Cl1.bind (Good.sig h ht) fun s => Cl1.bret hb).zero).zero).zero).zero).zero).zero
  (Cl1.name fun nm => (Cl1.bind (Good.sig h ht) fun s => Cl1.bret hb).zero)).zero)
theorem Cl1.block : ∀ n, Cl1 (gr N n).block
 | 0 => Cl1.dry
 | n + 1 => Cl1.blockP (ggood N n).stmt
theorem Cl1.declG (n : Nat) : Cl1 (declG N n) := Cl1.declP (ggood N n).typ (ggood N n).typ2 (Cl1.block n)
def Steps (d : Pp Tree) (f : F) : Nat → List Tree → Nat → Prop
 | k, [], e => k = e
 | k, a :: l, e => f k ≠ none ∧ ∃ k1, d f k = .ok a k1 ∧ Steps d f k1 l e
theorem steps_of {d : Pp Tree} {f : F} : ∀ (j k : Nat) (ds : List Tree) (e : Nat), progL d j f k = .ok ds e → Steps d f k ds e ∧ f e = none
 | 0, k, ds, e, h => by cases h
 | j + 1, k, ds, e, h => by
  unfold progL at h
  cases hx : f k with
  | none =>
   simp only [hx, Option.isNone_none, cond_true] at h
   injection h with h1 h2
   subst h1 h2
   exact ⟨rfl, hx⟩
  | some t =>
   simp only [hx, Option.isNone_some, cond_false] at h
   obtain ⟨a, k1, h1, h2⟩ := bind_ok_iff h
   obtain ⟨l, k2, h3, h4⟩ := bind_ok_iff h2
   injection h4 with h4 h5
   subst h4 h5
   obtain ⟨h6, h7⟩ := steps_of j k1 l k2 h3
   exact ⟨⟨by rw [hx]; exact fun e => (by cases e), k1, h1, h6⟩, h7⟩
theorem Steps.le {d d' : Pp Tree} (h : Le d d') {f : F} : ∀ {ds : List Tree} {k e : Nat}, Steps d f k ds e → Steps d' f k ds e
 | [], k, e, hs => hs
 | a :: l, k, e, ⟨h1, k1, h2, h3⟩ => ⟨h1, k1, (by rw [h f k (by rw [h2]; exact fun e => (by cases e)), h2]), Steps.le h h3⟩
theorem Steps.mono {d : Pp Tree} (h : Cl1 d) {f : F} : ∀ {ds : List Tree} {k e : Nat}, Steps d f k ds e → k ≤ e
 | [], k, e, hs => Nat.le_of_eq hs
 | a :: l, k, e, ⟨h1, k1, h2, h3⟩ => by
  have := (h f f k a k1 h2 fun _ _ => rfl).1
  have := Steps.mono h h3
  omega
theorem Steps.ext {d : Pp Tree} (h : Cl1 d) {f f' : F} : ∀ {ds : List Tree} {k e : Nat}, Steps d f k ds e → (∀ i, i < e → f' i = f i) → Steps d f' k ds e
 | [], k, e, hs, hf => hs
 | a :: l, k, e, ⟨h1, k1, h2, h3⟩, hf => by
  have hle := Steps.mono h h3
  obtain ⟨h4, h5⟩ := h f f' k a k1 h2 fun i hi => hf i (by omega)
  exact ⟨by rw [hf k (by omega)]; exact h1, k1, h5, Steps.ext h h3 hf⟩
theorem Steps.shift {d : Pp Tree} (h : Good d) {f : F} {c : Nat} : ∀ {ds : List Tree} {k e : Nat}, Steps d (fun i => f (i + c)) k ds e → Steps d f (k + c) ds (e + c)
 | [], k, e, hs => by show k + c = e + c; rw [show k = e from hs]
 | a :: l, k, e, ⟨h1, k1, h2, h3⟩ => ⟨h1, k1 + c, by rw [h.shift f c k, h2]; rfl, Steps.shift h h3⟩
theorem Steps.app {d : Pp Tree} {f : F} : ∀ {ds ds' : List Tree} {k e e' : Nat}, Steps d f k ds e → Steps d f e ds' e' → Steps d f k (ds ++ ds') e'
 | [], ds', k, e, e', h, h' => by rw [show k = e from h]; exact h'
 | a :: l, ds', k, e, e', ⟨h1, k1, h2, h3⟩, h' => ⟨h1, k1, h2, Steps.app h3 h'⟩
theorem Steps.run {d : Pp Tree} {f : F} : ∀ {ds : List Tree} {k e : Nat} (j : Nat), Steps d f k ds e → f e = none → progL d j f k = .out ∨ progL d j f k = .ok ds e
 | _, _, _, 0, _, _ => .inl rfl
 | [], k, e, j + 1, h, he => by
  obtain rfl : k = e := h
  unfold progL
  rw [he]
  exact .inr rfl
 | a :: l, k, e, j + 1, ⟨h1, k1, h2, h3⟩, he => by
  have hn : (f k).isNone = false := by cases hx : f k with
   | none => exact absurd hx h1
   | some t => rfl
  unfold progL
  rw [hn]
  show (Ps.bind d fun a => Ps.bind (progL d j) fun l => Ps.ret (a :: l)) f k = .out ∨ (Ps.bind d fun a => Ps.bind (progL d j) fun l => Ps.ret (a :: l)) f k = .ok (a :: l) e
  rw [bind_ok h2]
  rcases Steps.run j h3 he with h | h
  ·exact .inl (bind_out h)
  ·exact .inr (by rw [bind_ok h]; rfl)
end Go.Ps
namespace Go.Sep
theorem program_join {l l' : List Tok} {d : Nat} {ds ds' : List Tree} {k k' : Nat} (h : Ps.program l.length (tkF l) 0 = .ok ds k) (h' : Ps.program l'.length (tkF l') 0 = .ok ds' k') :
  ∃ e, Ps.program (l ++ l'.map (Tok.move d)).length (tkF (l ++ l'.map (Tok.move d))) 0 = .ok (ds ++ ds') e := by
 have hlen : (l ++ l'.map (Tok.move d)).length = l.length + l'.length := by simp
 obtain ⟨s1, n1⟩ := Ps.steps_of _ _ _ _ h
 obtain ⟨s2, n2⟩ := Ps.steps_of _ _ _ _ h'
 have hk : k = l.length := by
  have := ((Ps.Run.program (tkF_none l)).ok 0 (Nat.le_refl _) (Nat.zero_le _) ds k h).2.1
  refine Nat.le_antisymm this (Nat.le_of_not_lt fun hlt => ?_)
  unfold tkF at n1
  rw [List.getElem?_eq_getElem hlt] at n1
  cases n1
 have hk' : k' = l'.length := by
  have := ((Ps.Run.program (tkF_none l')).ok 0 (Nat.le_refl _) (Nat.zero_le _) ds' k' h').2.1
  refine Nat.le_antisymm this (Nat.le_of_not_lt fun hlt => ?_)
  unfold tkF at n2
  rw [List.getElem?_eq_getElem hlt] at n2
  cases n2
 subst hk hk'
 rw [hlen]
 have e1 := s1.le (Ps.Le.declG (N' := l.length + l'.length + 1) (n' := 3 * (l.length + l'.length) + 4) (by omega) (by omega))
 have e2 := s2.le (Ps.Le.declG (N' := l.length + l'.length + 1) (n' := 3 * (l.length + l'.length) + 4) (by omega) (by omega))
 have hcl := Ps.Cl1.declG (N := l.length + l'.length + 1) (3 * (l.length + l'.length) + 4)
 have hgd := Ps.Good.declG (l.length + l'.length + 1) (3 * (l.length + l'.length) + 4)
 have f1 := e1.ext hcl (f' := tkF (l ++ l'.map (Tok.move d))) fun i hi => by
  unfold tkF
  rw [List.getElem?_append_left hi]
 have hsame : (fun i => tkF (l ++ l'.map (Tok.move d)) (i + l.length)) = tkF l' := by
  funext i
  unfold tkF
  rw [List.getElem?_append_right (by omega), Nat.add_sub_cancel, List.getElem?_map]
  cases l'[i]? <;> rfl
 have f2 := Ps.Steps.shift hgd (f := tkF (l ++ l'.map (Tok.move d))) (c := l.length) (k := 0) (by rw [hsame]; exact e2)
 rw [Nat.zero_add] at f2
 have hn := program_ne (l ++ l'.map (Tok.move d))
 rw [hlen] at hn
 rcases (f1.app f2).run (l.length + l'.length + 1) (tkF_none _ _ (by rw [hlen]; omega)) with h3 | h3
 ·exact absurd h3 hn
 ·exact ⟨_, h3⟩
theorem parse_join {s t : Str} {ds ds' : List Tree} {a a' : Int} (h1 : parseD s = ⟨.mk 1 [] 0 ds, a, 0⟩) (h2 : parseD t = ⟨.mk 1 [] 0 ds', a', 0⟩) (hl : s.length + t.length < 65536) :
  (parseD (s ++ 10 :: t)).e = 4 ∨ parseD (s ++ 10 :: t) = ⟨.mk 1 [] 0 (ds ++ ds'), 0, 0⟩ := by
 rcases parseD_cases s with ⟨x, k, g1, g2, g3, g4, g5⟩ | ⟨_, e, he, _, _, g5⟩ | ⟨_, _, _, _, g5⟩ | ⟨_, _, _, g5⟩
 rotate_left 1
 ·rw [g5] at h1; injection h1 with _ _ h1; omega
 ·rw [g5] at h1; injection h1 with _ _ h1; omega
 ·rw [g5] at h1; injection h1 with _ _ h1; omega
 rw [g5] at h1
 injection h1 with h1
 injection h1 with _ _ _ h1
 subst h1
 rcases parseD_cases t with ⟨y, k', f1, f2, f3, f4, f5⟩ | ⟨_, e, he, _, _, f5⟩ | ⟨_, _, _, _, f5⟩ | ⟨_, _, _, f5⟩
 rotate_left 1
 ·rw [f5] at h2; injection h2 with _ _ h2; omega
 ·rw [f5] at h2; injection h2 with _ _ h2; omega
 ·rw [f5] at h2; injection h2 with _ _ h2; omega
 rw [f5] at h2
 injection h2 with h2
 injection h2 with _ _ _ h2
 subst h2
 rcases scan_join g1 f1 hl with hs | ⟨b, hs⟩
 ·obtain ⟨e, he⟩ := program_join (d := s.length + 1) g2 f2
  rw [show parseD (s ++ 10 :: t) = parseL (s ++ 10 :: t) ((scanD s).list ++ (scanD t).list.map (Tok.move (s.length + 1))) by rw [parseD, hs]; rfl, parseL, he]
  simp only
  split
  ·exact .inr rfl
  ·exact .inl rfl
 ·rw [parseD, hs]
  exact .inl rfl
end Go.Sep


/- PsJoinsW -/
set_option linter.unusedVariables false
set_option linter.unusedSimpArgs false
namespace Go.Sep
open Go.Proofs
attribute [local irreducible] TC TO OT TCallX TCall DO DOt thenQ blockQ retQ At
theorem parse_ok {s : Str} (h : (parseD s).e = 0) : s.length ≤ 65536 ∧ ∃ ds, ds.length ≤ 20000 ∧ parseD s = ⟨.mk 1 [] 0 ds, 0, 0⟩ := by
 rcases parseD_cases s with ⟨ds, k, g1, g2, g3, g4, g5⟩ | ⟨a, e, he, _, _, g5⟩ | ⟨_, _, _, _, g5⟩ | ⟨_, _, _, g5⟩
 ·have := len_sizeL ds
  simp only [Tree.size] at g3
  exact ⟨(scanD_ok g1).1, ds, by omega, g5⟩
 ·rw [g5] at h
  replace h : e = 0 := h
  omega
 ·rw [g5] at h; cases h
 ·rw [g5] at h; cases h
attribute [local irreducible] parseD scanD
set_option maxHeartbeats 4000000 in
theorem parseJoins_walk (m : Mem) (L : List Item) (s t : Str) (hE : Errs m) : TCall Tryz.prog 6 ⟨[strV s, strV t]⟩ m L (Made m L fun r _ => r = .bool true) := by
 unfold TCall
 refine TCallX.enter Tryz.func6 rfl 72 rfl ?_
 repeat (first|refine q1 ?_|refine q3 ?_|refine q4 tab rfl rfl ?_|refine q5 ?_|refine q6 ?_)
 refine TO.step rfl (OT.call rfl rfl rfl rfl rfl rfl goes8 ((parse_law program_ne _ _ s hE).x ?_));
 rintro _ m1 _ ⟨hm1, rfl, x, rfl, hx⟩
 repeat (refine q4 tab rfl rfl ?_)
 refine TO.step rfl (OT.alloc tab rfl rfl rfl rfl (fun b => ?_))
 skip
 (refine TO.step rfl (OT.storeL0 tab 0 rfl rfl rfl rfl rfl rfl rfl rfl ?_))
 repeat (first|refine q1 ?_|refine q3 ?_|refine q4 tab rfl rfl ?_|refine q5 ?_|refine q6 ?_)
 refine TO.step rfl (OT.call rfl rfl rfl rfl rfl rfl goes8 ((parse_law program_ne _ _ t (hE.mono hm1)).x ?_));
 rintro _ m2 _ ⟨hm2, rfl, y, rfl, hy⟩
 replace hx := hx.mono hm2
 have hm02 := Mem.le_trans hm1 hm2
 repeat (refine q4 tab rfl rfl ?_)
 refine TO.step rfl (OT.alloc tab rfl rfl rfl rfl (fun b2 => ?_))
 skip
 (refine TO.step rfl (OT.storeL0 tab 0 rfl rfl rfl rfl rfl rfl rfl rfl ?_))
 repeat (first|refine q1 ?_|refine q3 ?_|refine q4 tab rfl rfl ?_|refine q5 ?_|refine q6 ?_)
 refine TO.step rfl (OT.call rfl rfl rfl rfl rfl rfl goes10 ((awake_law _ _ (hE.mono hm02)).x ?_));
 rintro _ m3 _ ⟨hm3, rfl, rfl⟩
 replace hx := hx.mono hm3
 replace hy := hy.mono hm3
 have hm03 := Mem.le_trans hm02 hm3
 repeat (refine q4 tab rfl rfl ?_)
 (refine TO.splitN rfl rfl (fun c1 => ?_) (fun c1 => ?_))
 ·skip
  repeat (first|refine q1 ?_|refine q3 ?_|refine q4 tab rfl rfl ?_|refine q5 ?_|refine q6 ?_|refine q16 rfl ?_)
  refine TO.step rfl (OT.call rfl rfl rfl rfl rfl rfl goes10 ((awake_law _ _ (hE.mono hm03)).x ?_));
  rintro _ m4 _ ⟨hm4, rfl, rfl⟩
  repeat (first|refine q4 tab rfl rfl ?_|refine q5 ?_|refine q6 ?_|refine q8 ?_|refine q15 ?_)
  exact retQ_ret rfl (by repeat (first|exact List.Sublist.refl _|refine List.Sublist.cons _ ?_)) ⟨Mem.le_trans hm03 hm4, rfl, rfl⟩
 repeat (refine q4 tab rfl rfl ?_)
 (refine TO.splitN rfl rfl (fun c2 => ?_) (fun c2 => ?_))
 ·skip
  repeat (first|refine q1 ?_|refine q3 ?_|refine q4 tab rfl rfl ?_|refine q5 ?_|refine q6 ?_|refine q16 rfl ?_)
  refine TO.step rfl (OT.call rfl rfl rfl rfl rfl rfl goes10 ((awake_law _ _ (hE.mono hm03)).x ?_));
  rintro _ m4 _ ⟨hm4, rfl, rfl⟩
  repeat (first|refine q4 tab rfl rfl ?_|refine q5 ?_|refine q6 ?_|refine q8 ?_|refine q15 ?_)
  exact retQ_ret rfl (by repeat (first|exact List.Sublist.refl _|refine List.Sublist.cons _ ?_)) ⟨Mem.le_trans hm03 hm4, rfl, rfl⟩
 obtain ⟨hls, ds, hdl, hps⟩ := parse_ok (s := s) c1
 obtain ⟨hlt, ds', hdl', hpt⟩ := parse_ok (s := t) c2
 rw [hps] at hx
 rw [hpt] at hy
 repeat (refine q4 tab rfl rfl ?_)
 refine TO.step rfl (OT.arith (r' := 65536 - (t.length : Int)) rfl rfl rfl rfl rfl rfl (by omega) (by omega) ?_)
 repeat (first|refine q4 tab rfl rfl ?_|refine q5 ?_|refine q6 ?_)
 refine TC.condP rfl (fun c3 => ?_) (fun c3 => ?_)
 ·skip
  repeat (first|refine q1 ?_|refine q3 ?_)
  refine TO.step rfl (OT.call rfl rfl rfl rfl rfl rfl goes10 ((awake_law _ _ (hE.mono hm03)).x ?_));
  rintro _ m4 _ ⟨hm4, rfl, rfl⟩
  repeat (first|refine q4 tab rfl rfl ?_|refine q5 ?_|refine q6 ?_|refine q8 ?_|refine q15 ?_)
  exact retQ_ret rfl (by repeat (first|exact List.Sublist.refl _|refine List.Sublist.cons _ ?_)) ⟨Mem.le_trans hm03 hm4, rfl, rfl⟩
 have hj := parse_join hps hpt (by omega)
 repeat (first|refine q1 ?_|refine q3 ?_|refine q4 tab rfl rfl ?_|refine q6 ?_|refine q13 ?_)
 refine TO.step rfl (OT.concat (s := s) (u := [10]) rfl rfl rfl rfl rfl (by simp only [List.length_cons, List.length_nil]; omega) ?_)
 repeat (refine q4 tab rfl rfl ?_)
 refine TO.step rfl (OT.concat (s := s ++ [10]) (u := t) rfl rfl rfl rfl rfl (by simp only [List.length_append, List.length_cons, List.length_nil]; omega) ?_)
 rw [show s ++ [10] ++ t = s ++ 10 :: t by simp]
 skip
 refine TO.step rfl (OT.call rfl rfl rfl rfl rfl rfl goes8 ((parse_law program_ne _ _ (s ++ 10 :: t) (hE.mono hm03)).x ?_));
 rintro _ m4 _ ⟨hm4, rfl, z, rfl, hz⟩
 replace hx := hx.mono hm4
 replace hy := hy.mono hm4
 have hm04 := Mem.le_trans hm03 hm4
 repeat (refine q4 tab rfl rfl ?_)
 refine TO.step rfl (OT.alloc tab rfl rfl rfl rfl (fun b11 => ?_))
 skip
 (refine TO.step rfl (OT.storeL0 tab 0 rfl rfl rfl rfl rfl rfl rfl rfl ?_))
 repeat (first|refine q1 ?_|refine q3 ?_|refine q4 tab rfl rfl ?_|refine q5 ?_|refine q6 ?_)
 rcases hj with hj | hj
 ·refine TC.condP rfl (fun c4 => ?_) (fun c4 => ?_)
  ·repeat (first|refine q1 ?_|refine q3 ?_|refine q4 tab rfl rfl ?_|refine q5 ?_|refine q6 ?_|refine q8 ?_|refine q15 ?_)
   exact retQ_ret rfl (by repeat (first|exact List.Sublist.refl _|refine List.Sublist.cons _ ?_)) ⟨hm04, rfl, rfl⟩
  ·exact absurd hj c4
 rw [hj] at hz ⊢
 obtain ⟨x1, x2, x3, x4⟩ := hx
 obtain ⟨y1, y2, y3, y4⟩ := hy
 replace x4 : SlRep rTree m4 x.kids ds := x4
 replace y4 : SlRep rTree m4 y.kids ds' := y4
 repeat (first|refine q1 ?_|refine q6 ?_|refine q13 ?_|refine q17 rfl ?_)
 refine TC.draw [] mixed 10 rfl [.cells b11 0 (treeC z), .cells b2 0 (treeC y), .cells b 0 (treeC x)] L (by first | exact List.Perm.refl _ | (rw [List.append_nil]; exact List.Perm.refl _)) ?_
 refine DO.pure tab (by repeat (first|exact Calm.ret|refine Calm.then ?_)) (by kernel_rfl) [1, 4] (by kernel_rfl) rfl ?_
 (refine DO.loadL tab 2 2 (by repeat (first|exact Calm.ret|refine Calm.then ?_)) (by kernel_rfl) (by kernel_rfl) rfl rfl rfl rfl rfl rfl rfl rfl ?_)
 (refine DO.loadL tab 5 1 (by repeat (first|exact Calm.ret|refine Calm.then ?_)) (by kernel_rfl) (by kernel_rfl) rfl rfl rfl rfl rfl rfl rfl rfl ?_)
 refine DO.fork 0 [8] (by kernel_rfl) ⟨⟨_, rfl, rfl, rfl, ?_⟩, ⟨_, rfl, rfl, rfl, ?_⟩, trivial⟩
 ·skip
  refine OT.litR tab rTree (hs := []) (l := []) trivial rfl rfl rfl rfl rfl (by decide) (fun s0 m5 hm5 hs0 ho0 hc0 => ?_)
  refine ⟨hm5, L, List.Perm.refl _, ?_⟩
  refine DO.fork 3 [8] (by kernel_rfl) ⟨⟨_, rfl, rfl, rfl, ?_⟩, ⟨_, rfl, rfl, rfl, ?_⟩, trivial⟩
  ·skip
   refine OT.tokFo hc0 ho0 4 (OT.append tab rTree 0 hs0 ho0 (x4.mono hm5) rfl rfl rfl rfl rfl rfl rfl (by simp only [List.length_append, List.length_nil, rTree, mkR]; omega) (fun s1 m6 hm6 hs1 ho1 => ?_))
   refine ⟨hm6, tok s1 4 :: L, (List.Perm.trans pfr1 (List.Perm.cons _ (List.Perm.trans pfr1 (List.Perm.cons _ pfr1)))), ?_⟩
   refine DO.fork 6 [8] (by kernel_rfl) ⟨⟨_, rfl, rfl, rfl, ?_⟩, ⟨_, rfl, rfl, rfl, ?_⟩, trivial⟩
   ·skip
    refine OT.append tab rTree 3 hs1 ho1 ((y4.mono hm5).mono hm6) rfl rfl rfl rfl rfl rfl rfl (by simp only [List.length_append, List.length_nil, rTree, mkR]; omega) (fun s2 m7 hm7 hs2 ho2 => ?_)
    refine ⟨hm7, tok s2 4 :: L, List.Perm.refl _, ?_⟩
    refine DO.pure tab (by repeat (first|exact Calm.ret|refine Calm.then ?_)) (by kernel_rfl) [7] (by kernel_rfl) rfl ?_
    refine DO.run 8 rfl rfl (by kernel_rfl) rfl ?_
    refine OT.alloc tab rfl rfl rfl rfl (fun b14 => ?_)
    refine ⟨Mem.le_refl _, tok s2 4 :: .cells b14 0 [.int .i64 0, strV [], .int .i64 0, .slice none 0 0] :: L, (List.Perm.trans pfr1 (List.Perm.cons _ (List.Perm.trans pfr1 (List.Perm.cons _ (List.Perm.trans pfr1 (List.Perm.cons _ pfr1)))))), ?_⟩
    refine DO.run 9 rfl rfl (by kernel_rfl) rfl ?_
    refine OT.storeL0 tab 4 rfl rfl rfl rfl rfl rfl rfl rfl ?_
    refine ⟨Mem.le_refl _, tok s2 4 :: .cells b14 0 (treeC ⟨1, [], 0, s2⟩) :: L, List.Perm.refl _, ?_⟩
    refine DO.nil (by kernel_rfl) ?_
    have hm57 := Mem.le_trans (Mem.le_trans hm5 hm6) hm7
    repeat (first|refine q1 ?_|refine q3 ?_|refine q4 tab rfl rfl ?_|refine q6 ?_)
    refine TO.step rfl (OT.loadL0 tab 0 rfl rfl rfl rfl rfl rfl ?_)
    refine TO.step rfl (OT.loadL0 tab 4 rfl rfl rfl rfl rfl rfl ?_)
    skip
    have hw : TreeRep m7 ⟨1, [], 0, s2⟩ (.mk 1 [] 0 (ds ++ ds')) := ⟨rfl, rfl, rfl, hs2⟩
    refine TO.step rfl (OT.call rfl rfl rfl rfl rfl rfl goes11 ((same_ref _ _ _ _ z ⟨1, [], 0, s2⟩ (hz.mono hm57) hw).x ?_));
    rw [teq_refl]
    rintro _ _ _ ⟨rfl, rfl, rfl⟩
    repeat (first|refine q4 tab rfl rfl ?_|refine q5 ?_|refine q6 ?_|refine q15 ?_)
    exact retQ_ret rfl (by repeat (first|exact List.Sublist.refl _|refine List.Sublist.cons _ ?_)) ⟨Mem.le_trans hm04 hm57, rfl, rfl⟩
   ·skip
    refine OT.alloc tab rfl rfl rfl rfl (fun b14 => ?_)
    refine ⟨Mem.le_refl _, tok s1 4 :: .cells b14 0 [.int .i64 0, strV [], .int .i64 0, .slice none 0 0] :: L, (List.Perm.trans pfr1 (List.Perm.cons _ (List.Perm.trans pfr1 (List.Perm.cons _ (List.Perm.trans pfr1 (List.Perm.cons _ pfr1)))))), ?_⟩
    refine DO.run 6 rfl rfl (by kernel_rfl) rfl ?_
    refine OT.append tab rTree 3 hs1 ho1 ((y4.mono hm5).mono hm6) rfl rfl rfl rfl rfl rfl rfl (by simp only [List.length_append, List.length_nil, rTree, mkR]; omega) (fun s2 m7 hm7 hs2 ho2 => ?_)
    refine ⟨hm7, tok s2 4 :: (.cells b14 0 [.int .i64 0, strV [], .int .i64 0, .slice none 0 0] :: L), List.Perm.refl _, ?_⟩
    refine DO.pure tab (by repeat (first|exact Calm.ret|refine Calm.then ?_)) (by kernel_rfl) [7] (by kernel_rfl) rfl ?_
    refine DO.run 9 rfl rfl (by kernel_rfl) rfl ?_
    refine OT.storeL0 tab 4 rfl rfl rfl rfl rfl rfl rfl rfl ?_
    refine ⟨Mem.le_refl _, tok s2 4 :: .cells b14 0 (treeC ⟨1, [], 0, s2⟩) :: L, List.Perm.refl _, ?_⟩
    refine DO.nil (by kernel_rfl) ?_
    have hm57 := Mem.le_trans (Mem.le_trans hm5 hm6) hm7
    repeat (first|refine q1 ?_|refine q3 ?_|refine q4 tab rfl rfl ?_|refine q6 ?_)
    refine TO.step rfl (OT.loadL0 tab 0 rfl rfl rfl rfl rfl rfl ?_)
    refine TO.step rfl (OT.loadL0 tab 4 rfl rfl rfl rfl rfl rfl ?_)
    skip
    have hw : TreeRep m7 ⟨1, [], 0, s2⟩ (.mk 1 [] 0 (ds ++ ds')) := ⟨rfl, rfl, rfl, hs2⟩
    refine TO.step rfl (OT.call rfl rfl rfl rfl rfl rfl goes11 ((same_ref _ _ _ _ z ⟨1, [], 0, s2⟩ (hz.mono hm57) hw).x ?_));
    rw [teq_refl]
    rintro _ _ _ ⟨rfl, rfl, rfl⟩
    repeat (first|refine q4 tab rfl rfl ?_|refine q5 ?_|refine q6 ?_|refine q15 ?_)
    exact retQ_ret rfl (by repeat (first|exact List.Sublist.refl _|refine List.Sublist.cons _ ?_)) ⟨Mem.le_trans hm04 hm57, rfl, rfl⟩
  ·skip
   refine OT.alloc tab rfl rfl rfl rfl (fun b14 => ?_)
   refine ⟨Mem.le_refl _, .cells b14 0 [.int .i64 0, strV [], .int .i64 0, .slice none 0 0] :: L, (List.Perm.trans pfr1 (List.Perm.cons _ (List.Perm.trans pfr1 (List.Perm.cons _ pfr1)))), ?_⟩
   refine DO.run 3 rfl rfl (by kernel_rfl) rfl ?_
   refine OT.tokFo hc0 ho0 4 (OT.append tab rTree 0 hs0 ho0 (x4.mono hm5) rfl rfl rfl rfl rfl rfl rfl (by simp only [List.length_append, List.length_nil, rTree, mkR]; omega) (fun s1 m6 hm6 hs1 ho1 => ?_))
   refine ⟨hm6, tok s1 4 :: (.cells b14 0 [.int .i64 0, strV [], .int .i64 0, .slice none 0 0] :: L), (List.Perm.trans pfr1 (List.Perm.cons _ (List.Perm.trans pfr1 (List.Perm.cons _ pfr1)))), ?_⟩
   refine DO.run 6 rfl rfl (by kernel_rfl) rfl ?_
   refine OT.append tab rTree 3 hs1 ho1 ((y4.mono hm5).mono hm6) rfl rfl rfl rfl rfl rfl rfl (by simp only [List.length_append, List.length_nil, rTree, mkR]; omega) (fun s2 m7 hm7 hs2 ho2 => ?_)
   refine ⟨hm7, tok s2 4 :: (.cells b14 0 [.int .i64 0, strV [], .int .i64 0, .slice none 0 0] :: L), List.Perm.refl _, ?_⟩
   refine DO.pure tab (by repeat (first|exact Calm.ret|refine Calm.then ?_)) (by kernel_rfl) [7] (by kernel_rfl) rfl ?_
   refine DO.run 9 rfl rfl (by kernel_rfl) rfl ?_
   refine OT.storeL0 tab 4 rfl rfl rfl rfl rfl rfl rfl rfl ?_
   refine ⟨Mem.le_refl _, tok s2 4 :: .cells b14 0 (treeC ⟨1, [], 0, s2⟩) :: L, List.Perm.refl _, ?_⟩
   refine DO.nil (by kernel_rfl) ?_
   have hm57 := Mem.le_trans (Mem.le_trans hm5 hm6) hm7
   repeat (first|refine q1 ?_|refine q3 ?_|refine q4 tab rfl rfl ?_|refine q6 ?_)
   refine TO.step rfl (OT.loadL0 tab 0 rfl rfl rfl rfl rfl rfl ?_)
   refine TO.step rfl (OT.loadL0 tab 4 rfl rfl rfl rfl rfl rfl ?_)
   skip
   have hw : TreeRep m7 ⟨1, [], 0, s2⟩ (.mk 1 [] 0 (ds ++ ds')) := ⟨rfl, rfl, rfl, hs2⟩
   refine TO.step rfl (OT.call rfl rfl rfl rfl rfl rfl goes11 ((same_ref _ _ _ _ z ⟨1, [], 0, s2⟩ (hz.mono hm57) hw).x ?_));
   rw [teq_refl]
   rintro _ _ _ ⟨rfl, rfl, rfl⟩
   repeat (first|refine q4 tab rfl rfl ?_|refine q5 ?_|refine q6 ?_|refine q15 ?_)
   exact retQ_ret rfl (by repeat (first|exact List.Sublist.refl _|refine List.Sublist.cons _ ?_)) ⟨Mem.le_trans hm04 hm57, rfl, rfl⟩
 ·skip
  refine OT.alloc tab rfl rfl rfl rfl (fun b14 => ?_)
  refine ⟨Mem.le_refl _, .cells b14 0 [.int .i64 0, strV [], .int .i64 0, .slice none 0 0] :: L, (List.Perm.trans pfr1 (List.Perm.cons _ (List.Perm.trans pfr1 (List.Perm.cons _ pfr1)))), ?_⟩
  refine DO.run 0 rfl rfl (by kernel_rfl) rfl ?_
  refine OT.litR tab rTree (hs := []) (l := []) trivial rfl rfl rfl rfl rfl (by decide) (fun s0 m5 hm5 hs0 ho0 hc0 => ?_)
  refine ⟨hm5, (.cells b14 0 [.int .i64 0, strV [], .int .i64 0, .slice none 0 0] :: L), List.Perm.refl _, ?_⟩
  refine DO.run 3 rfl rfl (by kernel_rfl) rfl ?_
  refine OT.tokFo hc0 ho0 4 (OT.append tab rTree 0 hs0 ho0 (x4.mono hm5) rfl rfl rfl rfl rfl rfl rfl (by simp only [List.length_append, List.length_nil, rTree, mkR]; omega) (fun s1 m6 hm6 hs1 ho1 => ?_))
  refine ⟨hm6, tok s1 4 :: (.cells b14 0 [.int .i64 0, strV [], .int .i64 0, .slice none 0 0] :: L), (List.Perm.trans pfr1 (List.Perm.cons _ (List.Perm.trans pfr1 (List.Perm.cons _ pfr1)))), ?_⟩
  refine DO.run 6 rfl rfl (by kernel_rfl) rfl ?_
  refine OT.append tab rTree 3 hs1 ho1 ((y4.mono hm5).mono hm6) rfl rfl rfl rfl rfl rfl rfl (by simp only [List.length_append, List.length_nil, rTree, mkR]; omega) (fun s2 m7 hm7 hs2 ho2 => ?_)
  refine ⟨hm7, tok s2 4 :: (.cells b14 0 [.int .i64 0, strV [], .int .i64 0, .slice none 0 0] :: L), List.Perm.refl _, ?_⟩
  refine DO.pure tab (by repeat (first|exact Calm.ret|refine Calm.then ?_)) (by kernel_rfl) [7] (by kernel_rfl) rfl ?_
  refine DO.run 9 rfl rfl (by kernel_rfl) rfl ?_
  refine OT.storeL0 tab 4 rfl rfl rfl rfl rfl rfl rfl rfl ?_
  refine ⟨Mem.le_refl _, tok s2 4 :: .cells b14 0 (treeC ⟨1, [], 0, s2⟩) :: L, List.Perm.refl _, ?_⟩
  refine DO.nil (by kernel_rfl) ?_
  have hm57 := Mem.le_trans (Mem.le_trans hm5 hm6) hm7
  repeat (first|refine q1 ?_|refine q3 ?_|refine q4 tab rfl rfl ?_|refine q6 ?_)
  refine TO.step rfl (OT.loadL0 tab 0 rfl rfl rfl rfl rfl rfl ?_)
  refine TO.step rfl (OT.loadL0 tab 4 rfl rfl rfl rfl rfl rfl ?_)
  skip
  have hw : TreeRep m7 ⟨1, [], 0, s2⟩ (.mk 1 [] 0 (ds ++ ds')) := ⟨rfl, rfl, rfl, hs2⟩
  refine TO.step rfl (OT.call rfl rfl rfl rfl rfl rfl goes11 ((same_ref _ _ _ _ z ⟨1, [], 0, s2⟩ (hz.mono hm57) hw).x ?_));
  rw [teq_refl]
  rintro _ _ _ ⟨rfl, rfl, rfl⟩
  repeat (first|refine q4 tab rfl rfl ?_|refine q5 ?_|refine q6 ?_|refine q15 ?_)
  exact retQ_ret rfl (by repeat (first|exact List.Sublist.refl _|refine List.Sublist.cons _ ?_)) ⟨Mem.le_trans hm04 hm57, rfl, rfl⟩
end Go.Sep

